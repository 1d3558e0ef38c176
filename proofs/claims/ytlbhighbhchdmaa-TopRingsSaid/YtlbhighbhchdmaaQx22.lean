-- Written by a program of this session (wip/tools/gprint.py, over the kit's print); Lean checks it.
import Derived.Test.YtlbhighbhchdmaaQx0
import Derived.Test.YtlbhighbhchdmaaQx4
import Derived.Test.YtlbhighbhchdmaaQx9
import Derived.Test.YtlbhighbhchdmaaQx10
import Derived.Test.YtlbhighbhchdmaaQx21
namespace Go.Proofs.Ytlbhighbhchdmaa.Q
open Go.RowKit Go.Proofs.YtlbhighbhchdmaaW.PrintWords Go.Proofs.YtlbhighbhchdmaaW.PrintLast Go.Proofs.YtlbhighbhchdmaaW.PrintMore
attribute [local go_sem] max2_int min2_int max_two min_two max_three min_three max_four min_four   -- for this text's walks alone
set_option linter.unusedVariables false
set_option linter.unusedSimpArgs false

/-! ### ring_First: function 41 -/
-- GIVEN wigeon/ring.First rounds=0 making=1
-- IMPORT Derived.Laws.RangeAny Derived.Laws.Runes Derived.Lib.Hide Derived.Lib.OthersKept Derived.Laws.CopyOwn Derived.Deep.DeepMust Derived.Deep.RegionWith Derived.IntWalk Derived.Laws.Tables
/-! The first ring that fits: the plain part. -/
def leastD (p : Nat → Bool) : Nat → Nat → Nat
  | 0, d => d
  | k + 1, d => if p d = true then d else leastD p k (d + 1)
theorem leastD_eq {p : Nat → Bool} {d : Nat} (h : p d = true) (hl : ∀ e, e < d → p e = false) : ∀ k e, e ≤ d → d < e + k → leastD p k e = d := by
  intro k
  induction k with
  | zero => intro e h1 h2; omega
  | succ k ih =>
    intro e h1 h2
    unfold leastD
    by_cases he : e = d
    · subst he
      rw [if_pos h]
    · rw [if_neg (by rw [hl e (by omega)]; decide)]
      exact ih (e + 1) (by omega) (by omega)
theorem exists_least {p : Nat → Bool} {n : Nat} (h : ∃ d, d < n ∧ p d = true) : ∃ d, d < n ∧ p d = true ∧ ∀ e, e < d → p e = false := by
  induction n with
  | zero => obtain ⟨d, hd, _⟩ := h; omega
  | succ n ih =>
    by_cases h1 : ∃ d, d < n ∧ p d = true
    · obtain ⟨d, h2, h3, h4⟩ := ih h1
      exact ⟨d, by omega, h3, h4⟩
    · obtain ⟨d, hd, hp⟩ := h
      have hdn : d = n := by
        rcases Nat.lt_or_ge d n with h2 | h2
        · exact absurd ⟨d, h2, hp⟩ h1
        · omega
      subst hdn
      refine ⟨d, by omega, hp, fun e he => ?_⟩
      cases hq : p e with
      | false => rfl
      | true => exact absurd ⟨e, he, hq⟩ h1
def putB (b : ByteArray) (i : Nat) (c : UInt8) : ByteArray := ⟨b.data.setIfInBounds i c⟩
theorem putB_size (b : ByteArray) (i : Nat) (c : UInt8) : (putB b i c).size = b.size := by
  show (b.data.setIfInBounds i c).size = b.data.size
  simp
theorem putB_same (b : ByteArray) (i : Nat) (c : UInt8) (hi : i < b.size) : bt (putB b i c) (i : Int) = (c.toNat : Int) := by
  have h : i < (putB b i c).size := by rw [putB_size]; exact hi
  rw [bt_of h]
  congr 1
  have e : (putB b i c)[i] = c := by
    have h2 : (b.data.setIfInBounds i c)[i]'(by simpa using hi) = c := by simp
    exact h2
  rw [e]
theorem putB_other (b : ByteArray) (i j : Nat) (c : UInt8) (hj : j < b.size) (h : j ≠ i) : bt (putB b i c) (j : Int) = bt b (j : Int) := by
  have h1 : j < (putB b i c).size := by rw [putB_size]; exact hj
  rw [bt_of h1, bt_of hj]
  congr 2
  have h2 : (b.data.setIfInBounds i c)[j]'(by simpa using hj) = b.data[j]'hj := by
    rw [Array.getElem_setIfInBounds]
    rw [if_neg (fun e => h e.symm)]
  exact h2
theorem putB_putB (b : ByteArray) (i : Nat) (c d : UInt8) : putB (putB b i c) i d = putB b i d := by
  unfold putB
  simp
def dig8 (d : Nat) : UInt8 := UInt8.ofNat (48 + d)
theorem dig8_nat {d : Nat} (h : d < 10) : (dig8 d).toNat = 48 + d := by
  unfold dig8
  rw [UInt8.toNat_ofNat']
  omega
def goodB (b : ByteArray) : Bool := decide (gN (waysT b 6) 0 ≠ 0)
theorem okQ_congr {b c : ByteArray} {i d : Nat} (h : bt b (i : Int) = bt c (i : Int)) : okQ b i d = okQ c i d := by
  unfold okQ
  rw [h]
theorem goodB_congr {b c : ByteArray} (hs : b.size = c.size) (h6 : 6 ≤ b.size) (h : ∀ i, b.size - 6 ≤ i → i < b.size → bt b (i : Int) = bt c (i : Int)) : goodB b = goodB c := by
  unfold goodB
  rw [waysT_get b 6 0 h6 (by decide), waysT_get c 6 0 (by omega) (by decide), wT_congr (o := oS b) (p := oS c) (fun j d hj hd => by unfold oS; rw [hs]; exact okQ_congr (h _ (by omega) (by omega))) 0 (by decide)]
theorem hole_put {b : ByteArray} {i : Nat} (hi : i < b.size) (hb : bt b (i : Int) = 63) (x : Nat) (hx : x < 10) (t : Nat) (ht : t < 10) (n : Nat) (hn : n ≤ b.size) : wT (atN (oS b) (b.size - 1 - i) x) n t = wT (oS (putB b i (dig8 x))) n t := by
  refine wT_congr (fun j d hj hd => ?_) t ht
  unfold atN oS
  rw [putB_size]
  by_cases e : j = b.size - 1 - i
  · rw [if_pos e, show b.size - 1 - j = i by omega]
    unfold okQ
    rw [putB_same b i _ hi, dig8_nat hx]
    by_cases e2 : d = x
    · subst e2
      simp
    · rw [decide_eq_false e2]
      simp
      omega
  · rw [if_neg e]
    exact okQ_congr (putB_other b i _ _ (by omega) (by omega)).symm
theorem oS_hole {b : ByteArray} {i : Nat} (hi : i < b.size) (hb : bt b (i : Int) = 63) (d : Nat) : oS b (b.size - 1 - i) d = true := by
  unfold oS okQ
  rw [show b.size - 1 - (b.size - 1 - i) = i by omega, hb]
  rfl
theorem pick_some {b : ByteArray} {i : Nat} (h6 : 6 ≤ b.size) (hi : i < b.size) (hi6 : b.size - 6 ≤ i) (hb : bt b (i : Int) = 63) (hg : goodB b = true) : ∃ d, d < 10 ∧ goodB (putB b i (dig8 d)) = true := by
  unfold goodB at hg
  have h1 := of_decide_eq_true hg
  rw [waysT_get b 6 0 h6 (by decide), wT_split (oS b) (b.size - 1 - i) 6 0 (fun d _ => oS_hole hi hb d) (by omega) (by decide)] at h1
  obtain ⟨x, hx, hne⟩ := sumF_pos h1
  refine ⟨x, hx, ?_⟩
  unfold goodB
  rw [waysT_get _ 6 0 (by rw [putB_size]; exact h6) (by decide), ← hole_put hi hb x hx 0 (by decide) 6 h6]
  exact decide_eq_true hne
def pickB (b : ByteArray) (i : Nat) : Nat := leastD (fun d => goodB (putB b i (dig8 d))) 10 0
def fstB (n : Nat) (b : ByteArray) : Nat → ByteArray
  | 0 => b
  | i + 1 => if bt (fstB n b i) (i : Int) = 63 then (if i < n then putB (fstB n b i) i 65 else putB (fstB n b i) i (dig8 (pickB (fstB n b i) i))) else fstB n b i
theorem fstB_size (n : Nat) (b : ByteArray) (i : Nat) : (fstB n b i).size = b.size := by
  induction i with
  | zero => rfl
  | succ i ih =>
    unfold fstB
    split
    · split <;> rw [putB_size, ih]
    · exact ih
theorem fstB_later (n : Nat) (b : ByteArray) (i j : Nat) (h : i ≤ j) (hj : j < b.size) : bt (fstB n b i) (j : Int) = bt b (j : Int) := by
  induction i with
  | zero => rfl
  | succ i ih =>
    unfold fstB
    split
    · split
      · rw [putB_other _ _ _ _ (by rw [fstB_size]; exact hj) (by omega), ih (by omega)]
      · rw [putB_other _ _ _ _ (by rw [fstB_size]; exact hj) (by omega), ih (by omega)]
    · exact ih (by omega)
theorem pickB_spec {b : ByteArray} {i : Nat} (h : ∃ d, d < 10 ∧ goodB (putB b i (dig8 d)) = true) : pickB b i < 10 ∧ goodB (putB b i (dig8 (pickB b i))) = true := by
  obtain ⟨d, h1, h2, h3⟩ := exists_least (p := fun d => goodB (putB b i (dig8 d))) h
  have e : pickB b i = d := leastD_eq (p := fun d => goodB (putB b i (dig8 d))) h2 h3 10 0 (by omega) (by omega)
  rw [e]
  exact ⟨h1, h2⟩
theorem pickB_eq {b : ByteArray} {i d : Nat} (hd : d < 10) (h : goodB (putB b i (dig8 d)) = true) (hl : ∀ e, e < d → goodB (putB b i (dig8 e)) = false) : pickB b i = d :=
  leastD_eq (p := fun d => goodB (putB b i (dig8 d))) h hl 10 0 (by omega) (by omega)
theorem fstB_good {n : Nat} {b : ByteArray} (hn : b.size = n + 6) (hg : goodB b = true) (i : Nat) (hi : i ≤ b.size) : goodB (fstB n b i) = true := by
  induction i with
  | zero => exact hg
  | succ i ih =>
    have ih := ih (by omega)
    have hs := fstB_size n b i
    unfold fstB
    split
    · rename_i h63
      split
      · rename_i hin
        rw [← ih]
        exact goodB_congr (by rw [putB_size]) (by rw [putB_size, hs]; omega) (fun j h1 h2 => putB_other _ _ _ _ (by rw [putB_size] at h2; exact h2) (by rw [putB_size, hs] at h1; omega))
      · rename_i hin
        exact (pickB_spec (pick_some (by omega) (by omega) (by omega) h63 ih)).2
    · exact ih
/-! The row of a []byte that bears a text. -/
structure BRow (w : World) (g : Nat) (b : ByteArray) : Prop where
  ex : ∃ cs fz, w.heap[g]? = some (.cells cs 5 fz) ∧ (fz.2 = 0 ∨ cs.size ≤ fz.1) ∧ b.size ≤ cs.size ∧ ∀ j (h : j < b.size), cs[j]? = some (.int .u8 (((b[j]'h).toNat : Nat) : Int))
theorem BRow.lt {w : World} {g : Nat} {b : ByteArray} (h : BRow w g b) : g < w.heap.size := by
  obtain ⟨cs, fz, hg, _⟩ := h.ex
  exact (Array.getElem?_eq_some_iff.1 hg).1
theorem BRow.cell {w : World} {g : Nat} {b : ByteArray} (h : BRow w g b) (i : Nat) (hi : i < b.size) : w.cell? ⟨g, i, none⟩ = some (.int .u8 (bt b (i : Int))) := by
  obtain ⟨cs, fz, hg, _, _, hc⟩ := h.ex
  rw [cell_of_row w g i cs 5 fz hg, hc i hi, bt_of hi]
theorem BRow.free {w : World} {g : Nat} {b : ByteArray} (h : BRow w g b) (i : Nat) (hi : i < b.size) : w.frozen? ⟨g, i, none⟩ = false := by
  obtain ⟨cs, fz, hg, hf, hs, _⟩ := h.ex
  obtain ⟨f1, f2⟩ := fz
  simp only [World.frozen?, hg]
  simp only at hf
  by_cases h1 : f1 ≤ i
  · have h2 : ¬ i < f2 := by omega
    simp [h2]
  · simp [h1]
theorem BRow.store {w : World} {g : Nat} {b : ByteArray} (h : BRow w g b) (i : Nat) (hi : i < b.size) (c : UInt8) (v : Int) (hv : v = ((c.toNat : Nat) : Int)) : BRow (w.setCell ⟨g, i, none⟩ (.int .u8 v)) g (putB b i c) := by
  subst hv
  obtain ⟨cs, fz, hg, hf, hs, hc⟩ := h.ex
  refine ⟨cs.setIfInBounds i (.int .u8 ((c.toNat : Nat) : Int)), fz, ?_, by simpa using hf, by rw [putB_size]; simpa using hs, ?_⟩
  · rw [setCell_eq_setRow w g i cs 5 fz _ hg]
    exact setRow_heap w g cs _ 5 fz hg
  · intro j hj
    have hj2 : j < b.size := by rwa [putB_size] at hj
    rw [Array.getElem?_setIfInBounds]
    have hb : ((((putB b i c)[j]'hj).toNat : Nat) : Int) = bt (putB b i c) (j : Int) := (bt_of hj).symm
    rw [hb]
    by_cases e : i = j
    · subst e
      rw [if_pos rfl, if_pos (by omega), putB_same b i c hi]
    · rw [if_neg e, hc j hj2, putB_other b i j c hj2 (fun h => e h.symm), bt_of hj2]
theorem BRow.below {w w1 : World} {g : Nat} {b : ByteArray} (h : BRow w g b) (hb : Below w.heap.size w w1) : BRow w1 g b := by
  have hl := h.lt
  obtain ⟨cs, fz, hg, rest⟩ := h.ex
  exact ⟨cs, fz, (hb.block g hl).trans hg, rest⟩
theorem BRow.made (w : World) (s : ByteArray) : BRow (Lib.bytesWorld w 5 s) w.heap.size s := by
  have hge := grownCap_ge w s.size 0 5
  have hsz : (Lib.bytesCells w 5 s).size = grownCap w s.size 0 5 := by
    unfold Lib.bytesCells
    rw [Array.size_append, Array.size_map, Array.size_replicate]
    have : s.data.size = s.size := rfl
    omega
  refine ⟨Lib.bytesCells w 5 s, _, Lib.bytesWorld_at_new w 5 s, .inr (Nat.le_refl _), by omega, fun j hj => ?_⟩
  unfold Lib.bytesCells
  have hj2 : j < s.data.size := hj
  rw [Array.getElem?_append_left (by rw [Array.size_map]; exact hj2), Array.getElem?_map, Array.getElem?_eq_getElem hj2]
  rfl
theorem BRow.str {w : World} {g : Nat} {b : ByteArray} (h : BRow w g b) (cap : Nat) : (convert 77 9 (.slice (some ⟨g, 0, none⟩) b.size cap)).run Try.prog w = .ok (.string b) w := by
  have hl : b.data.toList.length = b.size := by rw [Array.length_toList]; rfl
  have hcv := run_convert_bytes_back (P := Try.prog) w 77 9 5 ⟨g, 0, none⟩ cap b.data.toList Try.underlying77 Try.underlying5 Try.underlying9 (fun j hj => by
    have hadd : (⟨g, 0, none⟩ : Addr).add j = ⟨g, j, none⟩ := by unfold Addr.add; split <;> simp_all
    have hj2 : j < b.size := by omega
    rw [hadd, h.cell j hj2, bt_of hj2]
    rw [Array.getElem_toList]
    rfl)
  rw [hl] at hcv
  exact hcv
def firstP (s : ByteArray) : ByteArray × Bool × Int := if (formP s true).2 = true then (if gN (waysT s 6) 0 = 0 then (⟨#[]⟩, false, 0) else (fstB (s.size - 6) s s.size, true, 0)) else (⟨#[]⟩, false, 2)
def FirstPost (w : World) (r : ByteArray) (b : Bool) (n : Int) (e : Ending) (w' : World) : Prop := e = .returned (.tuple #[.string r, .bool b, .int .i64 n]) ∧ Below w.heap.size w w'
theorem BRow.strn {w : World} {g : Nat} {b : ByteArray} (h : BRow w g b) (cap m : Nat) (hm : b.size = m) : (convert 77 9 (.slice (some ⟨g, 0, none⟩) m cap)).run Try.prog w = .ok (.string b) w := by
  subst hm
  exact h.str cap
def byteAt (w : World) (g i : Nat) : Nat := match w.cell? ⟨g, i, none⟩ with | some (.int _ n) => n.toNat | _ => 0
theorem BRow.byte {w : World} {g : Nat} {b : ByteArray} (h : BRow w g b) (i : Nat) (hi : i < b.size) : byteAt w g i = (bt b (i : Int)).toNat := by
  unfold byteAt
  rw [h.cell i hi]
set_option maxHeartbeats 8000000 in
set_option maxRecDepth 100000 in
theorem ring_First.good (s : ByteArray) (w : World) (h7 : 7 ≤ s.size) (h8 : s.size ≤ 8) (hf : formP s true = ((s.size : Int) - 6, true)) (hok : ∀ i, i < s.size → okb true (s.size - 6) i (bt s i) = true) (hg : gN (waysT s 6) 0 ≠ 0) :
    Calls Try.prog 41 #[.string s] w (FirstPost w (fstB (s.size - 6) s s.size) true 0) := by
  have kb := fun W => print_bytes (P := Try.prog) 9 77 5 Try.underlying9 Try.underlying77 Try.underlying5 s W
  obtain ⟨n, hn⟩ : ∃ n : Nat, (n : Int) = (s.size : Int) - 6 := ⟨s.size - 6, by omega⟩
  have hn2 : s.size - 6 = n := by omega
  have hn6 : n + 6 = s.size := by omega
  have HFo := Lib.hid (fun w => ring_form.calls s ⟨#[63]⟩ (n : Int) true w (by unfold ring_form.f; rw [if_pos (by omega), if_neg (by decide), if_pos rfl, hf, hn]))
  obtain ⟨m, hm⟩ : ∃ m : Nat, m = mulQ s (gN (waysT s 6) 0) (s.size - 6) := ⟨_, rfl⟩
  have hm0 : m ≠ 0 := by rw [hm]; intro h; exact hg ((mulQ_zero _ _ _).1 h)
  have HCo := Lib.hid (fun w => ring_Count.calls s (m : Int) 0 w (by unfold ring_Count.f countP; rw [if_pos (by omega), if_pos (by rw [hf]), hm]))
  have HSu := Lib.hid (fun (b : ByteArray) (hb : b.size = s.size) w => show Calls Try.prog 80 #[.string b, .int .i64 (n : Int)] w fun e w' => e = .returned (.agg (encN (waysT b 6))) ∧ Below w.heap.size w w' by have h := ring_sums.walk b n w (by omega) (by omega) (by omega); rwa [show b.size - n = 6 by omega] at h)
  have HG := Lib.hid (fun i hi => fstB_good (n := n) (b := s) hn6.symm (decide_eq_true hg) i hi)
  have HIx := Lib.hid (fun (b : ByteArray) w => (show (Instr.index 75 (.agg (encN (waysT b 6))) (.int .i64 0)).run Try.prog w = .ok (.int .i64 ((gN (waysT b 6) 0 : Nat) : Int)) w from index_encN (waysT b 6) (waysT_length b 6) 0 (by decide) w))
  rw [hn2]
  clear hm hn hn2 hok hf hg
  have qm : ((m : Int) == 0) = false := by simp; omega
  clear hm0
  go_enter Try.func41, Try.ntmps41
  go_wp2_with (first | (go_at_call 71; go_must (with_reducible refine (HFo.out _).mono ?_); rintro _ w1 ⟨rfl, hb1⟩; have HB1 := Lib.hid hb1; clear hb1) | (go_at_call 40; go_must (with_reducible refine (HCo.out _).mono ?_); rintro _ w2 ⟨rfl, hb2⟩; have HB2 := Lib.hid hb2; clear hb2))
  have HBb := Lib.hid (show Below w.heap.size w (Lib.bytesWorld w2 5 s) from bytes_below (HB1.out.trans (HB2.out.mono (below_size HB1.out))) (Nat.le_trans (below_size HB1.out) (below_size HB2.out)) 5 s)
  have HR0 := Lib.hid (BRow.made w2 s)
  have HGe := Lib.hid (show w.heap.size ≤ w2.heap.size from Nat.le_trans (below_size HB1.out) (below_size HB2.out))
  clear kb
  generalize Lib.bytesWorld w2 5 s = W0 at *
  generalize grownCap w2 s.size 0 5 = cap at *
  generalize w2.heap.size = g at *
  go_loopw [29] (fun v w' => ∃ i : Nat, i ≤ s.size ∧ v = .int .i64 (i : Int) ∧ BRow w' g (fstB n s i) ∧ Below w.heap.size w w') (fun v _ => s.size - (intOf v).toNat)
  case atStart => exact ⟨0, Nat.zero_le _, rfl, HR0.out, HBb.out⟩
  case round =>
    obtain ⟨i, hi, rfl, hR, hB⟩ := hrel
    have HR := Lib.hid hR
    have HB := Lib.hid hB
    clear hR hB
    by_cases hlt : i < s.size
    · have hsz := fstB_size n s i
      have hcell := HR.out.cell i (by rw [hsz]; exact hlt)
      have hfree := HR.out.free i (by rw [hsz]; exact hlt)
      by_cases h63 : bt (fstB n s i) (i : Int) = 63
      · have HGi := Lib.hid (HG.out i hi)
        rw [h63] at hcell
        by_cases hin : i < n
        · have Hst := Lib.hid (show fstB n s (i + 1) = putB (fstB n s i) i 65 by show (if _ then (if _ then _ else _) else _) = _; rw [if_pos h63, if_pos hin])
          have q1 : decide ((i : Int) < (n : Int)) = true := by simp; omega
          clear h63
          go_wp2
          exact ⟨⟨i + 1, by omega, by go_num, by rw [Hst.out]; exact HR.out.store i (by rw [fstB_size]; exact hlt) 65 65 rfl, HB.out.setCell HGe.out _⟩, by simp [intOf]; omega⟩
        · have hst : fstB n s (i + 1) = putB (fstB n s i) i (dig8 (pickB (fstB n s i) i)) := by show (if _ then (if _ then _ else _) else _) = _; rw [if_pos h63, if_neg hin]
          have Hst := Lib.hid hst
          clear hst
          have q1 : decide ((i : Int) < (n : Int)) = false := by simp; omega
          have HPk := Lib.hid (pick_some (b := fstB n s i) (i := i) (by omega) (by omega) (by omega) h63 HGi.out)
          clear h63
          generalize fstB n s i = bi at *
          go_wp2
          have HI0 := Lib.hid (show BRow ((wr.setCell ⟨g, i, none⟩ (.int .u8 65)).setCell ⟨g, i, none⟩ (.int .u8 48)) g (putB bi i (dig8 0)) from by
            have h := (HR.out.store i (by rw [hsz]; exact hlt) 65 65 rfl).store i (by rw [putB_size, hsz]; exact hlt) (dig8 0) 48 rfl
            rwa [putB_putB] at h)
          have HB0 := Lib.hid (show Below w.heap.size w ((wr.setCell ⟨g, i, none⟩ (.int .u8 65)).setCell ⟨g, i, none⟩ (.int .u8 48)) from (HB.out.setCell HGe.out _).setCell HGe.out _)
          generalize (wr.setCell ⟨g, i, none⟩ (.int .u8 65)).setCell ⟨g, i, none⟩ (.int .u8 48) = W1 at *
          go_loopw [46] (fun _ w' => ∃ d : Nat, d < 10 ∧ BRow w' g (putB bi i (dig8 d)) ∧ (∀ e, e < d → goodB (putB bi i (dig8 e)) = false) ∧ Below w.heap.size w w') (fun _ w' => 58 - byteAt w' g i)
          case atStart => exact ⟨0, by omega, HI0.out, fun e he => by omega, HB0.out⟩
          case round =>
            obtain ⟨d, hd, hR2, hlow, hB2⟩ := hrel
            have HR2 := Lib.hid hR2
            have HB2 := Lib.hid hB2
            have HLow := Lib.hid hlow
            clear hR2 hB2 hlow
            have hi2 : i < (putB bi i (dig8 d)).size := by rw [putB_size, hsz]; exact hlt
            have hcv := HR2.out.strn cap s.size (by rw [putB_size, hsz])
            have hby : bt (putB bi i (dig8 d)) (i : Int) = 48 + (d : Int) := by rw [putB_same bi i _ (by rw [hsz]; exact hlt), dig8_nat hd]; rfl
            have Hby := Lib.hid hby
            have E1 := Lib.hid (show byteAt wr g i = 48 + d by rw [HR2.out.byte i hi2, hby]; omega)
            clear hby
            have HSu2 := Lib.hid (HSu.out (putB bi i (dig8 d)) (by rw [putB_size, hsz]))
            have HIx2 := Lib.hid (HIx.out (putB bi i (dig8 d)))
            have HPP := Lib.hid (fun c => putB_putB bi i (dig8 d) c)
            by_cases hz : gN (waysT (putB bi i (dig8 d)) 6) 0 = 0
            · have hgd : goodB (putB bi i (dig8 d)) = false := decide_eq_false (fun h => h hz)
              have hd9 : d < 9 := by
                rcases Nat.lt_or_ge d 9 with h | h
                · exact h
                · obtain ⟨x, hx, hgx⟩ := HPk.out
                  rcases Nat.lt_or_ge x d with h2 | h2
                  · rw [HLow.out x h2] at hgx; exact absurd hgx (by decide)
                  · have : x = d := by omega
                    subst this
                    rw [hgd] at hgx; exact absurd hgx (by decide)
              have HGd := Lib.hid hgd
              clear hgd
              have hix := fun w => (show (Instr.index 75 (.agg (encN (waysT (putB bi i (dig8 d)) 6))) (.int .i64 0)).run Try.prog w = .ok (.int .i64 0) w by rw [HIx2.out, hz]; rfl)
              clear hz
              generalize encN (waysT (putB bi i (dig8 d)) 6) = ways at *
              generalize hb3 : putB bi i (dig8 d) = b3 at *
              have Hb3 := Lib.hid hb3
              clear hb3
              have Hix := Lib.hid hix
              clear hix
              go_wp2_with (first | (go_at_call 80; go_must (with_reducible refine (HSu2.out _).mono ?_); rintro _ w3 ⟨rfl, hb3⟩; go_must (have HB3 := Lib.hid hb3); clear hb3; go_must (have hix := Hix.out w3); go_must (have hcell3 : w3.cell? ⟨g, i, none⟩ = some (.int .u8 (48 + (d : Int))) := (by rw [← Hby.out]; exact (HR2.out.below HB3.out).cell i hi2)); go_must (have hfree3 := (HR2.out.below HB3.out).free i hi2)))
              have hrow : BRow (w3.setCell ⟨g, i, none⟩ (.int .u8 (48 + (d : Int) + 1))) g (putB bi i (dig8 (d + 1))) := by
                rw [← HPP.out]
                exact (HR2.out.below HB3.out).store i hi2 (dig8 (d + 1)) _ (by rw [dig8_nat (by omega)]; omega)
              refine ⟨⟨d + 1, by omega, hrow, ?_, ?_⟩, ?_⟩
              · intro e he
                by_cases h2 : e = d
                · subst h2
                  rw [Hb3.out]
                  exact HGd.out
                · exact HLow.out e (by omega)
              · exact (HB2.out.trans (HB3.out.mono (below_size HB2.out))).setCell HGe.out _
              · have hsz3 : i < (putB bi i (dig8 (d + 1))).size := by rw [putB_size, hsz]; exact hlt
                rw [hrow.byte i hsz3, E1.out, putB_same bi i _ (by rw [hsz]; exact hlt), dig8_nat (by omega)]
                omega
            · have hgd : goodB (putB bi i (dig8 d)) = true := decide_eq_true hz
              have HGd := Lib.hid hgd
              clear hgd
              obtain ⟨q, hq⟩ : ∃ q : Nat, q = gN (waysT (putB bi i (dig8 d)) 6) 0 := ⟨_, rfl⟩
              rw [← hq] at hz HIx2
              have q2 : ((q : Int) == 0) = false := by simp; omega
              clear hz hq
              generalize encN (waysT (putB bi i (dig8 d)) 6) = ways at *
              generalize hb3 : putB bi i (dig8 d) = b3 at *
              have Hb3 := Lib.hid hb3
              clear hb3
              go_wp2_with (first | (go_at_call 80; go_must (with_reducible refine (HSu2.out _).mono ?_); rintro _ w3 ⟨rfl, hb3⟩; go_must (have HB3 := Lib.hid hb3); clear hb3; go_must (have hix := HIx2.out w3)))
              refine ⟨⟨i + 1, by omega, by go_num, ?_, ?_⟩, ?_⟩
              · rw [Hst.out, pickB_eq hd (by rw [Hb3.out]; exact HGd.out) HLow.out, Hb3.out]
                exact HR2.out.below HB3.out
              · exact HB2.out.trans (HB3.out.mono (below_size HB2.out))
              · simp [intOf]; omega
      · have Hst := Lib.hid (show fstB n s (i + 1) = fstB n s i by show (if _ then (if _ then _ else _) else _) = _; rw [if_neg h63])
        have q1 : (bt (fstB n s i) (i : Int) != 63) = true := by simpa using h63
        clear h63
        go_wp2
        exact ⟨⟨i + 1, by omega, by go_num, by rw [Hst.out]; exact HR.out, HB.out⟩, by simp [intOf]; omega⟩
    · have hie : i = s.size := by omega
      subst hie
      have hcv := HR.out.strn cap s.size (fstB_size n s s.size)
      generalize fstB n s s.size = out at *
      go_wp2
      go_ret3
      exact ⟨rfl, HB.out⟩
set_option maxHeartbeats 8000000 in
set_option maxRecDepth 100000 in
theorem ring_First.none_ (s : ByteArray) (w : World) (h7 : 7 ≤ s.size) (h8 : s.size ≤ 8) (hf : formP s true = ((s.size : Int) - 6, true)) (hg : gN (waysT s 6) 0 = 0) :
    Calls Try.prog 41 #[.string s] w (FirstPost w ⟨#[]⟩ false 0) := by
  obtain ⟨n, hn⟩ : ∃ n : Nat, (n : Int) = (s.size : Int) - 6 := ⟨s.size - 6, by omega⟩
  have HFo := Lib.hid (fun w => ring_form.calls s ⟨#[63]⟩ (n : Int) true w (by unfold ring_form.f; rw [if_pos (by omega), if_neg (by decide), if_pos rfl, hf, hn]))
  have HCo := Lib.hid (fun w => ring_Count.calls s 0 0 w (by unfold ring_Count.f countP; rw [if_pos (by omega), if_pos (by rw [hf]), (mulQ_zero _ _ _).2 hg]; rfl))
  clear hn hf hg
  go_enter Try.func41, Try.ntmps41
  go_wp2_with (first | (go_at_call 71; go_must (with_reducible refine (HFo.out _).mono ?_); rintro _ w1 ⟨rfl, hb1⟩; have HB1 := Lib.hid hb1; clear hb1) | (go_at_call 40; go_must (with_reducible refine (HCo.out _).mono ?_); rintro _ w2 ⟨rfl, hb2⟩; have HB2 := Lib.hid hb2; clear hb2))
  go_ret3
  exact ⟨rfl, HB1.out.trans (HB2.out.mono (below_size HB1.out))⟩
set_option maxHeartbeats 8000000 in
set_option maxRecDepth 100000 in
theorem ring_First.bad (s : ByteArray) (w : World) (hs : s.size ≤ 9223372036854775807) (m : Int) (hf : formP s true = (m, false)) :
    Calls Try.prog 41 #[.string s] w (FirstPost w ⟨#[]⟩ false 2) := by
  have HFo := Lib.hid (fun w => ring_form.calls s ⟨#[63]⟩ m false w (by unfold ring_form.f; rw [if_pos hs, if_neg (by decide), if_pos rfl, hf]))
  clear hf hs
  go_enter Try.func41, Try.ntmps41
  go_wp2_with (first | (go_at_call 71; go_must (with_reducible refine (HFo.out _).mono ?_); rintro _ w1 ⟨rfl, hb1⟩; have HB1 := Lib.hid hb1; clear hb1))
  go_ret3
  exact ⟨rfl, HB1.out⟩
def ring_First.f (a0 : ByteArray) : Option (ByteArray × Bool × Int) := if a0.size ≤ 9223372036854775807 then some (firstP a0) else none
theorem ring_First.calls (a0 : ByteArray) (r1 : ByteArray) (r2 : Bool) (r3 : Int) (w : World) (h : ring_First.f a0 = some (r1, r2, r3)) :
    Calls Try.prog 41 #[.string a0] w fun e w' => e = .returned (.tuple #[.string r1, .bool r2, .int .i64 r3]) ∧ Below w.heap.size w w' := by
  unfold ring_First.f at h
  split at h
  · rename_i hs
    have h := Option.some.inj h
    unfold firstP at h
    split at h
    · rename_i hf
      obtain ⟨h7, h8, h9, h10⟩ := formP_bits hf
      split at h
      · rename_i hz
        obtain ⟨e1, e4⟩ := Prod.mk.inj h
        obtain ⟨e2, e3⟩ := Prod.mk.inj e4
        subst e1 e2 e3
        exact ring_First.none_ a0 w h7 h8 h9 hz
      · rename_i hz
        obtain ⟨e1, e4⟩ := Prod.mk.inj h
        obtain ⟨e2, e3⟩ := Prod.mk.inj e4
        subst e1 e2 e3
        exact ring_First.good a0 w h7 h8 h9 h10 hz
    · rename_i hf
      obtain ⟨e1, e4⟩ := Prod.mk.inj h
      obtain ⟨e2, e3⟩ := Prod.mk.inj e4
      subst e1 e2 e3
      exact ring_First.bad a0 w hs (formP a0 true).1 (Prod.ext rfl (Bool.eq_false_iff.mpr hf))
  · exact absurd h (by simp)

/-! ### wigeonref01_counted: function 81 -/
-- GIVEN wigeon/wigeonref01.counted rounds=0 making=1
-- IMPORT Derived.Laws.RangeAny Derived.Laws.Runes Derived.Lib.Hide Derived.Lib.OthersKept Derived.Laws.CopyOwn Derived.Deep.DeepMust Derived.Deep.RegionWith Derived.IntWalk Derived.Laws.Tables
theorem rtimes_allQ : ∀ x y : Fin 10, wigeonref01_times.f (x.val : Int) (y.val : Int) = some ((tmQ x.val y.val : Nat) : Int) := by decide +kernel
theorem rturned_allQ : ∀ (x : Fin 10) (j : Fin 6), wigeonref01_turned.f 8 (x.val : Int) (j.val : Int) = some ((tnQ x.val j.val : Nat) : Int) := by decide +kernel
theorem rtimesQ {x y : Nat} (hx : x < 10) (hy : y < 10) (w : World) : Calls Try.prog 65 #[.int .i64 (x : Int), .int .i64 (y : Int)] w fun e w' => e = .returned (.int .i64 ((tmQ x y : Nat) : Int)) ∧ Drawn0 w w' :=
  wigeonref01_times.calls _ _ _ w (rtimes_allQ ⟨x, hx⟩ ⟨y, hy⟩)
theorem rturnedQ {x : Nat} (hx : x < 10) (j : Nat) (hj : j < 6) (m : Int) (hm : (j : Int) = m) (w : World) : Calls Try.prog 68 #[.int .i64 (x : Int), .int .i64 m] w fun e w' => e = .returned (.int .i64 ((tnQ x j : Nat) : Int)) ∧ Drawn0 w w' := by
  subst hm
  exact wigeonref01_turned.calls 8 _ _ _ w (rturned_allQ ⟨x, hx⟩ ⟨j, hj⟩)
theorem SumsAt.cell {w w' : World} {s : ByteArray} {ways : List Nat} (h : SumsAt w s ways w') (hl : ways.length = 10) (j : Nat) (hj : j < 10) : w'.cell? ⟨w.heap.size + 1, j, none⟩ = some (.int .i64 ((gN ways j : Nat) : Int)) := by
  rw [cell_of_row w' _ j _ _ _ h.way]
  exact encN_get ways j (by omega)
def CntPost (w : World) (l : List Int) (e : Ending) (w' : World) : Prop := e = .returned (.agg (encN (cntT l 6))) ∧ Below w.heap.size w w'
set_option maxHeartbeats 8000000 in
set_option maxRecDepth 100000 in
theorem wigeonref01_counted.walk (ad : Addr) (c1 : Nat) (l : List Int) (w : World) (hr : Kd.C (Kd.int .i64) w (some ad) l.length l) (hc1 : l.length ≤ c1) (h6 : l.length = 6) :
    Calls Try.prog 81 #[.slice (some ad) l.length c1] w (CntPost w l) := by
  have HR := Lib.hid (fun (w' : World) (hb : Below w.heap.size w w') (i : Nat) (hi : i < 6) => show w'.cell? (ad.add i) = some (.int .i64 (rd l (i : Int))) from by
    obtain ⟨ad', e, h⟩ := Kd.at_int (Kd.C_below hr hb) (i : Int) (by omega) (by omega)
    injection e with e
    subst e
    rw [Int.toNat_natCast] at h
    exact h)
  clear hr
  rw [h6] at hc1 ⊢
  generalize hout : CntPost w l = post
  have Hout := Lib.hid hout
  clear hout
  go_enter Try.func81, Try.ntmps81
  go_wp2
  have HS0 := Lib.hid (show SumsAt w ⟨#[]⟩ (cntT l 0) ((w.alloc (.cells #[.int .i64 0, .int .i64 0, .int .i64 0, .int .i64 0, .int .i64 0, .int .i64 0, .int .i64 0, .int .i64 0, .int .i64 0, .int .i64 0] 75)).alloc (.cells #[.int .i64 1, .int .i64 0, .int .i64 0, .int .i64 0, .int .i64 0, .int .i64 0, .int .i64 0, .int .i64 0, .int .i64 0, .int .i64 0] 75)) from ⟨heap_alloc2_old _ _ _, heap_alloc2_new _ _ _, ((Below.refl _ _).alloc (Nat.le_refl _) _).alloc (by simp) _⟩)
  generalize ((w.alloc (.cells #[.int .i64 0, .int .i64 0, .int .i64 0, .int .i64 0, .int .i64 0, .int .i64 0, .int .i64 0, .int .i64 0, .int .i64 0, .int .i64 0] 75)).alloc (.cells #[.int .i64 1, .int .i64 0, .int .i64 0, .int .i64 0, .int .i64 0, .int .i64 0, .int .i64 0, .int .i64 0, .int .i64 0, .int .i64 0] 75)) = W0 at *
  go_loopw [4] (fun v w' => ∃ j : Nat, j ≤ 6 ∧ v = .int .i64 (5 - (j : Int)) ∧ SumsAt w ⟨#[]⟩ (cntT l j) w') (fun v _ => (intOf v + 1).toNat)
  case atStart => exact ⟨0, by omega, by simp, HS0.out⟩
  case round =>
    obtain ⟨j, hj, rfl, hS⟩ := hrel
    have HS := Lib.hid hS
    clear hS
    by_cases hlt : j < 6
    · obtain ⟨i, hi⟩ : ∃ i : Nat, (i : Int) = 5 - (j : Int) := ⟨5 - j, by omega⟩
      have Hi := Lib.hid hi
      have hi1 : i < 6 := by omega
      rw [← hi]
      clear hi
      go_wp2
      have HN0 := Lib.hid (show NextAt w wr ⟨#[]⟩ (cntT l j) (stepS (okL l j) (cntT l j) j 0) (wr.alloc (.cells #[.int .i64 0, .int .i64 0, .int .i64 0, .int .i64 0, .int .i64 0, .int .i64 0, .int .i64 0, .int .i64 0, .int .i64 0, .int .i64 0] 75)) from ⟨HS.out.alloc _, new_cells _ _, HS.out.lt⟩)
      generalize wr.alloc (.cells #[.int .i64 0, .int .i64 0, .int .i64 0, .int .i64 0, .int .i64 0, .int .i64 0, .int .i64 0, .int .i64 0, .int .i64 0, .int .i64 0] 75) = W1 at *
      have HL := Lib.hid (cntT_length l j)
      have HC := Lib.hid ((cntT_cap l j).mono (pow_six (show j ≤ 6 by omega)))
      have HJ := Lib.hid (show cntT l (j + 1) = stepS (okL l j) (cntT l j) j 10 from rfl)
      obtain ⟨wo, ewo⟩ : ∃ wo : World, wo = wr := ⟨_, rfl⟩
      subst ewo
      generalize cntT l j = ways at *
      go_loopw [6] (fun v w' => ∃ s : Nat, s ≤ 10 ∧ v = .int .i64 (s : Int) ∧ NextAt w wo ⟨#[]⟩ ways (stepS (okL l j) ways j s) w') (fun v _ => (10 - intOf v).toNat)
      case atStart => exact ⟨0, by omega, rfl, HN0.out⟩
      case round =>
        obtain ⟨s, hs10, rfl, hN⟩ := hrel
        have HN := Lib.hid hN
        clear hN
        by_cases hsl : s < 10
        · have Hst := Lib.hid (show stepS (okL l j) ways j (s + 1) = colD (okL l j) ways (stepS (okL l j) ways j s) s j 10 from rfl)
          have HLn := Lib.hid (stepS_length (okL l j) ways j s)
          have HCn := Lib.hid (((stepS_cap (okL l j) HC.out j s).mono (show s * (10 * 1000000000000) ≤ 100000000000000 by omega)))
          generalize stepS (okL l j) ways j s = nxt at *
          have hsd : decide ((s : Int) < 10) = true := by simp; omega
          go_wp2
          go_loopw [7] (fun v w' => ∃ d : Nat, d ≤ 10 ∧ v = .int .i64 (d : Int) ∧ NextAt w wo ⟨#[]⟩ ways (colD (okL l j) ways nxt s j d) w') (fun v _ => (10 - intOf v).toNat)
          case atStart => exact ⟨0, by omega, rfl, HN.out⟩
          case round =>
            obtain ⟨d, hd10, rfl, hM⟩ := hrel
            have HM := Lib.hid hM
            clear hM
            by_cases hdl : d < 10
            · have hload := HR.out wr HM.out.old.bel i hi1
              have hway := HM.out.old.cell HL.out s hsl
              have hokL : okL l j d = (rd l (i : Int) == (d : Int) || decide (rd l (i : Int) < 0)) := by unfold okL; rw [Hi.out]
              generalize rd l (i : Int) = x at *
              by_cases hok : okL l j d = true
              · have hkM : gN ways s ≤ 1000000000000 := HC.out s
                have htl := tm_ltQ hsl (tn_ltQ hdl j)
                have hcell := HM.out.cell (tmQ s (tnQ d j)) (by rw [colD_length, HLn.out]; exact htl)
                have hfree := HM.out.free (tmQ s (tnQ d j))
                have htM : gN (colD (okL l j) ways nxt s j d) (tmQ s (tnQ d j)) ≤ 200000000000000 := Nat.le_trans (colD_cap (okL l j) HC.out HCn.out s j d _) (by omega)
                have Hset := Lib.hid (show colD (okL l j) ways nxt s j (d + 1) = (colD (okL l j) ways nxt s j d).set (tmQ s (tnQ d j)) (gN (colD (okL l j) ways nxt s j d) (tmQ s (tnQ d j)) + gN ways s) by show (if _ then _ else _) = _; rw [if_pos hok])
                generalize colD (okL l j) ways nxt s j d = rk at *
                generalize gN ways s = q at *
                generalize gN rk (tmQ s (tnQ d j)) = p at *
                have hcase : (x == (d : Int)) = true ∨ ((x == (d : Int)) = false ∧ decide (x < 0) = true) := by
                  rw [hokL] at hok
                  cases h1 : (x == (d : Int)) with
                  | true => exact .inl rfl
                  | false => rw [h1, Bool.false_or] at hok; exact .inr ⟨rfl, hok⟩
                clear hokL hok
                rcases hcase with h1 | ⟨h1, h2⟩
                · go_wp2
                  have hw1 : IntKind.i64.wrap (5 - (i : Int)) = (j : Int) := by rw [IntWalk.i64_in _ (by have := Hi.out; omega)]; have := Hi.out; omega
                  have hw2 : IntKind.i64.wrap ((p : Int) + (q : Int)) = ((p + q : Nat) : Int) := by rw [IntWalk.i64_in _ (by omega)]; omega
                  go_region_with (first | (go_at_call 68; go_must (with_reducible refine (rturnedQ (x := d) hdl j hlt _ (by rfl) _).mono ?_); rintro _ _ ⟨rfl, ⟨nd, rfl⟩⟩) | (go_at_call 65; go_must (with_reducible refine (rtimesQ (x := s) hsl (tn_ltQ hdl j) _).mono ?_); rintro _ _ ⟨rfl, ⟨nd2, rfl⟩⟩))
                  all_goals (
                    go_wp2
                    go_roundw
                    case rel =>
                      refine ⟨d + 1, by omega, by go_num, ?_⟩
                      rw [Hset.out]
                      have hz := (HM.out.drew (1 + nd + nd2)).store (tmQ s (tnQ d j)) (p + q)
                      simpa using hz
                    case measure => simp [intOf]; omega)
                · go_wp2
                  have hw1 : IntKind.i64.wrap (5 - (i : Int)) = (j : Int) := by rw [IntWalk.i64_in _ (by have := Hi.out; omega)]; have := Hi.out; omega
                  have hw2 : IntKind.i64.wrap ((p : Int) + (q : Int)) = ((p + q : Nat) : Int) := by rw [IntWalk.i64_in _ (by omega)]; omega
                  go_region_with (first | (go_at_call 68; go_must (with_reducible refine (rturnedQ (x := d) hdl j hlt _ (by rfl) _).mono ?_); rintro _ _ ⟨rfl, ⟨nd, rfl⟩⟩) | (go_at_call 65; go_must (with_reducible refine (rtimesQ (x := s) hsl (tn_ltQ hdl j) _).mono ?_); rintro _ _ ⟨rfl, ⟨nd2, rfl⟩⟩))
                  all_goals (
                    go_wp2
                    go_roundw
                    case rel =>
                      refine ⟨d + 1, by omega, by go_num, ?_⟩
                      rw [Hset.out]
                      have hz := (HM.out.drew (1 + nd + nd2)).store (tmQ s (tnQ d j)) (p + q)
                      simpa using hz
                    case measure => simp [intOf]; omega)
              · have hcase : (x == (d : Int)) = false ∧ decide (x < 0) = false := by
                  rw [hokL] at hok
                  cases h1 : (x == (d : Int)) with
                  | true => rw [h1, Bool.true_or] at hok; exact absurd rfl hok
                  | false => rw [h1, Bool.false_or] at hok; exact ⟨rfl, by simpa using hok⟩
                have Hset := Lib.hid (show colD (okL l j) ways nxt s j (d + 1) = colD (okL l j) ways nxt s j d by show (if _ then _ else _) = _; rw [if_neg hok])
                clear hokL hok
                obtain ⟨h1, h2⟩ := hcase
                go_wp2
                refine ⟨⟨d + 1, by omega, by go_num, ?_⟩, by simp [intOf]; omega⟩
                rw [Hset.out]
                exact HM.out
            · go_wp2
              refine ⟨⟨s + 1, by omega, by go_num, ?_⟩, by simp [intOf]; omega⟩
              rw [Hst.out]
              have hk : d = 10 := by omega
              subst hk
              exact HM.out
        · have hd : s = 10 := by omega
          subst hd
          rw [← HJ.out] at HN
          have HL2 := Lib.hid (cntT_length l (j + 1))
          obtain ⟨wn, hwn⟩ : ∃ wn, wn = cntT l (j + 1) := ⟨_, rfl⟩
          rw [← hwn] at HN HL2
          have Hwn := Lib.hid hwn
          clear hwn
          have HI1 := Lib.hid (show (Try.prog.info? 75).map (·.size) = some (encN wn).size by rw [encN_size, HL2.out]; exact sums_info75)
          have HE1 := Lib.hid (show (encN ways).size = (encN wn).size by rw [encN_size, encN_size, HL.out, HL2.out])
          go_wp2_with (first | (refine wpList_load_row rfl 75 (.tmp 5) rfl wo.heap.size rfl 75 (encN wn) (0, 0) _ HN.out.nxt Try.underlying75 rfl HI1.out ?_) | (refine wpList_store_row rfl 75 (.tmp 3) (.tmp 47) rfl (w.heap.size + 1) (encN wn) rfl rfl 75 (encN ways) HN.out.old.way HI1.out HE1.out (encN_one wn) ?_))
          refine ⟨⟨j + 1, by omega, by have := Hi.out; go_num, by rw [← Hwn.out]; exact HN.out.old.way2 wn⟩, by have := Hi.out; simp [intOf] <;> omega⟩
    · have hjj : j = 6 := by omega
      subst hjj
      have HL := Lib.hid (cntT_length l 6)
      unfold CntPost at Hout
      generalize cntT l 6 = ways at *
      have HI1 := Lib.hid (show (Try.prog.info? 75).map (·.size) = some (encN ways).size by rw [encN_size, HL.out]; exact sums_info75)
      have HE1 := Lib.hid (show zero10.size = (encN ways).size by rw [encN_size, HL.out]; rfl)
      go_wp2_with (first | (refine wpList_load_row rfl 75 (.tmp 3) rfl (w.heap.size + 1) rfl 75 (encN ways) (0, 0) _ HS.out.way Try.underlying75 rfl HI1.out ?_) | (refine wpList_store_row rfl 75 (.tmp 2) (.tmp 48) rfl w.heap.size (encN ways) rfl rfl 75 zero10 HS.out.res HI1.out HE1.out (encN_one ways) ?_))
      rw [← Hout.out]
      refine bodyPost_ret (results_cell_row rfl _ _ w.heap.size 75 (encN ways) (0, 0) _ rfl (HS.out.fin ways).1 Try.underlying75 rfl HI1.out) rfl ⟨rfl, (HS.out.fin ways).2⟩
def wigeonref01_counted.f (l1 : List Int) : Option (List Nat) := if l1.length = 6 then some (cntT l1 6) else none
theorem wigeonref01_counted.calls (A1 : Option Addr) (c1 : Nat) (l1 : List Int) (r : List Nat) (w : World) (hr1 : Kd.C (Kd.int .i64) w A1 l1.length l1) (hc1 : l1.length ≤ c1) (h : wigeonref01_counted.f l1 = some r) :
    Calls Try.prog 81 #[.slice A1 l1.length c1] w fun e w' => e = .returned (.agg (encN r)) ∧ Below w.heap.size w w' := by
  unfold wigeonref01_counted.f at h
  split at h
  · rename_i h6
    obtain rfl := Option.some.inj h
    obtain ⟨ad, rfl, _⟩ := Kd.at_int hr1 0 (by omega) (by omega)
    exact wigeonref01_counted.walk ad c1 l1 w hr1 hc1 h6
  · exact absurd h (by simp)

/-! ### wigeonref01_wornDigits: function 82 -/
def wigeonref01_wornDigits.l0 : Nat → ByteArray → List Int → Int → Option (List Int)
  | 0, _, _, _ => none
  | k + 1, x0, x3, x4 => if x4 < (x0.size : Int) then (if 0 ≤ x4 then (if (bt x0 x4) = 63 then (if x3.length < 17592186044416 then (wigeonref01_wornDigits.l0 k x0 (x3 ++ [(-1)]) (wrap64 (x4 + 1))) else (none)) else (if x3.length < 17592186044416 then (wigeonref01_wornDigits.l0 k x0 (x3 ++ [wrap64 ((wrap64 (bt x0 x4)) - 48)]) (wrap64 (x4 + 1))) else (none))) else (none)) else (some x3)
def wigeonref01_wornDigits.f (k : Nat) (a0 : ByteArray) : Option (List Int) := wigeonref01_wornDigits.l0 k a0 ([] : List Int) (wrap64 ((a0.size : Int) - 6))
theorem wigeonref01_wornDigits.mono_l : ∀ k, (∀ y0 y1 y2, LeO (wigeonref01_wornDigits.l0 k y0 y1 y2) (wigeonref01_wornDigits.l0 (k + 1) y0 y1 y2))
  | 0 => fun _ _ _ r h => by simp [wigeonref01_wornDigits.l0] at h
  | k + 1 => by
    have ih0 := wigeonref01_wornDigits.mono_l k
    · intro y0 y1 y2
      unfold wigeonref01_wornDigits.l0
      repeat' first
      | (with_reducible exact ih0 _ _ _)
      | (with_reducible exact LeO.refl _)
      | (with_reducible exact LeO.none _)
      | (with_reducible refine LeO.ite ?_ ?_)
      | (with_reducible refine LeO.bind ?_ (fun _ => ?_))
      | exact ih0 _ _ _
      | exact LeO.none _
      | refine LeO.ite ?_ ?_
      | refine LeO.bind ?_ (fun _ => ?_)
theorem wigeonref01_wornDigits.mono : ∀ a0 k, LeO (wigeonref01_wornDigits.f k a0) (wigeonref01_wornDigits.f (k + 1) a0) := by
  intro a0 k
  have ih0 := wigeonref01_wornDigits.mono_l k
  unfold wigeonref01_wornDigits.f
  repeat' first
      | (with_reducible exact ih0 _ _ _)
      | (with_reducible exact LeO.refl _)
      | (with_reducible exact LeO.none _)
      | (with_reducible refine LeO.ite ?_ ?_)
      | (with_reducible refine LeO.bind ?_ (fun _ => ?_))
      | exact ih0 _ _ _
      | exact LeO.none _
      | refine LeO.ite ?_ ?_
      | refine LeO.bind ?_ (fun _ => ?_)
set_option maxHeartbeats 8000000 in
set_option maxRecDepth 100000 in
theorem wigeonref01_wornDigits.calls (k : Nat) (a0 : ByteArray) (r : List Int) (w : World) (h : wigeonref01_wornDigits.f k a0 = some r) :
    Calls Try.prog 82 #[.string a0] w fun e w' => ∃ v0_ : Value, e = .returned (v0_) ∧ Kd.R (Kd.int .i64) 3 w' w.heap.size (fun _ => True) v0_ r ∧ Below w.heap.size w w' := by
  have HB := Aside0.mk (Below.refl w.heap.size w)
  have H : (wigeonref01_wornDigits.l0 k a0 ([] : List Int) (wrap64 ((a0.size : Int) - 6))) = some r := h
  clear h
  have H' := Aside0.mk H
  clear H
  go_enter Try.func82, Try.ntmps82
  go_wp2
  go_loopg [3, 4] k (fun kq v3 v4 w' => ∃ (x3_1 : List Int) (x4_1 : Int), v4 = .int .i64 x4_1 ∧ Aside0 (wigeonref01_wornDigits.l0 kq a0 x3_1 x4_1 = some r) ∧ Aside0 (kq ≤ k) ∧ Aside0 (Kd.R (Kd.int .i64) 3 w' w.heap.size (fun _ => True) v3 x3_1) ∧ Aside0 (Below w.heap.size w w'))
  case atStart => exact ⟨(([] : List Int)), (wrap64 ((a0.size : Int) - 6)), (by first | rfl | (simp; done) | (simp [*]; done)), H', ⟨Nat.le_refl _⟩, ⟨by first | exact Kd.R_nil _ _ _ _ _ | exact Kd.N_nil _ _ _ _ _ | exact Kd.V_nil _ _ _ _ _ | exact Kd.Q_nil _ _ _ _ _ | exact Kd.S_nil _ _ _ _ _⟩, ⟨by repeat (first | (with_reducible first | exact HB.out | apply below_alloc | apply pw_below_drewN | apply below_drew1) | exact HB.out)⟩⟩
  case round =>
    clear H'
    obtain ⟨x3_1, x4_1, rfl, HA, HK1, HO_3, HB⟩ := hrel
    cases gk with
    | zero => exact absurd HA.out (by simp [wigeonref01_wornDigits.l0])
    | succ k1 =>
      have H := HA.out
      clear HA
      simp only [wigeonref01_wornDigits.l0] at H
      by_cases c2 : x4_1 < (a0.size : Int)
      · rw [if_pos c2] at H
        have c2b0 : decide (x4_1 < (a0.size : Int)) = true := decide_eq_true c2
        clear c2
        by_cases c3 : 0 ≤ x4_1
        · rw [if_pos c3] at H
          have c3b0 : decide (0 ≤ x4_1) = true := decide_eq_true c3
          clear c3
          by_cases c5 : (bt a0 x4_1) = 63
          · rw [if_pos c5] at H
            have c5b0 : ((bt a0 x4_1) == 63) = true := beq_iff_eq.mpr c5
            have c5b1 : ((bt a0 x4_1) != 63) = false := bne_eq_false_iff_eq.mpr c5
            clear c5
            by_cases c6 : x3_1.length < 17592186044416
            · rw [if_pos c6] at H
              have LMc6 := Aside0.mk c6
              clear c6
              obtain ⟨y400, hy400⟩ : ∃ y_ : List Int, y_ = (x3_1 ++ [(-1)]) := ⟨_, rfl⟩
              replace H : (wigeonref01_wornDigits.l0 k1 a0 y400 (wrap64 (x4_1 + 1))) = some r := by first | (rw [hy400]; with_reducible exact H) | (have H2_ := (Option.bind_some _ _).symm.trans H; rw [hy400]; with_reducible exact H2_) | (have H2_ := (Option.bind_some _ _).symm.trans H; with_reducible exact H2_) | with_reducible exact H | (rw [hy400]; exact H) | exact H
              have Ny400 := Aside0.mk hy400
              clear hy400
              have H' := Aside0.mk H
              clear H
              have p4 : 0 ≤ (x4_1 : Int) := of_decide_eq_true (by first | (with_reducible assumption) | assumption)
              have q4 : x4_1 < (a0.size : Int) := of_decide_eq_true (by first | (with_reducible assumption) | assumption)
              have hx4 := bt_at a0 x4_1
              replace p4 := eq_true p4
              replace q4 := eq_true q4
              go_wp2_with (first | ((with_reducible refine gate_builtin (b := .append) (xs := #[.tmp 18, .tmp 19]) rfl ?_); at_builtin; refine Kd.R_append (Kd.int .i64) (w0 := w) w.heap.size rfl (.tmp 18) (.tmp 19) 28 3 (.int .i64 0) 8 rfl Try.underlying28 info3 rfl (by decide) (by omega) u3 x3_1 (-1) [.int .i64 (-1)] (fun _ => True) (fun _ => False) rfl rfl ?aP (fun _ hk => hk.elim) ?aF ?aO ?aB ?aS ?aL ?_; (case aP => exact rfl); (case aB => exact (by repeat (first | (with_reducible first | exact HB.out | apply below_alloc | apply pw_below_drewN | apply below_drew1) | exact HB.out))); (case aF => exact (fun _ _ => trivial)); (case aO => exact (by (with_reducible repeat (first | apply Kd.R_alloc | apply Kd.R_drewN | apply Kd.R_drew)); exact HO_3.out)); (case aS => exact (below_size (by repeat (first | (with_reducible first | exact HB.out | apply below_alloc | apply pw_below_drewN | apply below_drew1) | exact HB.out)))); (case aL => have := LMc6.out; omega); intro v401 w7 ho hb hg hat; rw [← Ny400.out] at ho; have n0_ := Aside0.mk (hb); have n1_ := Aside0.mk (ho); clear HB; clear HO_3; have HB := n0_; have HO402 := n1_; clear n0_ n1_; clear ho hb hg hat))
              go_roundg k1
              case measure => have := HK1.out; omega
              case rel => exact ⟨(y400), (wrap64 (x4_1 + 1)), (by first | rfl | (simp; done) | (simp [*]; done)), H', ⟨by have := HK1.out; omega⟩, ⟨by (with_reducible repeat (first | apply Kd.R_alloc | apply Kd.R_drewN | apply Kd.R_drew)); exact HO402.out⟩, ⟨by repeat (first | (with_reducible first | exact HB.out | apply below_alloc | apply pw_below_drewN | apply below_drew1) | exact HB.out)⟩⟩
            · rw [if_neg c6] at H
              exact absurd H (by simp)
          · rw [if_neg c5] at H
            have c5b0 : ((bt a0 x4_1) == 63) = false := beq_eq_false_iff_ne.mpr c5
            have c5b1 : ((bt a0 x4_1) != 63) = true := bne_iff_ne.mpr c5
            by_cases c9 : x3_1.length < 17592186044416
            · rw [if_pos c9] at H
              have LMc9 := Aside0.mk c9
              clear c9
              obtain ⟨y403, hy403⟩ : ∃ y_ : List Int, y_ = (x3_1 ++ [wrap64 ((wrap64 (bt a0 x4_1)) - 48)]) := ⟨_, rfl⟩
              replace H : (wigeonref01_wornDigits.l0 k1 a0 y403 (wrap64 (x4_1 + 1))) = some r := by first | (rw [hy403]; with_reducible exact H) | (have H2_ := (Option.bind_some _ _).symm.trans H; rw [hy403]; with_reducible exact H2_) | (have H2_ := (Option.bind_some _ _).symm.trans H; with_reducible exact H2_) | with_reducible exact H | (rw [hy403]; exact H) | exact H
              have Ny403 := Aside0.mk hy403
              clear hy403
              have H' := Aside0.mk H
              clear H
              have p4 : 0 ≤ (x4_1 : Int) := of_decide_eq_true (by first | (with_reducible assumption) | assumption)
              have q4 : x4_1 < (a0.size : Int) := of_decide_eq_true (by first | (with_reducible assumption) | assumption)
              have hx4 := bt_at a0 x4_1
              replace p4 := eq_true p4
              replace q4 := eq_true q4
              have p8 : 0 ≤ (x4_1 : Int) := of_decide_eq_true (by first | (with_reducible assumption) | assumption)
              have q8 : x4_1 < (a0.size : Int) := of_decide_eq_true (by first | (with_reducible assumption) | assumption)
              have hx8 := bt_at a0 x4_1
              replace p8 := eq_true p8
              replace q8 := eq_true q8
              go_wp2_with (first | ((with_reducible refine gate_builtin (b := .append) (xs := #[.tmp 21, .tmp 27]) rfl ?_); at_builtin; refine Kd.R_append (Kd.int .i64) (w0 := w) w.heap.size rfl (.tmp 21) (.tmp 27) 28 3 (.int .i64 0) 8 rfl Try.underlying28 info3 rfl (by decide) (by omega) u3 x3_1 (wrap64 ((wrap64 (bt a0 x4_1)) - 48)) [.int .i64 (wrap64 ((wrap64 (bt a0 x4_1)) - 48))] (fun _ => True) (fun _ => False) rfl rfl ?aP (fun _ hk => hk.elim) ?aF ?aO ?aB ?aS ?aL ?_; (case aP => exact rfl); (case aB => exact (by repeat (first | (with_reducible first | exact HB.out | apply below_alloc | apply pw_below_drewN | apply below_drew1) | exact HB.out))); (case aF => exact (fun _ _ => trivial)); (case aO => exact (by (with_reducible repeat (first | apply Kd.R_alloc | apply Kd.R_drewN | apply Kd.R_drew)); exact HO_3.out)); (case aS => exact (below_size (by repeat (first | (with_reducible first | exact HB.out | apply below_alloc | apply pw_below_drewN | apply below_drew1) | exact HB.out)))); (case aL => have := LMc9.out; omega); intro v404 w10 ho hb hg hat; rw [← Ny403.out] at ho; have n0_ := Aside0.mk (hb); have n1_ := Aside0.mk (ho); clear HB; clear HO_3; have HB := n0_; have HO405 := n1_; clear n0_ n1_; clear ho hb hg hat))
              go_roundg k1
              case measure => have := HK1.out; omega
              case rel => exact ⟨(y403), (wrap64 (x4_1 + 1)), (by first | rfl | (simp; done) | (simp [*]; done)), H', ⟨by have := HK1.out; omega⟩, ⟨by (with_reducible repeat (first | apply Kd.R_alloc | apply Kd.R_drewN | apply Kd.R_drew)); exact HO405.out⟩, ⟨by repeat (first | (with_reducible first | exact HB.out | apply below_alloc | apply pw_below_drewN | apply below_drew1) | exact HB.out)⟩⟩
            · rw [if_neg c9] at H
              exact absurd H (by simp)
        · rw [if_neg c3] at H
          exact absurd H (by simp)
      · rw [if_neg c2] at H
        have c2b0 : decide (x4_1 < (a0.size : Int)) = false := decide_eq_false c2
        clear c2
        obtain rfl := Option.some.inj H
        go_wp2
        go_ret
        exact ⟨_, by first | rfl | (simp [errW_none, errW_some] <;> rfl) | (simp [*, errW_none, errW_some] <;> rfl), by (with_reducible repeat (first | apply Kd.R_alloc | apply Kd.R_drewN | apply Kd.R_drew)); exact HO_3.out, by repeat (first | (with_reducible first | exact HB.out | apply below_alloc | apply pw_below_drewN | apply below_drew1) | exact HB.out)⟩

/-! ### wigeonref01_Count: function 48 -/
-- GIVEN wigeon/wigeonref01.Count rounds=1 making=1
-- IMPORT Derived.Laws.RangeAny Derived.Laws.Runes Derived.Lib.Hide Derived.Lib.OthersKept Derived.Laws.CopyOwn Derived.Deep.DeepMust Derived.Deep.RegionWith Derived.IntWalk Derived.Laws.Tables
/-! How many rings fit a worn one, as the reference counts them. -/
def wigeonref01_Count.f (k : Nat) (a0 : ByteArray) : Option (Int × Int) := (wigeonref01_IsWorn.f k a0).bind fun b => (if b = true then ((wigeonref01_wornDigits.f k a0).bind fun l => (if l.length = 6 ∧ 6 ≤ a0.size ∧ a0.size ≤ 8 then (some (((mulQ a0 (gN (cntT l 6) 0) (a0.size - 6) : Nat) : Int), 0)) else (none))) else (some (0, 2)))
theorem index_zero {l : List Nat} (hl : l.length = 10) (w : World) : (Instr.index 75 (.agg (encN l)) (.int .i64 0)).run Try.prog w = .ok (.int .i64 ((gN l 0 : Nat) : Int)) w := index_encN l hl 0 (by decide) w
set_option maxHeartbeats 8000000 in
set_option maxRecDepth 100000 in
theorem wigeonref01_Count.good (k : Nat) (s : ByteArray) (l : List Int) (w : World) (h6 : 6 ≤ s.size) (h8 : s.size ≤ 8) (h1 : wigeonref01_IsWorn.f k s = some true) (h2 : wigeonref01_wornDigits.f k s = some l) (hl : l.length = 6) :
    Calls Try.prog 48 #[.string s] w (CountPost w ((mulQ s (gN (cntT l 6) 0) (s.size - 6) : Nat) : Int) 0) := by
  obtain ⟨n, hn⟩ : ∃ n : Nat, (n : Int) = (s.size : Int) - 6 := ⟨s.size - 6, by omega⟩
  have hn2 : s.size - 6 = n := by omega
  have hn3 : n ≤ 2 := by omega
  have hn6 : n + 6 = s.size := by omega
  have HW := Lib.hid (fun w => wigeonref01_IsWorn.calls k s true w h1)
  have HD := Lib.hid (fun w => wigeonref01_wornDigits.calls k s l w h2)
  have HSu := Lib.hid (fun (A : Option Addr) (c : Nat) (w : World) (hC : Kd.C (Kd.int .i64) w A l.length l) (hle : l.length ≤ c) => wigeonref01_counted.calls A c l (cntT l 6) w hC hle (by unfold wigeonref01_counted.f; rw [if_pos hl]))
  have HM := Lib.hid (show gN (cntT l 6) 0 ≤ 1000000000000 from ((cntT_cap l 6).mono (pow_six (Nat.le_refl 6))) 0)
  have HIx := Lib.hid (index_zero (cntT_length l 6))
  rw [hn2]
  clear hn2 h1 h2
  generalize gN (cntT l 6) 0 = n0 at *
  generalize encN (cntT l 6) = ways at *
  generalize hout : mulQ s n0 n = out
  have Hout := Lib.hid hout
  clear hout
  have Hl := Lib.hid hl
  clear hl
  go_enter Try.func48, Try.ntmps48
  go_wp2_with (first | (go_at_call 31; go_must (with_reducible refine (HW.out _).mono ?_); rintro _ _ ⟨rfl, ⟨nd, rfl⟩⟩) | (go_at_call 82; go_must (with_reducible refine (HD.out _).mono ?_); rintro _ w2 ⟨v0, rfl, hR, hb2⟩; obtain ⟨A, c, rfl, hle, hC⟩ := Kd.R_reads hR; have HB2 := Lib.hid hb2; have HC := Lib.hid hC; have HLe := Lib.hid hle; clear hR hb2 hC hle) | (go_at_call 81; go_must (with_reducible refine (HSu.out _ _ _ HC.out HLe.out).mono ?_); rintro _ w3 ⟨rfl, hb3⟩; have HB3 := Lib.hid hb3; clear hb3; have hix := HIx.out w3))
  have HB := Lib.hid (show Below w.heap.size w w3 from ((pw_below_drewN (Below.refl w.heap.size w) nd).trans (HB2.out.mono (below_size (pw_below_drewN (Below.refl w.heap.size w) nd)))).trans (HB3.out.mono (Nat.le_trans (below_size (pw_below_drewN (Below.refl w.heap.size w) nd)) (below_size HB2.out))))
  go_loopw [4, 5] (fun v v2 w' => ∃ i : Nat, i ≤ n ∧ v = .int .i64 ((mulQ s n0 i : Nat) : Int) ∧ v2 = .int .i64 (i : Int) ∧ w' = w3) (fun _ v2 _ => n - (intOf v2).toNat)
  case atStart => exact ⟨0, Nat.zero_le _, rfl, rfl, rfl⟩
  case round =>
    obtain ⟨i, hi, rfl, rfl, rfl⟩ := hrel
    by_cases hp : i < n
    · have hi2 : i < s.size := by omega
      have hbt := bt_of hi2
      have hsm := mulQ_small (s := s) (k := i) HM.out (by omega)
      have qd : decide ((i : Int) < (s.size : Int) - 6) = true := by simp; omega
      by_cases hq : bt s (i : Int) = 63
      · have Hn := Lib.hid (show mulQ s n0 (i + 1) = mulQ s n0 i * 26 by show (if _ then _ else _) = _; rw [if_pos hq])
        have q1 : ((((s[i]'hi2).toNat : Nat) : Int) == 63) = true := by rw [← hbt, hq]; rfl
        clear hbt hq
        generalize mulQ s n0 i = m at *
        go_wp2
        exact ⟨⟨i + 1, by omega, by first | (rw [Hn.out]; done) | (rw [Hn.out]; go_num), by go_num, trivial⟩, by simp [intOf]; omega⟩
      · have Hn := Lib.hid (show mulQ s n0 (i + 1) = mulQ s n0 i by show (if _ then _ else _) = _; rw [if_neg hq])
        have q1 : ((((s[i]'hi2).toNat : Nat) : Int) == 63) = false := by rw [← hbt]; simpa using hq
        clear hbt hq
        generalize mulQ s n0 i = m at *
        go_wp2
        exact ⟨⟨i + 1, by omega, by first | (rw [Hn.out]; done) | (rw [Hn.out]; go_num), by go_num, trivial⟩, by simp [intOf]; omega⟩
    · have hpe : i = n := by omega
      subst hpe
      have qd : decide ((i : Int) < (s.size : Int) - 6) = false := by simp; omega
      rw [Hout.out]
      go_wp2
      go_ret2
      exact ⟨rfl, HB.out⟩
set_option maxHeartbeats 8000000 in
set_option maxRecDepth 100000 in
theorem wigeonref01_Count.bad (k : Nat) (s : ByteArray) (w : World) (h1 : wigeonref01_IsWorn.f k s = some false) :
    Calls Try.prog 48 #[.string s] w (CountPost w 0 2) := by
  have HW := Lib.hid (fun w => wigeonref01_IsWorn.calls k s false w h1)
  clear h1
  go_enter Try.func48, Try.ntmps48
  go_wp2_with (first | (go_at_call 31; go_must (with_reducible refine (HW.out _).mono ?_); rintro _ _ ⟨rfl, ⟨nd, rfl⟩⟩))
  go_ret2
  exact ⟨rfl, pw_below_drewN (Below.refl w.heap.size w) nd⟩
theorem wigeonref01_Count.mono : ∀ a0 k, LeO (wigeonref01_Count.f k a0) (wigeonref01_Count.f (k + 1) a0) := by
  intro a0 k
  unfold wigeonref01_Count.f
  exact LeO.bind (wigeonref01_IsWorn.mono _ _) (fun _ => LeO.ite (LeO.bind (wigeonref01_wornDigits.mono _ _) (fun _ => LeO.refl _)) (LeO.refl _))
theorem wigeonref01_Count.calls (k : Nat) (a0 : ByteArray) (r1 : Int) (r2 : Int) (w : World) (h : wigeonref01_Count.f k a0 = some (r1, r2)) :
    Calls Try.prog 48 #[.string a0] w fun e w' => e = .returned (.tuple #[.int .i64 r1, .int .i64 r2]) ∧ Below w.heap.size w w' := by
  unfold wigeonref01_Count.f at h
  obtain ⟨b, h1, h⟩ := Option.bind_eq_some_iff.mp h
  cases b with
  | true =>
    rw [if_pos rfl] at h
    obtain ⟨l, h2, h⟩ := Option.bind_eq_some_iff.mp h
    split at h
    · rename_i hc
      obtain ⟨hl, h6, h8⟩ := hc
      obtain ⟨rfl, rfl⟩ := Prod.mk.inj (Option.some.inj h)
      exact wigeonref01_Count.good k a0 l w h6 h8 h1 h2 hl
    · exact absurd h (by simp)
  | false =>
    rw [if_neg (by decide)] at h
    obtain ⟨rfl, rfl⟩ := Prod.mk.inj (Option.some.inj h)
    exact wigeonref01_Count.bad k a0 w h1

end Go.Proofs.Ytlbhighbhchdmaa.Q
