-- Written by a program of this session (wip/tools/gprint.py, over the kit's print); Lean checks it.
import Derived.Test.YtlbhighbhchdmaaQx0
import Derived.Test.YtlbhighbhchdmaaQx9
import Derived.Test.YtlbhighbhchdmaaQx10
import Derived.Test.YtlbhighbhchdmaaQx13
import Derived.Test.YtlbhighbhchdmaaQx21
import Derived.Test.YtlbhighbhchdmaaQx22
namespace Go.Proofs.Ytlbhighbhchdmaa.Q
open Go.RowKit Go.Proofs.YtlbhighbhchdmaaW.PrintWords Go.Proofs.YtlbhighbhchdmaaW.PrintLast Go.Proofs.YtlbhighbhchdmaaW.PrintMore
attribute [local go_sem] max2_int min2_int max_two min_two max_three min_three max_four min_four   -- for this text's walks alone
set_option linter.unusedVariables false
set_option linter.unusedSimpArgs false

/-! ### wigeonref01_First: function 49 -/
-- GIVEN wigeon/wigeonref01.First rounds=1 making=1
-- IMPORT Derived.Laws.RangeAny Derived.Laws.Runes Derived.Lib.Hide Derived.Lib.OthersKept Derived.Laws.CopyOwn Derived.Deep.DeepMust Derived.Deep.RegionWith Derived.IntWalk Derived.Laws.Tables
/-! The first ring that fits, as the reference finds it: the plain part. -/
def goodL (l : List Int) : Bool := decide (gN (cntT l 6) 0 ≠ 0)
def pickL (l : List Int) (i : Nat) : Nat := leastD (fun d => goodL (l.set i (d : Int))) 10 0
def fstL (l : List Int) : Nat → List Int
  | 0 => l
  | i + 1 => if rd (fstL l i) (i : Int) < 0 then (fstL l i).set i (pickL (fstL l i) i : Int) else fstL l i
theorem fstL_length (l : List Int) (i : Nat) : (fstL l i).length = l.length := by
  induction i with
  | zero => rfl
  | succ i ih =>
    unfold fstL
    split
    · rw [List.length_set, ih]
    · exact ih
theorem rd_set_same (l : List Int) (i : Nat) (x : Int) (hi : i < l.length) : rd (l.set i x) (i : Int) = x := by
  unfold rd
  rw [Int.toNat_natCast, List.getD_eq_getElem?_getD, List.getElem?_set]
  simp [hi]
theorem rd_set_other (l : List Int) (i j : Nat) (x : Int) (h : j ≠ i) : rd (l.set i x) (j : Int) = rd l (j : Int) := by
  unfold rd
  rw [Int.toNat_natCast, List.getD_eq_getElem?_getD, List.getD_eq_getElem?_getD, List.getElem?_set, if_neg (fun e => h e.symm)]
theorem okL_hole {l : List Int} {i : Nat} (hi : i < 6) (h : rd l (i : Int) < 0) (d : Nat) : okL l (5 - i) d = true := by
  unfold okL
  have e : (5 - ((5 - i : Nat) : Int)) = (i : Int) := by omega
  rw [e, decide_eq_true h, Bool.or_true]
theorem hole_set {l : List Int} {i : Nat} (hl : l.length = 6) (hi : i < 6) (x : Nat) (t : Nat) (ht : t < 10) (n : Nat) (hn : n ≤ 6) : wT (atN (okL l) (5 - i) x) n t = wT (okL (l.set i (x : Int))) n t := by
  refine wT_congr (fun j d hj hd => ?_) t ht
  unfold atN okL
  have e0 : (5 - (j : Int)) = ((5 - j : Nat) : Int) := by omega
  rw [e0]
  by_cases e : j = 5 - i
  · rw [if_pos e, show 5 - j = i by omega, rd_set_same l i _ (by omega)]
    by_cases e2 : d = x
    · subst e2
      simp
    · rw [decide_eq_false e2]
      simp
      omega
  · rw [if_neg e, rd_set_other l i _ _ (by omega)]
theorem pickL_some {l : List Int} {i : Nat} (hl : l.length = 6) (hi : i < 6) (h : rd l (i : Int) < 0) (hg : goodL l = true) : ∃ d : Nat, d < 10 ∧ goodL (l.set i (d : Int)) = true := by
  unfold goodL at hg
  have h1 := of_decide_eq_true hg
  rw [cntT_get l 6 0 (Nat.le_refl 6) (by decide), wT_split (okL l) (5 - i) 6 0 (fun d _ => okL_hole hi h d) (by omega) (by decide)] at h1
  obtain ⟨x, hx, hne⟩ := sumF_pos h1
  refine ⟨x, hx, ?_⟩
  unfold goodL
  rw [cntT_get _ 6 0 (Nat.le_refl 6) (by decide), ← hole_set hl hi x 0 (by decide) 6 (Nat.le_refl 6)]
  exact decide_eq_true hne
theorem pickL_spec {l : List Int} {i : Nat} (h : ∃ d : Nat, d < 10 ∧ goodL (l.set i (d : Int)) = true) : pickL l i < 10 ∧ goodL (l.set i (pickL l i : Int)) = true := by
  obtain ⟨d, h1, h2, h3⟩ := exists_least (p := fun d => goodL (l.set i (d : Int))) h
  have e : pickL l i = d := leastD_eq (p := fun d => goodL (l.set i (d : Int))) h2 h3 10 0 (by omega) (by omega)
  rw [e]
  exact ⟨h1, h2⟩
theorem pickL_eq {l : List Int} {i d : Nat} (hd : d < 10) (h : goodL (l.set i (d : Int)) = true) (hl : ∀ e, e < d → goodL (l.set i (e : Int)) = false) : pickL l i = d :=
  leastD_eq (p := fun d => goodL (l.set i (d : Int))) h hl 10 0 (by omega) (by omega)
theorem fstL_good {l : List Int} (hl : l.length = 6) (hg : goodL l = true) (i : Nat) (hi : i ≤ 6) : goodL (fstL l i) = true := by
  induction i with
  | zero => exact hg
  | succ i ih =>
    have ih := ih (by omega)
    unfold fstL
    split
    · rename_i h
      exact (pickL_spec (pickL_some (by rw [fstL_length, hl]) (by omega) h ih)).2
    · exact ih
def serT (s : ByteArray) : Nat → ByteArray
  | 0 => ⟨#[]⟩
  | i + 1 => if bt s (i : Int) = 63 then serT s i ++ ⟨#[65]⟩ else serT s i ++ s.extract i (i + 1)
theorem serT_size (s : ByteArray) (i : Nat) (hi : i ≤ s.size) : (serT s i).size = i := by
  induction i with
  | zero => rfl
  | succ i ih =>
    unfold serT
    split
    · rw [ByteArray.size_append, ih (by omega)]; rfl
    · rw [ByteArray.size_append, ih (by omega), ByteArray.size_extract]; omega
def wigeonref01_First.f (k : Nat) (a0 : ByteArray) : Option (ByteArray × Bool × Int) := (wigeonref01_IsWorn.f k a0).bind fun b => (if b = true then ((wigeonref01_wornDigits.f k a0).bind fun l => (if l.length = 6 ∧ 6 ≤ a0.size ∧ a0.size ≤ 8 then (if gN (cntT l 6) 0 = 0 then (some (⟨#[]⟩, false, 0)) else ((wigeonref01_text.f k (serT a0 (a0.size - 6)) (fstL l 6)).bind fun r => (some (r, true, 0)))) else (none))) else (some (⟨#[]⟩, false, 2)))
theorem wigeonref01_First.mono : ∀ a0 k, LeO (wigeonref01_First.f k a0) (wigeonref01_First.f (k + 1) a0) := by
  intro a0 k
  unfold wigeonref01_First.f
  exact LeO.bind (wigeonref01_IsWorn.mono _ _) (fun _ => LeO.ite (LeO.bind (wigeonref01_wornDigits.mono _ _) (fun _ => LeO.ite (LeO.ite (LeO.refl _) (LeO.bind (wigeonref01_text.mono _ _ _) (fun _ => LeO.refl _))) (LeO.refl _))) (LeO.refl _))
set_option maxHeartbeats 8000000 in
set_option maxRecDepth 100000 in
theorem wigeonref01_First.bad (k : Nat) (s : ByteArray) (w : World) (h1 : wigeonref01_IsWorn.f k s = some false) :
    Calls Try.prog 49 #[.string s] w (FirstPost w ⟨#[]⟩ false 2) := by
  have HW := Lib.hid (fun w => wigeonref01_IsWorn.calls k s false w h1)
  clear h1
  go_enter Try.func49, Try.ntmps49
  go_wp2_with (first | (go_at_call 31; go_must (with_reducible refine (HW.out _).mono ?_); rintro _ _ ⟨rfl, ⟨nd, rfl⟩⟩))
  go_ret3
  exact ⟨rfl, pw_below_drewN (Below.refl w.heap.size w) nd⟩
theorem own_put {w : World} {base g cap : Nat} {l : List Int} (h : Kd.R (Kd.int .i64) 3 w base (fun _ => True) (.slice (some ⟨g, 0, none⟩) 6 cap) l) (i : Nat) (x : Int) : Kd.R (Kd.int .i64) 3 (w.setCell ⟨g, i, none⟩ (.int .i64 x)) base (fun _ => True) (.slice (some ⟨g, 0, none⟩) 6 cap) (l.set i x) := by
  have h1 := Kd.R_putn h (i : Int) x
  rwa [Int.toNat_natCast] at h1
theorem own_C {w : World} {base : Nat} {A : Option Addr} {cap : Nat} {l : List Int} (h : Kd.R (Kd.int .i64) 3 w base (fun _ => True) (.slice A 6 cap) l) (hl : l.length = 6) : Kd.C (Kd.int .i64) w A 6 l ∧ 6 ≤ cap := by
  obtain ⟨h1, h2, h3⟩ := Kd.R_reads' h
  rw [hl] at h3
  exact ⟨h3, h2⟩
theorem add_off0 (g i : Nat) : (⟨g, 0, none⟩ : Addr).add i = ⟨g, i, none⟩ := by unfold Addr.add; split <;> simp_all
theorem cells_own {w : World} {base g cap : Nat} {l : List Int} (h : Kd.R (Kd.int .i64) 3 w base (fun _ => True) (.slice (some ⟨g, 0, none⟩) 6 cap) l) (hl : l.length = 6) (i : Nat) (hi : i < 6) : w.cell? ⟨g, i, none⟩ = some (.int .i64 (rd l (i : Int))) ∧ w.frozen? ⟨g, i, none⟩ = false ∧ base ≤ g ∧ g < w.heap.size := by
  obtain ⟨g', c', e, h1, h2, cells, hc⟩ := Kd.R_form h (by omega)
  injection e with e1 e2 e3
  injection e1 with e1
  injection e1 with e1
  subst e1
  obtain ⟨ad, ea, hx⟩ := Kd.at_int (Kd.R_reads' h).2.2 (i : Int) (by omega) (by omega)
  injection ea with ea
  subst ea
  rw [Int.toNat_natCast] at hx
  rw [add_off0] at hx
  exact ⟨hx, frozen_of_row w g i cells 3 hc, h1, h2⟩
set_option maxHeartbeats 8000000 in
set_option maxRecDepth 100000 in
theorem wigeonref01_First.good (k : Nat) (s : ByteArray) (l : List Int) (r : ByteArray) (w : World) (h6 : 6 ≤ s.size) (h8 : s.size ≤ 8) (h1 : wigeonref01_IsWorn.f k s = some true) (h2 : wigeonref01_wornDigits.f k s = some l) (hl : l.length = 6) (hg : gN (cntT l 6) 0 ≠ 0) (h3 : wigeonref01_text.f k (serT s (s.size - 6)) (fstL l 6) = some r) :
    Calls Try.prog 49 #[.string s] w (FirstPost w r true 0) := by
  obtain ⟨n, hn⟩ : ∃ n : Nat, (n : Int) = (s.size : Int) - 6 := ⟨s.size - 6, by omega⟩
  have hn2 : s.size - 6 = n := by omega
  have hn3 : n ≤ 2 := by omega
  have hn6 : n + 6 = s.size := by omega
  rw [hn2] at h3
  have HW := Lib.hid (fun w => wigeonref01_IsWorn.calls k s true w h1)
  have HD := Lib.hid (fun w => wigeonref01_wornDigits.calls k s l w h2)
  have HSu := Lib.hid (fun (A : Option Addr) (c : Nat) (l : List Int) (hl : l.length = 6) (w : World) (hC : Kd.C (Kd.int .i64) w A 6 l) (hle : 6 ≤ c) => show Calls Try.prog 81 #[.slice A 6 c] w fun e w' => e = .returned (.agg (encN (cntT l 6))) ∧ Below w.heap.size w w' by have h := wigeonref01_counted.calls A c l (cntT l 6) w (by rw [hl]; exact hC) (by omega) (by unfold wigeonref01_counted.f; rw [if_pos hl]); rwa [hl] at h)
  have HTx := Lib.hid (fun (A : Option Addr) (c : Nat) (w : World) (hC : Kd.C (Kd.int .i64) w A 6 (fstL l 6)) (hle : 6 ≤ c) => show Calls Try.prog 83 #[.string (serT s n), .slice A 6 c] w fun e w' => e = .returned (.string r) ∧ Drawn0 w w' by have e6 : (fstL l 6).length = 6 := (fstL_length l 6).trans hl; have h := wigeonref01_text.calls k (serT s n) A c (fstL l 6) r w (by rw [e6]; exact hC) (by omega) h3; rwa [e6] at h)
  have HIx := Lib.hid (fun (l : List Int) w => index_zero (cntT_length l 6) w)
  have HG := Lib.hid (fun i hi => fstL_good hl (decide_eq_true hg) i hi)
  obtain ⟨q, hq⟩ : ∃ q : Nat, q = gN (cntT l 6) 0 := ⟨_, rfl⟩
  rw [← hq] at hg
  have qq : ((q : Int) == 0) = false := by rw [beq_eq_false_iff_ne]; omega
  have Hq := Lib.hid hq
  have Hl := Lib.hid hl
  clear hq hn2 h1 h2 hg h3
  go_enter Try.func49, Try.ntmps49
  go_wp2_with (first | (go_at_call 31; go_must (with_reducible refine (HW.out _).mono ?_); rintro _ _ ⟨rfl, ⟨nd, rfl⟩⟩))
  have HB0 := Lib.hid (pw_below_drewN (Below.refl w.heap.size w) nd)
  generalize w.drewN nd = W0 at *
  go_loopw [5, 6] (fun v v2 w' => ∃ i : Nat, i ≤ n ∧ v = .string (serT s i) ∧ v2 = .int .i64 (i : Int) ∧ w' = W0) (fun _ v2 _ => n - (intOf v2).toNat)
  case atStart => exact ⟨0, Nat.zero_le _, rfl, rfl, rfl⟩
  case round =>
    obtain ⟨i, hi, rfl, rfl, rfl⟩ := hrel
    by_cases hp : i < n
    · have hi2 : i < s.size := by omega
      have hbt := bt_of hi2
      have qd : decide ((i : Int) < (s.size : Int) - 6) = true := by simp; omega
      have hss := serT_size s i (by omega)
      by_cases hq : bt s (i : Int) = 63
      · have Hn := Lib.hid (show serT s (i + 1) = serT s i ++ ⟨#[65]⟩ by show (if _ then _ else _) = _; rw [if_pos hq])
        have q1 : ((((s[i]'hi2).toNat : Nat) : Int) == 63) = true := by rw [← hbt, hq]; rfl
        clear hbt hq
        generalize serT s i = t at *
        go_wp2
        exact ⟨⟨i + 1, by omega, by rw [Hn.out], by go_num, trivial⟩, by simp [intOf]; omega⟩
      · have Hn := Lib.hid (show serT s (i + 1) = serT s i ++ s.extract i (i + 1) by show (if _ then _ else _) = _; rw [if_neg hq])
        have q1 : ((((s[i]'hi2).toNat : Nat) : Int) == 63) = false := by rw [← hbt]; simpa using hq
        have hsl : (Instr.slice 9 (.string s) (some (.int .i64 (i : Int))) (some (.int .i64 ((i : Int) + 1))) none).run Try.prog wr = .ok (.string (s.extract i (i + 1))) wr := by
          have h := run_slice_string (P := Try.prog) wr 9 s .i64 .i64 (i : Int) ((i : Int) + 1) Try.underlying9 (by omega) (by omega) (by omega)
          have e1 : (i : Int).toNat = i := by omega
          have e2 : ((i : Int) + 1).toNat = i + 1 := by omega
          rwa [e1, e2] at h
        have hxs : (s.extract i (i + 1)).size = 1 := by rw [ByteArray.size_extract]; omega
        clear hbt hq
        generalize serT s i = t at *
        generalize s.extract i (i + 1) = x1 at *
        go_wp2
        exact ⟨⟨i + 1, by omega, by rw [Hn.out], by go_num, trivial⟩, by simp [intOf]; omega⟩
    · have hpe : i = n := by omega
      subst hpe
      have qd : decide ((i : Int) < (s.size : Int) - 6) = false := by simp; omega
      generalize serT s i = st at *
      go_wp2_with (first | (go_at_call 82; go_must (with_reducible refine (HD.out _).mono ?_); rintro _ w2 ⟨v0, rfl, hR, hb2⟩; obtain ⟨g, c, rfl, hwg, hg2, _⟩ := Kd.R_form hR (by have := Hl.out; omega); go_must (rw [Hl.out] at hR); go_must (rw [Hl.out]); have HB2 := Lib.hid hb2; have HR := Lib.hid hR; clear hR hb2 hg2) | (go_at_call 81; go_must (with_reducible refine (HSu.out _ _ l Hl.out _ (by have h := (Kd.R_reads' HR.out).2.2; rwa [Hl.out] at h) (Kd.R_reads' HR.out).2.1).mono ?_); rintro _ w3 ⟨rfl, hb3⟩; have HB3 := Lib.hid hb3; clear hb3; have hix := HIx.out l w3; go_must (rw [← Hq.out] at hix)))
      have HBa := Lib.hid (show Below w.heap.size w w3 from (HB0.out.trans (HB2.out.mono (below_size HB0.out))).trans (HB3.out.mono (Nat.le_trans (below_size HB0.out) (below_size HB2.out))))
      have HRa := Lib.hid (show Kd.R (Kd.int .i64) 3 w3 w.heap.size (fun _ => True) (.slice (some ⟨g, 0, none⟩) 6 c) (fstL l 0) from Kd.R_lower (Kd.R_below HR.out HB3.out) (below_size HB0.out))
      have HcS := Lib.hid (show 6 ≤ c from (Kd.R_reads' HR.out).2.1)
      clear hix
      go_loopw [8] (fun v w' => ∃ i : Nat, i ≤ 6 ∧ v = .int .i64 (i : Int) ∧ Kd.R (Kd.int .i64) 3 w' w.heap.size (fun _ => True) (.slice (some ⟨g, 0, none⟩) 6 c) (fstL l i) ∧ Below w.heap.size w w') (fun v _ => (6 - intOf v).toNat)
      case atStart => exact ⟨0, Nat.zero_le _, rfl, HRa.out, HBa.out⟩
      case round =>
        obtain ⟨i, hi, rfl, hR1, hB1⟩ := hrel
        have HR1 := Lib.hid hR1
        have HB1 := Lib.hid hB1
        clear hR1 hB1
        by_cases hlt : i < 6
        · have qd8 : decide ((i : Int) < 6) = true := by simp; omega
          have HNl := Lib.hid (show fstL l (i + 1) = if rd (fstL l i) (i : Int) < 0 then (fstL l i).set i (pickL (fstL l i) i : Int) else fstL l i from rfl)
          have HLi := Lib.hid (show (fstL l i).length = 6 from (fstL_length l i).trans Hl.out)
          have HGi := Lib.hid (HG.out i hi)
          obtain ⟨nl, hnl⟩ : ∃ nl, nl = fstL l (i + 1) := ⟨_, rfl⟩
          rw [← hnl] at HNl
          have Hnl := Lib.hid hnl
          clear hnl
          generalize fstL l i = li at *
          go_wp2
          go_loopw [9] (fun v w' => ∃ d : Nat, d ≤ 10 ∧ v = .int .i64 (d : Int) ∧ ((rd li (i : Int) < 0 ∧ d < 10 ∧ (∀ e, e < d → goodL (li.set i (e : Int)) = false) ∧ Kd.R (Kd.int .i64) 3 w' w.heap.size (fun _ => True) (.slice (some ⟨g, 0, none⟩) 6 c) li) ∨ (0 ≤ rd nl (i : Int) ∧ Kd.R (Kd.int .i64) 3 w' w.heap.size (fun _ => True) (.slice (some ⟨g, 0, none⟩) 6 c) nl)) ∧ Below w.heap.size w w') (fun v _ => (10 - intOf v).toNat)
          case atStart =>
            refine ⟨0, by omega, rfl, ?_, HB1.out⟩
            by_cases hneg : rd li (i : Int) < 0
            · exact .inl ⟨hneg, by omega, fun e he => by omega, HR1.out⟩
            · have e : nl = li := by rw [HNl.out, if_neg hneg]
              rw [e]
              exact .inr ⟨by omega, HR1.out⟩
          case round =>
            obtain ⟨d, hd10, rfl, hcase, hB2⟩ := hrel
            have HB2' := Lib.hid hB2
            clear hB2
            rcases hcase with ⟨hneg, hd, hlow, hR2⟩ | ⟨hpos, hR2⟩
            · obtain ⟨hcl, hfr, hgb, hgl⟩ := cells_own hR2 HLi.out i hlt
              have HPk := Lib.hid (pickL_some HLi.out hlt hneg HGi.out)
              have Hneg := Lib.hid hneg
              have HLow := Lib.hid hlow
              have HR2' := Lib.hid hR2
              have qn : decide (rd li (i : Int) < 0) = true := decide_eq_true hneg
              clear hneg hlow hR2 hfr
              generalize rd li (i : Int) = x at *
              have HLd := Lib.hid (show (li.set i (d : Int)).length = 6 by rw [List.length_set]; exact HLi.out)
              have HSu2 := Lib.hid (fun A c => HSu.out A c (li.set i (d : Int)) HLd.out)
              obtain ⟨z, hz⟩ : ∃ z : Nat, z = gN (cntT (li.set i (d : Int)) 6) 0 := ⟨_, rfl⟩
              have HIx2 := Lib.hid (show ∀ w, _ from HIx.out (li.set i (d : Int)))
              rw [← hz] at HIx2
              by_cases hz0 : z = 0
              · have hgd : goodL (li.set i (d : Int)) = false := decide_eq_false (fun h => h (by rw [← hz]; exact hz0))
                have HGd := Lib.hid hgd
                subst hz0
                clear hgd hz
                generalize encN (cntT (li.set i (d : Int)) 6) = ways at *
                go_wp2_with (first | ((with_reducible refine gate_dst (N := 51) rfl ?_); go_must (refine Kd.R_lit (Kd.int .i64) _ 3 ?hg (N := 51) ?hd (xs := ([] : List Int)) (inner := []) (ok := fun _ => True) (okp := fun _ => True) ?hr ?hp (fun _ hk => hk) trivial (Below.refl _ _) (Nat.le_refl _) (by simp) ?_); (case hd => rfl); (case hg => rfl); (case hr => first | (go_simp; done) | (go_simp; rfl)); (case hp => exact (Reps.none _ _)); intro v1 w7 ho hb hg_ hnew_; have n0 := Lib.hid ho; have n1 := Lib.hid hb; clear hg_ hnew_ ho hb) | ((with_reducible refine gate_builtin (b := .append) (xs := #[.tmp 51, .tmp 52]) rfl ?_); at_builtin; go_must (refine Kd.R_append_rows (Kd.int .i64) (w0 := wr) wr.heap.size rfl (.tmp 51) (.tmp 52) 28 3 (.int .i64 0) 8 rfl Try.underlying28 info3 rfl (by decide) (by omega) v1 [] li _ _ _ (fun _ => True) (fun _ => False) rfl rfl ?aO ?aR (fun _ _ h => h) (fun _ h => h.elim) ?aF ?aB ?aS ?aL ?_); (case aR => go_must (exact (by have h := (Kd.R_reads' (Kd.R_below HR2'.out n1.out)).2.2; rwa [HLi.out] at h))); go_must (case aB => exact n1.out); go_must (case aF => exact (fun _ _ => trivial)); go_must (case aO => exact n0.out); go_must (case aS => exact (below_size n1.out)); go_must (case aL => simp); intro v2 w9 ho hb hg hat; go_must (rw [List.nil_append] at ho); obtain ⟨g2, c2, rfl, hwg2, _⟩ := Kd.R_form ho (by have := HLi.out; omega); go_must (rw [HLi.out] at ho); go_must (rw [HLi.out]); obtain ⟨hcl2, hfr2, _, hg2⟩ := cells_own ho HLi.out i hlt; have m0 := Lib.hid (own_put ho i (d : Int)); have m1 := Lib.hid (hb.setCell (p := ⟨g2, i, none⟩) hwg2 (.int .i64 (d : Int))); clear ho hb hg hat) | (go_at_call 81; go_must (with_reducible refine (HSu2.out _ _ _ (own_C m0.out HLd.out).1 (own_C m0.out HLd.out).2).mono ?_); rintro _ w11 ⟨rfl, hb11⟩; have HB11 := Lib.hid hb11; clear hb11; have hix := HIx2.out w11))
                have hd9 : d < 9 := by
                  rcases Nat.lt_or_ge d 9 with h | h
                  · exact h
                  · obtain ⟨y, hy, hgy⟩ := HPk.out
                    rcases Nat.lt_or_ge y d with h2 | h2
                    · rw [HLow.out y h2] at hgy; exact absurd hgy (by decide)
                    · have : y = d := by omega
                      subst this
                      rw [HGd.out] at hgy; exact absurd hgy (by decide)
                refine ⟨⟨d + 1, by omega, by go_num, .inl ⟨Hneg.out, by omega, fun e he => ?_, Kd.R_below (Kd.R_below HR2'.out m1.out) HB11.out⟩, ?_⟩, by simp [intOf]; omega⟩
                · by_cases h2 : e = d
                  · subst h2
                    exact HGd.out
                  · exact HLow.out e (by omega)
                · exact (HB2'.out.trans (m1.out.mono (below_size HB2'.out))).trans (HB11.out.mono (Nat.le_trans (below_size HB2'.out) (below_size m1.out)))
              · have hgd : goodL (li.set i (d : Int)) = true := decide_eq_true (fun h => hz0 (by rw [hz]; exact h))
                have HGd := Lib.hid hgd
                have qz : 0 < z := by omega
                clear hgd hz hz0
                generalize encN (cntT (li.set i (d : Int)) 6) = ways at *
                go_wp2_with (first | ((with_reducible refine gate_dst (N := 51) rfl ?_); go_must (refine Kd.R_lit (Kd.int .i64) _ 3 ?hg (N := 51) ?hd (xs := ([] : List Int)) (inner := []) (ok := fun _ => True) (okp := fun _ => True) ?hr ?hp (fun _ hk => hk) trivial (Below.refl _ _) (Nat.le_refl _) (by simp) ?_); (case hd => rfl); (case hg => rfl); (case hr => first | (go_simp; done) | (go_simp; rfl)); (case hp => exact (Reps.none _ _)); intro v1 w7 ho hb hg_ hnew_; have n0 := Lib.hid ho; have n1 := Lib.hid hb; clear hg_ hnew_ ho hb) | ((with_reducible refine gate_builtin (b := .append) (xs := #[.tmp 51, .tmp 52]) rfl ?_); at_builtin; go_must (refine Kd.R_append_rows (Kd.int .i64) (w0 := wr) wr.heap.size rfl (.tmp 51) (.tmp 52) 28 3 (.int .i64 0) 8 rfl Try.underlying28 info3 rfl (by decide) (by omega) v1 [] li _ _ _ (fun _ => True) (fun _ => False) rfl rfl ?aO ?aR (fun _ _ h => h) (fun _ h => h.elim) ?aF ?aB ?aS ?aL ?_); (case aR => go_must (exact (by have h := (Kd.R_reads' (Kd.R_below HR2'.out n1.out)).2.2; rwa [HLi.out] at h))); go_must (case aB => exact n1.out); go_must (case aF => exact (fun _ _ => trivial)); go_must (case aO => exact n0.out); go_must (case aS => exact (below_size n1.out)); go_must (case aL => simp); intro v2 w9 ho hb hg hat; go_must (rw [List.nil_append] at ho); obtain ⟨g2, c2, rfl, hwg2, _⟩ := Kd.R_form ho (by have := HLi.out; omega); go_must (rw [HLi.out] at ho); go_must (rw [HLi.out]); obtain ⟨hcl2, hfr2, _, hg2⟩ := cells_own ho HLi.out i hlt; have m0 := Lib.hid (own_put ho i (d : Int)); have m1 := Lib.hid (hb.setCell (p := ⟨g2, i, none⟩) hwg2 (.int .i64 (d : Int))); clear ho hb hg hat) | (go_at_call 81; go_must (with_reducible refine (HSu2.out _ _ _ (own_C m0.out HLd.out).1 (own_C m0.out HLd.out).2).mono ?_); rintro _ w11 ⟨rfl, hb11⟩; have HB11 := Lib.hid hb11; clear hb11; have hix := HIx2.out w11; have HR11 := Lib.hid (Kd.R_below (Kd.R_below HR2'.out m1.out) HB11.out); obtain ⟨hcl3, hfr3, _, hg3⟩ := cells_own HR11.out HLi.out i hlt))
                have hnl : nl = li.set i (d : Int) := by
                  rw [HNl.out, if_pos Hneg.out, pickL_eq hd HGd.out HLow.out]
                refine ⟨⟨d + 1, by omega, by go_num, .inr ⟨?_, ?_⟩, ?_⟩, by simp [intOf]; omega⟩
                · rw [hnl, rd_set_same li i _ (by rw [HLi.out]; exact hlt)]
                  omega
                · rw [hnl]
                  exact own_put HR11.out i (d : Int)
                · exact ((HB2'.out.trans (m1.out.mono (below_size HB2'.out))).trans (HB11.out.mono (Nat.le_trans (below_size HB2'.out) (below_size m1.out)))).setCell hgb _
            · obtain ⟨hcl, hfr, hgb, hgl⟩ := cells_own hR2 (show nl.length = 6 by rw [Hnl.out, fstL_length]; exact Hl.out) i hlt
              have HR2' := Lib.hid hR2
              have qn : decide (rd nl (i : Int) < 0) = false := decide_eq_false (by omega)
              clear hR2 hfr
              go_wp2
              exact ⟨⟨i + 1, by omega, by go_num, by rw [← Hnl.out]; exact HR2'.out, HB2'.out⟩, by simp [intOf]; omega⟩
        · have hi6 : i = 6 := by omega
          subst hi6
          have qd8 : decide (((6 : Nat) : Int) < 6) = false := by decide
          have Hlf := Lib.hid (show (fstL l 6).length = 6 from (fstL_length l 6).trans Hl.out)
          go_wp2_with (first | (go_at_call 83; go_must (with_reducible refine (HTx.out _ _ _ (own_C HR1.out Hlf.out).1 HcS.out).mono ?_); rintro _ _ ⟨rfl, ⟨nd2, rfl⟩⟩))
          go_ret3
          exact ⟨rfl, pw_below_drewN HB1.out nd2⟩
set_option maxHeartbeats 8000000 in
set_option maxRecDepth 100000 in
theorem wigeonref01_First.none_ (k : Nat) (s : ByteArray) (l : List Int) (w : World) (h6 : 6 ≤ s.size) (h8 : s.size ≤ 8) (h1 : wigeonref01_IsWorn.f k s = some true) (h2 : wigeonref01_wornDigits.f k s = some l) (hl : l.length = 6) (hg : gN (cntT l 6) 0 = 0) :
    Calls Try.prog 49 #[.string s] w (FirstPost w ⟨#[]⟩ false 0) := by
  obtain ⟨n, hn⟩ : ∃ n : Nat, (n : Int) = (s.size : Int) - 6 := ⟨s.size - 6, by omega⟩
  have hn2 : s.size - 6 = n := by omega
  have hn3 : n ≤ 2 := by omega
  have hn6 : n + 6 = s.size := by omega
  have HW := Lib.hid (fun w => wigeonref01_IsWorn.calls k s true w h1)
  have HD := Lib.hid (fun w => wigeonref01_wornDigits.calls k s l w h2)
  have HSu := Lib.hid (fun (A : Option Addr) (c : Nat) (l : List Int) (hl : l.length = 6) (w : World) (hC : Kd.C (Kd.int .i64) w A 6 l) (hle : 6 ≤ c) => show Calls Try.prog 81 #[.slice A 6 c] w fun e w' => e = .returned (.agg (encN (cntT l 6))) ∧ Below w.heap.size w w' by have h := wigeonref01_counted.calls A c l (cntT l 6) w (by rw [hl]; exact hC) (by omega) (by unfold wigeonref01_counted.f; rw [if_pos hl]); rwa [hl] at h)
  have HIx := Lib.hid (fun (l : List Int) w => index_zero (cntT_length l 6) w)
  have hq := hg
  have Hq := Lib.hid hq
  have Hl := Lib.hid hl
  clear hq hn2 h1 h2 hg
  go_enter Try.func49, Try.ntmps49
  go_wp2_with (first | (go_at_call 31; go_must (with_reducible refine (HW.out _).mono ?_); rintro _ _ ⟨rfl, ⟨nd, rfl⟩⟩))
  have HB0 := Lib.hid (pw_below_drewN (Below.refl w.heap.size w) nd)
  generalize w.drewN nd = W0 at *
  go_loopw [5, 6] (fun v v2 w' => ∃ i : Nat, i ≤ n ∧ v = .string (serT s i) ∧ v2 = .int .i64 (i : Int) ∧ w' = W0) (fun _ v2 _ => n - (intOf v2).toNat)
  case atStart => exact ⟨0, Nat.zero_le _, rfl, rfl, rfl⟩
  case round =>
    obtain ⟨i, hi, rfl, rfl, rfl⟩ := hrel
    by_cases hp : i < n
    · have hi2 : i < s.size := by omega
      have hbt := bt_of hi2
      have qd : decide ((i : Int) < (s.size : Int) - 6) = true := by simp; omega
      have hss := serT_size s i (by omega)
      by_cases hq : bt s (i : Int) = 63
      · have Hn := Lib.hid (show serT s (i + 1) = serT s i ++ ⟨#[65]⟩ by show (if _ then _ else _) = _; rw [if_pos hq])
        have q1 : ((((s[i]'hi2).toNat : Nat) : Int) == 63) = true := by rw [← hbt, hq]; rfl
        clear hbt hq
        generalize serT s i = t at *
        go_wp2
        exact ⟨⟨i + 1, by omega, by rw [Hn.out], by go_num, trivial⟩, by simp [intOf]; omega⟩
      · have Hn := Lib.hid (show serT s (i + 1) = serT s i ++ s.extract i (i + 1) by show (if _ then _ else _) = _; rw [if_neg hq])
        have q1 : ((((s[i]'hi2).toNat : Nat) : Int) == 63) = false := by rw [← hbt]; simpa using hq
        have hsl : (Instr.slice 9 (.string s) (some (.int .i64 (i : Int))) (some (.int .i64 ((i : Int) + 1))) none).run Try.prog wr = .ok (.string (s.extract i (i + 1))) wr := by
          have h := run_slice_string (P := Try.prog) wr 9 s .i64 .i64 (i : Int) ((i : Int) + 1) Try.underlying9 (by omega) (by omega) (by omega)
          have e1 : (i : Int).toNat = i := by omega
          have e2 : ((i : Int) + 1).toNat = i + 1 := by omega
          rwa [e1, e2] at h
        have hxs : (s.extract i (i + 1)).size = 1 := by rw [ByteArray.size_extract]; omega
        clear hbt hq
        generalize serT s i = t at *
        generalize s.extract i (i + 1) = x1 at *
        go_wp2
        exact ⟨⟨i + 1, by omega, by rw [Hn.out], by go_num, trivial⟩, by simp [intOf]; omega⟩
    · have hpe : i = n := by omega
      subst hpe
      have qd : decide ((i : Int) < (s.size : Int) - 6) = false := by simp; omega
      generalize serT s i = st at *
      go_wp2_with (first | (go_at_call 82; go_must (with_reducible refine (HD.out _).mono ?_); rintro _ w2 ⟨v0, rfl, hR, hb2⟩; obtain ⟨g, c, rfl, hwg, hg2, _⟩ := Kd.R_form hR (by have := Hl.out; omega); go_must (rw [Hl.out] at hR); go_must (rw [Hl.out]); have HB2 := Lib.hid hb2; have HR := Lib.hid hR; clear hR hb2 hg2) | (go_at_call 81; go_must (with_reducible refine (HSu.out _ _ l Hl.out _ (by have h := (Kd.R_reads' HR.out).2.2; rwa [Hl.out] at h) (Kd.R_reads' HR.out).2.1).mono ?_); rintro _ w3 ⟨rfl, hb3⟩; have HB3 := Lib.hid hb3; clear hb3; have hix := HIx.out l w3; go_must (rw [Hq.out] at hix); go_must (rw [show (((0 : Nat) : Int)) = 0 from rfl] at hix)))
      go_ret3
      exact ⟨rfl, (HB0.out.trans (HB2.out.mono (below_size HB0.out))).trans (HB3.out.mono (Nat.le_trans (below_size HB0.out) (below_size HB2.out)))⟩
theorem wigeonref01_First.calls (k : Nat) (a0 : ByteArray) (r1 : ByteArray) (r2 : Bool) (r3 : Int) (w : World) (h : wigeonref01_First.f k a0 = some (r1, r2, r3)) :
    Calls Try.prog 49 #[.string a0] w fun e w' => e = .returned (.tuple #[.string r1, .bool r2, .int .i64 r3]) ∧ Below w.heap.size w w' := by
  unfold wigeonref01_First.f at h
  obtain ⟨b, h1, h⟩ := Option.bind_eq_some_iff.mp h
  cases b with
  | true =>
    rw [if_pos rfl] at h
    obtain ⟨l, h2, h⟩ := Option.bind_eq_some_iff.mp h
    split at h
    · rename_i hc
      obtain ⟨hl, h6, h8⟩ := hc
      split at h
      · rename_i hz
        obtain ⟨e1, e4⟩ := Prod.mk.inj (Option.some.inj h)
        obtain ⟨e2, e3⟩ := Prod.mk.inj e4
        subst e1 e2 e3
        exact wigeonref01_First.none_ k a0 l w h6 h8 h1 h2 hl hz
      · rename_i hz
        obtain ⟨r, h3, h⟩ := Option.bind_eq_some_iff.mp h
        obtain ⟨e1, e4⟩ := Prod.mk.inj (Option.some.inj h)
        obtain ⟨e2, e3⟩ := Prod.mk.inj e4
        subst e1 e2 e3
        exact wigeonref01_First.good k a0 l r w h6 h8 h1 h2 hl hz h3
    · exact absurd h (by simp)
  | false =>
    rw [if_neg (by decide)] at h
    obtain ⟨e1, e4⟩ := Prod.mk.inj (Option.some.inj h)
    obtain ⟨e2, e3⟩ := Prod.mk.inj e4
    subst e1 e2 e3
    exact wigeonref01_First.bad k a0 w h1

end Go.Proofs.Ytlbhighbhchdmaa.Q
