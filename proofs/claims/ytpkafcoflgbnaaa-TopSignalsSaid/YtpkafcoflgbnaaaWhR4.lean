import Derived.Test.YtpkafcoflgbnaaaWLast
import Derived.Test.YtpkafcoflgbnaaaWMore
import Derived.Test.YtpkafcoflgbnaaaProg
import Derived.Test.YtpkafcoflgbnaaaShelf
import Derived.OwnWalk
import Derived.Handy
import Derived.Deep.DeepMust
import Derived.Lib.Hide
import Derived.Outline
import Derived.IntWalk
import Derived.Deep.RegionWith
import Derived.RangeFuncBox
import Derived.RangeFuncNested
import Derived.Maps.Own
import Derived.Maps.AppendAt
import Derived.Maps.Views
import Derived.StringKeys
import Derived.Laws.EntriesVeiled
import Derived.Lib.OwnBridge
import Derived.Deep.DeepCutAuto
import Derived.Deep.RegionHeld3
import Derived.StillTailTactics
import Derived.Deep.QuietTactic
import Derived.BigQuiet
import Derived.Test.YtpkafcoflgbnaaaWhR2
/- Alike, part 3. For all codes. -/
namespace Go.Proofs.Ytpkafcoflgbnaaa.Q
open Go.RowKit Go.Proofs.YtpkafcoflgbnaaaW.PrintWords Go.Proofs.YtpkafcoflgbnaaaW.PrintLast Go.Proofs.YtpkafcoflgbnaaaW.PrintMore Go.Shelf Go.Maps
set_option linter.unusedVariables false
set_option linter.unusedSimpArgs false
/-! Alike: the closure that follows the pairs. -/
theorem eqS (a b : ByteArray) : (a.toList == b.toList) = decide (a.toList = b.toList) := by
  by_cases h : a.toList = b.toList
  · rw [h]; simp
  · rw [decide_eq_false h]; simpa using h
/-- A pair as it lies in its variable, and what is in it. -/
structure PairAt (W : World) (base pb b1 n1 c1 b2 n2 c2 : Nat) (q : PQ) : Prop where
  box : W.heap[pb]? = some (.cells #[.slice (some ⟨b1, 0, none⟩) n1 c1, .slice (some ⟨b2, 0, none⟩) n2 c2, .string q.2.2] 85 (0, 0))
  short : SigAt W base (.slice (some ⟨b1, 0, none⟩) n1 c1) q.1
  long : SigAt W base (.slice (some ⟨b2, 0, none⟩) n2 c2) q.2.1
theorem PairAt.keep {W W' : World} {base pb b1 n1 c1 b2 n2 c2 : Nat} {q : PQ} (h : PairAt W base pb b1 n1 c1 b2 n2 c2 q) (hk : KeepT W W') (hp : ∀ cur fr, W.heap[pb]? = some (Obj.cells cur 85 fr) → W'.heap[pb]? = W.heap[pb]?) : PairAt W' base pb b1 n1 c1 b2 n2 c2 q :=
  ⟨(hp _ _ h.box).trans h.box, hk.sig h.short, hk.sig h.long⟩
theorem PairAt.later {W W' : World} {base pb b1 n1 c1 b2 n2 c2 : Nat} {q : PQ} (h : PairAt W base pb b1 n1 c1 b2 n2 c2 q) (hb : Below W.heap.size W W') : PairAt W' base pb b1 n1 c1 b2 n2 c2 q :=
  h.keep (KeepT.below hb) fun _ _ he => hb.block pb (Array.getElem?_eq_some_iff.1 he).1
theorem triple_is {W : World} {tb : Nat} {c d e : Value} {t : TypeId} (h : W.heap[tb]? = some (.cells #[c, d, e] t (0, 0))) : W.cell? ⟨tb, 0, none⟩ = some c ∧ W.cell? ⟨tb, 1, none⟩ = some d ∧ W.cell? ⟨tb, 2, none⟩ = some e :=
  ⟨by rw [cell_of_row _ _ 0 _ _ _ h]; rfl, by rw [cell_of_row _ _ 1 _ _ _ h]; rfl, by rw [cell_of_row _ _ 2 _ _ _ h]; rfl⟩
/-- A pair of the row, opened. -/
theorem ASt.pair {W : World} {bo bs mb base pb : Nat} {qs : List PQ} (h : ASt W bo bs mb base pb qs) (i : Nat) (hi : i < qs.length) :
    ∃ g cap b1 n1 c1 b2 n2 c2, Boxed W bo 82 (.slice (some ⟨g, 0, none⟩) qs.length cap) ∧ W.cell? ⟨g, i * 3, none⟩ = some (.slice (some ⟨b1, 0, none⟩) n1 c1) ∧ W.cell? ⟨g, i * 3 + 1, none⟩ = some (.slice (some ⟨b2, 0, none⟩) n2 c2) ∧ W.cell? ⟨g, i * 3 + 2, none⟩ = some (.string (qAt qs i).2.2) ∧
      SigAt W base (.slice (some ⟨b1, 0, none⟩) n1 c1) (qAt qs i).1 ∧ SigAt W base (.slice (some ⟨b2, 0, none⟩) n2 c2) (qAt qs i).2.1 := by
  obtain ⟨ps, ⟨-, -, v, h3, h4, -⟩, hl, hp⟩ := h
  have hi2 : i < ps.length := by rw [hl]; exact hi
  obtain ⟨e1, e2, e3⟩ := hp i hi2
  obtain ⟨c1, c2, c3⟩ := cellsP_at ps i hi2
  have h4' := h4
  rcases h4.2 with ⟨_, h0⟩ | ⟨g, cap, cur, rfl, -⟩
  · omega
  · obtain ⟨b1, n1, _, w1, -⟩ := e2
    obtain ⟨b2, n2, _, w2, -⟩ := e3
    have x1 := h4'.cells (g := g) rfl _ _ c1
    have x2 := h4'.cells (g := g) rfl _ _ c2
    have x3 := h4'.cells (g := g) rfl _ _ c3
    rw [Addr.add_lit, Nat.zero_add] at x1 x2 x3
    rw [w1] at x1
    rw [w2] at x2
    rw [e1] at x3
    obtain ⟨-, e2, e3⟩ := hp i hi2
    rw [w1] at e2
    rw [w2] at e3
    rw [hl] at h3
    exact ⟨g, cap, b1, _, n1, b2, _, n2, h3, x1, x2, x3, e2, e3⟩
theorem ASt.openV {W : World} {bo bs mb base pb : Nat} {qs : List PQ} (h : ASt W bo bs mb base pb qs) : ∃ v, Boxed W bo 82 v ∧ ((v = .slice none 0 0 ∧ qs = []) ∨ ∃ g cap, v = .slice (some ⟨g, 0, none⟩) qs.length cap) := by
  obtain ⟨ps, ⟨-, -, v, h3, h4, -⟩, hl, -⟩ := h
  refine ⟨v, h3, ?_⟩
  rcases h4.2 with ⟨rfl, h0⟩ | ⟨g, cap, cur, rfl, -⟩
  · exact .inl ⟨rfl, List.eq_nil_of_length_eq_zero (by omega)⟩
  · exact .inr ⟨g, cap, by rw [hl]⟩
/-- What the search leaves. -/
def FolEnd (W : World) (base aB bB : Nat) : Option (List Nat × List Nat) → Prop
  | none => Boxed W aB 35 (.slice none 0 0) ∧ Boxed W bB 35 (.slice none 0 0)
  | some r => ∃ b1 n1 c1 b2 n2 c2, Boxed W aB 35 (.slice (some ⟨b1, 0, none⟩) n1 c1) ∧ Boxed W bB 35 (.slice (some ⟨b2, 0, none⟩) n2 c2) ∧ SigAt W base (.slice (some ⟨b1, 0, none⟩) n1 c1) r.1 ∧ SigAt W base (.slice (some ⟨b2, 0, none⟩) n2 c2) r.2
def folArgs (i : Int) (bo cB aB bB adB fB : Nat) : Array Value := #[.int .i64 i, .pointer (some ⟨bo, 0, none⟩), .pointer (some ⟨cB, 0, none⟩), .pointer (some ⟨aB, 0, none⟩), .pointer (some ⟨bB, 0, none⟩), .pointer (some ⟨adB, 0, none⟩), .pointer (some ⟨fB, 0, none⟩)]
def folFun (bo cB aB bB adB fB : Nat) : Value := .func (.func 80) #[] #[.pointer (some ⟨bo, 0, none⟩), .pointer (some ⟨cB, 0, none⟩), .pointer (some ⟨aB, 0, none⟩), .pointer (some ⟨bB, 0, none⟩), .pointer (some ⟨adB, 0, none⟩), .pointer (some ⟨fB, 0, none⟩)]
set_option maxHeartbeats 4000000 in
set_option maxRecDepth 100000 in
theorem fol_end (w W : World) (A0 : Option Addr) (n c0 bo bs mb pb cB aB bB adB fB : Nat) (qs : List PQ) (hE : Env w W A0 n c0 bo bs cB aB bB adB fB) (hS : ASt W bo bs mb w.heap.size pb qs) :
    Calls Try.prog 80 (folArgs (qs.length : Nat) bo cB aB bB adB fB) W fun e W' => e = .returned (.bool false) ∧ Below w.heap.size w W' ∧ FolEnd W' w.heap.size aB bB none := by
  obtain ⟨v, hv, hc⟩ := hS.openV
  have hcell := hv.cell
  have HE := Lib.hid hE
  clear hE hS hv
  unfold folArgs
  rcases hc with ⟨rfl, rfl⟩ | ⟨g, cap, rfl⟩
  · go_enter Try.func80, Try.ntmps80
    go_wp2
    first | go_ret | go_returns | go_end0
    exact ⟨rfl, HE.out.below, HE.out.ab, HE.out.bb⟩
  · have hq : ((qs.length : Int) == (qs.length : Int)) = true := by simp
    go_enter Try.func80, Try.ntmps80
    go_wp2
    first | go_ret | go_returns | go_end0
    exact ⟨rfl, HE.out.below, HE.out.ab, HE.out.bb⟩
/-- A list made out of another one and one number more. -/
theorem made_more {wr w1 w3 : World} {base n : Nat} {v1 v3 : Value} {S : List Nat} {o : Obj} (hb1 : Below wr.heap.size wr w1) (ho1 : w1.ownsRow wr.heap.size 3 1 v1 S.length (numsV S)) (ho3 : w3.ownsRow wr.heap.size 3 1 v3 (S.length + 1) (numsV S ++ [.int .i64 (n : Int)])) (hg3 : (w1.alloc o).grownBy w3 v1.ownBlock) (hbase : base ≤ wr.heap.size) :
    Below wr.heap.size wr w3 ∧ ∃ b3 n3 c3, v3 = .slice (some ⟨b3, 0, none⟩) n3 c3 ∧ SigAt w3 base v3 (S ++ [n]) := by
  refine ⟨(hb1.alloc hb1.size _).grown hg3 (by simp; have := hb1.size; omega) (fun k e => (ho1.lt k e).1), ?_⟩
  have e : numsV S ++ [Value.int .i64 (n : Int)] = numsV (S ++ [n]) := by rw [numsV_app]; rfl
  rw [e] at ho3
  have ho3' : w3.ownsRow wr.heap.size 3 1 v3 (S ++ [n]).length (numsV (S ++ [n])) := by rw [List.length_append]; exact ho3
  obtain ⟨b, c, hv, hs⟩ := sig_made (base := base) ho3' hbase (by simp)
  exact ⟨b, _, c, hv, hs⟩
def FolPostS (w : World) (base aB bB : Nat) (r : List Nat × List Nat) (W' : World) : Prop := Below w.heap.size w W' ∧ FolEnd W' base aB bB (some r)
theorem FolPostS.drew {w : World} {base aB bB : Nat} {r : List Nat × List Nat} {W' : World} (h : FolPostS w base aB bB r W') : FolPostS w base aB bB r W'.drew := ⟨h.1.drew, h.2⟩
theorem SigAt.setBox {W : World} {base B : Nat} {t : TypeId} {u x v : Value} {S : List Nat} (h : SigAt W base v S) (hb : Boxed W B t u) (ht : t ≠ 3) : SigAt (W.setCell ⟨B, 0, none⟩ x) base v S :=
  h.keep fun b _ ⟨cur, hh⟩ => set_other2 (by
    intro e
    have e : b = B := e
    subst e
    have := (show W.heap[b]? = _ from hb).symm.trans hh
    injection this with this; injection this with _ h2; exact ht h2)
theorem fol_found {w w3 : World} {base aB bB b3 n3 c3 b2 n2 c2 : Nat} {S T : List Nat} {x y : Value} (ha : Boxed w3 aB 35 x) (hb : Boxed w3 bB 35 y) (hne : aB ≠ bB) (hab : w.heap.size ≤ aB) (hbb : w.heap.size ≤ bB) (hB : Below w.heap.size w w3) (h3 : SigAt w3 base (.slice (some ⟨b3, 0, none⟩) n3 c3) S) (h2 : SigAt w3 base (.slice (some ⟨b2, 0, none⟩) n2 c2) T) :
    FolPostS w base aB bB (S, T) ((w3.setCell ⟨aB, 0, none⟩ (.slice (some ⟨b3, 0, none⟩) n3 c3)).setCell ⟨bB, 0, none⟩ (.slice (some ⟨b2, 0, none⟩) n2 c2)) := by
  have hb' := hb.other (fun e => hne e.symm) (.slice (some ⟨b3, 0, none⟩) n3 c3)
  have ha' := ha.set (.slice (some ⟨b3, 0, none⟩) n3 c3)
  exact ⟨(hB.setCell (p := ⟨aB, 0, none⟩) hab _).setCell (p := ⟨bB, 0, none⟩) hbb _, b3, n3, c3, b2, n2, c2, ha'.other hne _, hb'.set _, (h3.setBox ha (by decide)).setBox hb' (by decide), (h2.setBox ha (by decide)).setBox hb' (by decide)⟩
theorem fol_found2 {w w3 : World} {base aB bB b3 n3 c3 b2 n2 c2 : Nat} {S T : List Nat} {x y : Value} (ha : Boxed w3 aB 35 x) (hb : Boxed w3 bB 35 y) (hne : aB ≠ bB) (hab : w.heap.size ≤ aB) (hbb : w.heap.size ≤ bB) (hB : Below w.heap.size w w3) (h3 : SigAt w3 base (.slice (some ⟨b3, 0, none⟩) n3 c3) S) (h2 : SigAt w3 base (.slice (some ⟨b2, 0, none⟩) n2 c2) T) :
    FolPostS w base aB bB (S, T) ((w3.setCell ⟨bB, 0, none⟩ (.slice (some ⟨b2, 0, none⟩) n2 c2)).setCell ⟨aB, 0, none⟩ (.slice (some ⟨b3, 0, none⟩) n3 c3)) := by
  have ha' := ha.other hne (.slice (some ⟨b2, 0, none⟩) n2 c2)
  have hb' := hb.set (.slice (some ⟨b2, 0, none⟩) n2 c2)
  exact ⟨(hB.setCell (p := ⟨bB, 0, none⟩) hbb _).setCell (p := ⟨aB, 0, none⟩) hab _, b3, n3, c3, b2, n2, c2, ha'.set _, hb'.other (fun e => hne e.symm) _, (h3.setBox hb (by decide)).setBox ha' (by decide), (h2.setBox hb (by decide)).setBox ha' (by decide)⟩
def FolPost (w : World) (base aB bB : Nat) (res : Option (List Nat × List Nat)) (e : Ending) (W' : World) : Prop := e = .returned (.bool res.isSome) ∧ Below w.heap.size w W' ∧ FolEnd W' base aB bB res
set_option maxHeartbeats 8000000 in
set_option maxRecDepth 100000 in
theorem fol_step (w W : World) (A0 : Option Addr) (c0 bo bs mb pb0 cB aB bB adB fB : Nat) (C : List ByteArray) (i : Nat) (qs : List PQ) (res : Option (List Nat × List Nat)) (hE : Env w W A0 C.length c0 bo bs cB aB bB adB fB) (hF : Boxed W fB 89 (folFun bo cB aB bB adB fB)) (hS : ASt W bo bs mb w.heap.size pb0 qs)
    (hbo : w.heap.size ≤ bo) (hmb : w.heap.size ≤ mb) (hab : w.heap.size ≤ aB) (hbb : w.heap.size ≤ bB) (hne : aB ≠ bB) (hi : i < qs.length) (hq : qs.length ≤ 5000) (hp : (qAt qs i).1.length ≤ 5000) (hC : C.length ≤ 100)
    (hcode : ∀ W, Below w.heap.size w W → ∀ j, j < C.length → ∃ ad, A0 = some ad ∧ W.cell? (ad.add j) = some (.string (sig C j))) (hsz : ∀ j, (sig C j).size ≤ 1000) (hr : (qAt qs i).2.2.size ≤ 1000)
    (hstop : ∀ n, (folI C (qAt qs i) C.length 0 qs).1 = some n → res = some ((qAt qs i).1 ++ [n], (qAt qs i).2.1))
    (hgo : (folI C (qAt qs i) C.length 0 qs).1 = none → ∀ W' pb', Env w W' A0 C.length c0 bo bs cB aB bB adB fB → Boxed W' fB 89 (folFun bo cB aB bB adB fB) → ASt W' bo bs mb w.heap.size pb' (folI C (qAt qs i) C.length 0 qs).2 → Calls Try.prog 80 (folArgs ((i + 1 : Nat) : Int) bo cB aB bB adB fB) W' (FolPost w w.heap.size aB bB res)) :
    Calls Try.prog 80 (folArgs (i : Nat) bo cB aB bB adB fB) W (FolPost w w.heap.size aB bB res) := by
  obtain ⟨i3, hi3, hz30, hz31, hz32⟩ := info_parts (show (Try.prog.info? 3).map (fun i => (i.zero, i.size, i.bytes)) = some (some (.int .i64 0), 1, 8) by kernel_rfl)
  obtain ⟨g, cap, b1, n1, c1, b2, n2, c2, hob, x1, x2, x3, s1, s2⟩ := hS.pair i hi
  have hobc := hob.cell
  have hcc := hE.code.cell
  have hne0 : ((i : Int) == (qs.length : Int)) = false := by simp; omega
  have hi0 : (0 : Int) ≤ (i : Int) := by omega
  have hi1 : (i : Int) < (qs.length : Int) := by omega
  have di0 := decide_eq_true hi0
  have di1 := decide_eq_true hi1
  obtain ⟨q, hqe⟩ : ∃ q, qAt qs i = q := ⟨_, rfl⟩
  rw [hqe] at x3 s1 s2 hp hr hstop hgo
  have hW1 : Below W.heap.size W (W.alloc (.cells #[.slice (some ⟨b1, 0, none⟩) n1 c1, .slice (some ⟨b2, 0, none⟩) n2 c2, .string q.2.2] 85)) := (Below.refl _ _).alloc (Nat.le_refl _) _
  have hP1 : PairAt (W.alloc (.cells #[.slice (some ⟨b1, 0, none⟩) n1 c1, .slice (some ⟨b2, 0, none⟩) n2 c2, .string q.2.2] 85)) w.heap.size W.heap.size b1 n1 c1 b2 n2 c2 q := ⟨heap_alloc_new W _, s1.below hW1, s2.below hW1⟩
  have hE1 := hE.keep (KeepT.below hW1) (hW1.mono hE.below.size)
  have hF1 := (KeepT.below hW1).boxed hF (by decide) (by decide)
  have hS1 := hS.fresh (.cells #[.slice (some ⟨b1, 0, none⟩) n1 c1, .slice (some ⟨b2, 0, none⟩) n2 c2, .string q.2.2] 85)
  have hcc1 := hE1.code.cell
  have HE1 := Lib.hid hE1
  have HF1 := Lib.hid hF1
  have HS1 := Lib.hid hS1
  have HP1 := Lib.hid hP1
  have HST := Lib.hid hstop
  have HGO := Lib.hid hgo
  have HC := Lib.hid hcode
  have HSZ := Lib.hid hsz
  have HQ := Lib.hid hqe
  have hWw := hE.below.size
  clear hE1 hF1 hS1 hP1 hstop hgo hcode hsz hE hF hS hob s1 s2 hW1 hqe
  unfold folArgs
  go_enter Try.func80, Try.ntmps80
  go_wp2
  obtain ⟨pb, hpb⟩ : ∃ pb, W.heap.size = pb := ⟨_, rfl⟩
  obtain ⟨r, hre⟩ : ∃ r, q.2.2 = r := ⟨_, rfl⟩
  rw [hpb] at HS1 HP1 hWw
  simp only [hpb, hre]
  simp only [hre] at HE1 HF1 HS1 HP1
  have HRE := Lib.hid hre
  rw [hre] at hr
  clear hre x3 hcc hobc hcc1 x1 x2
  have hlt0 : pb < (W.alloc (.cells #[.slice (some ⟨b1, 0, none⟩) n1 c1, .slice (some ⟨b2, 0, none⟩) n2 c2, .string r] 85)).heap.size := by simp; omega
  generalize W.alloc (.cells #[.slice (some ⟨b1, 0, none⟩) n1 c1, .slice (some ⟨b2, 0, none⟩) n2 c2, .string r] 85) = Wp at *
  go_loopw [27] (fun p wr => ∃ (n : Nat) (qs' : List PQ), n ≤ C.length ∧ p = .int .i64 (n : Int) ∧ Hid (folI C q (C.length - n) n qs' = folI C q C.length 0 qs) ∧ ASt wr bo bs mb w.heap.size pb qs' ∧ Env w wr A0 C.length c0 bo bs cB aB bB adB fB ∧ Boxed wr fB 89 (folFun bo cB aB bB adB fB) ∧ PairAt wr w.heap.size pb b1 n1 c1 b2 n2 c2 q ∧ qs'.length ≤ qs.length + 2 * n ∧ pb < wr.heap.size) (fun p _ => C.length - (intOf p).toNat)
  case atStart => exact ⟨0, qs, Nat.zero_le _, rfl, rfl, HS1.out, HE1.out, HF1.out, HP1.out, by omega, hlt0⟩
  case round =>
    obtain ⟨n, qs', hn, rfl, HFI, hA, hE, hF, hP, hql, hpl⟩ := hrel
    by_cases hlt : n < C.length
    · have hdn : decide ((n : Int) < (C.length : Int)) = true := decide_eq_true (by omega)
      have hdn0 : decide (0 ≤ (n : Int)) = true := decide_eq_true (by omega)
      obtain ⟨ad, hAd, hci⟩ := HC.out wr hE.below n hlt
      subst hAd
      obtain ⟨s, hs⟩ : ∃ s, sig C n = s := ⟨_, rfl⟩
      rw [hs] at hci
      have hss : s.size ≤ 1000 := by rw [← hs]; exact HSZ.out n
      have HSN := Lib.hid hs
      have hwb := hE.below.size
      have hclone := clone_calls wr w.heap.size _ q.1 b1 n1 c1 rfl hP.short (by omega)
      obtain ⟨p0, p1, p2⟩ := triple_is hP.box
      rw [HRE.out] at p2
      have HA := Lib.hid hA
      have HE := Lib.hid hE
      have HF := Lib.hid hF
      have HP := Lib.hid hP
      clear hA hE hF hP hs
      by_cases hsr : s.toList = r.toList
      · have hb1 : (s.toList == r.toList) = true := by rw [hsr]; simp
        have hb2 : decide (s.toList = r.toList) = true := decide_eq_true hsr
        go_wp2_with (first | (go_at_call 81; go_must (with_reducible refine hclone.mono ?_); rintro e w1 ⟨v1, rfl, ho1, hb1x⟩; have HO1 := Lib.hid ho1; have HB1 := Lib.hid hb1x; clear ho1 hb1x) | (at_builtin; refine wpList_append_own _ rfl _ _ 35 rfl wr.heap.size 3 i3 (.int .i64 0) 1 8 Try.underlying35 hi3 hz30 hz31 hz32 rfl (by decide) _ q.1.length (numsV q.1) rfl (HO1.out.alloc _) ⟨_, 0, none⟩ 1 1 [.int .i64 (n : Int)] rfl rfl (new_cell _ _ _) (fun u hu => by rw [List.mem_singleton] at hu; subst hu; rfl) (by unfold maxLen; omega) (by omega) (by have := HB1.out.size; simp; omega) ?_; intro v3 w3 ho3 hg3 hn3; obtain ⟨hB3, b3, n3, c3, hv3, hs3⟩ := made_more (base := w.heap.size) HB1.out HO1.out ho3 hg3 hwb; subst hv3; have hP3 := HP.out.later hB3; obtain ⟨p03, p13, p23⟩ := triple_is hP3.box; rw [HRE.out] at p23; clear hn3 ho3))
        have hE3 := HE.out.keep (KeepT.below hB3) (hB3.mono hwb)
        have hres : res = some (q.1 ++ [n], q.2.1) := HST.out n (by
          rw [← HFI.out, show C.length - n = (C.length - n - 1) + 1 by omega]
          unfold folI
          rw [HSN.out, HRE.out, if_pos hsr])
        have a1 := hE3.ab.cell
        have a2 := hE3.ab.frozen
        have a3 := hE3.bb.cell
        have a4 := hE3.bb.frozen
        have na : aB ≠ pb := fun e => by
          have h1 := (show w3.heap[aB]? = _ from hE3.ab)
          rw [e, hP3.box] at h1
          injection h1 with h1; injection h1 with _ h1; exact absurd h1 (by decide)
        have nb : bB ≠ pb := fun e => by
          have h1 := (show w3.heap[bB]? = _ from hE3.bb)
          rw [e, hP3.box] at h1
          injection h1 with h1; injection h1 with _ h1; exact absurd h1 (by decide)
        have HE3 := Lib.hid hE3
        have HP3 := Lib.hid hP3
        have HS3 := Lib.hid hs3
        have HRS := Lib.hid hres
        have hne' : bB ≠ aB := fun e => hne e.symm
        clear hE3 hP3 hs3 hres hg3 hB3 hclone p0 p1 p2 p03 p23
        go_region_held3 (fun w' => w'.cell? ⟨pb, 1, none⟩ = some (.slice (some ⟨b2, 0, none⟩) n2 c2)) (go_keep) (fail)
        go_wp2
        first | go_ret | go_returns | go_end0
        rw [HRS.out]
        exact ⟨rfl, (fol_found HE3.out.ab HE3.out.bb hne hab hbb HE3.out.below HS3.out HP3.out.long).drew⟩
      · have hb1 : (s.toList == r.toList) = false := by simpa using hsr
        have hb2 : decide (s.toList = r.toList) = false := decide_eq_false hsr
        have hfo : folI C q (C.length - (n + 1)) (n + 1) (oneQ q n s qs') = folI C q C.length 0 qs := by
          rw [← HFI.out, show C.length - n = (C.length - (n + 1)) + 1 by omega]
          conv => rhs; unfold folI
          rw [HSN.out, HRE.out, if_neg hsr]
        have HFO := Lib.hid hfo
        have HOL := Lib.hid (oneQ_le q n s qs')
        have hcut1 := fun W => cut_calls s r W
        have hcut2 := fun W => cut_calls r s W
        clear hfo
        by_cases h1 : headB s r = true
        · have H1 := Lib.hid h1
          rw [h1] at hcut1
          clear h1
          by_cases h2 : headB r s = true
          · have H2 := Lib.hid h2
            rw [h2] at hcut2
            clear h2
            go_wp2_with (first | (go_at_call 81; go_must (with_reducible refine hclone.mono ?_); rintro e w1 ⟨v1, rfl, ho1, hb1x⟩; have HO1 := Lib.hid ho1; have HB1 := Lib.hid hb1x; clear ho1 hb1x) | (at_builtin; refine wpList_append_own _ rfl _ _ 35 rfl wr.heap.size 3 i3 (.int .i64 0) 1 8 Try.underlying35 hi3 hz30 hz31 hz32 rfl (by decide) _ q.1.length (numsV q.1) rfl (HO1.out.alloc _) ⟨_, 0, none⟩ 1 1 [.int .i64 (n : Int)] rfl rfl (new_cell _ _ _) (fun u hu => by rw [List.mem_singleton] at hu; subst hu; rfl) (by unfold maxLen; omega) (by omega) (by have := HB1.out.size; simp; omega) ?_; intro v3 w3 ho3 hg3 hn3; obtain ⟨hB3, b3, n3, c3, hv3, hs3⟩ := made_more (base := w.heap.size) HB1.out HO1.out ho3 hg3 hwb; subst hv3; have hP3 := HP.out.later hB3; obtain ⟨p03, p13, p23⟩ := triple_is hP3.box; rw [HRE.out] at p23; have HE3 := Lib.hid (HE.out.keep (KeepT.below hB3) (hB3.mono hwb)); have HF3 := Lib.hid ((KeepT.below hB3).boxed HF.out (by decide) (by decide)); have HA3 := Lib.hid (HA.out.later hB3); have HP3 := Lib.hid hP3; have HS3 := Lib.hid hs3; have ad3 := HE3.out.add.cell; have HB3 := Lib.hid hB3; clear hn3 ho3 hg3 hP3 hs3 hB3) | (go_at_call 79; (with_reducible refine (hcut1 _).mono ?_); rintro _ _ ⟨rfl, rfl⟩) | (go_at_call 79; (with_reducible refine (hcut2 _).mono ?_); rintro _ _ ⟨rfl, rfl⟩) | (go_at_call 78; (with_reducible refine (addst_calls bo bs mb w.heap.size pb qs' b2 n2 c2 b3 n3 c3 q.2.1 (q.1 ++ [n]) (restB s r) _ HA3.out (Nat.lt_of_lt_of_le hpl HB3.out.size) hbo hmb (by omega) (Nat.le_trans (restB_le _ _) hss) HP3.out.long HS3.out).mono ?_); rintro _ w4 ⟨rfl, hA4, hK4, hB4, hq4⟩; have hP4 := HP3.out.keep hK4 hq4; obtain ⟨p04, p14, p24⟩ := triple_is hP4.box; rw [HRE.out] at p24; have HE4 := Lib.hid (HE3.out.keep hK4 hB4); have HF4 := Lib.hid (hK4.boxed HF3.out (by decide) (by decide)); have HA4 := Lib.hid hA4; have HP4 := Lib.hid hP4; have HS4 := Lib.hid (hK4.sig HS3.out); have ad4 := HE4.out.add.cell; have HB4 := Lib.hid hB4; clear hA4 hK4 hB4 hq4 hP4) | (go_at_call 78; (with_reducible refine (addst_calls bo bs mb w.heap.size pb (addQ qs' (q.2.1, q.1 ++ [n], restB s r)) b3 n3 c3 b2 n2 c2 (q.1 ++ [n]) q.2.1 (restB r s) _ HA4.out (Nat.lt_of_lt_of_le (Nat.lt_of_lt_of_le hpl HB3.out.size) HB4.out.size) hbo hmb (by have := addQ_le qs' (q.2.1, q.1 ++ [n], restB s r); omega) (Nat.le_trans (restB_le _ _) hr) HS4.out HP4.out.long).mono ?_); rintro _ w5 ⟨rfl, hA5, hK5, hB5, hq5⟩; have HP5 := Lib.hid (HP4.out.keep hK5 hq5); have HE5 := Lib.hid (HE4.out.keep hK5 hB5); have HF5 := Lib.hid (hK5.boxed HF4.out (by decide) (by decide)); have HA5 := Lib.hid hA5; have HB5 := Lib.hid hB5; clear hA5 hK5 hB5 hq5))
            go_roundw
            case rel =>
              have hQ : oneQ q n s qs' = addQ (addQ qs' (q.2.1, q.1 ++ [n], restB s r)) (q.1 ++ [n], q.2.1, restB r s) := by
                unfold oneQ oneQ2 oneQ1
                rw [HRE.out, if_pos H2.out, if_pos H1.out]
              exact ⟨n + 1, oneQ q n s qs', by omega, by simp, HFO.out, by rw [hQ]; exact HA5.out, HE5.out, HF5.out, HP5.out, by have := HOL.out; omega, Nat.lt_of_lt_of_le (Nat.lt_of_lt_of_le (Nat.lt_of_lt_of_le hpl HB3.out.size) HB4.out.size) HB5.out.size⟩
            case measure => simp [intOf]; omega
          · have H2 := Lib.hid h2
            rw [Bool.eq_false_iff.2 h2] at hcut2
            clear h2
            go_wp2_with (first | (go_at_call 81; go_must (with_reducible refine hclone.mono ?_); rintro e w1 ⟨v1, rfl, ho1, hb1x⟩; have HO1 := Lib.hid ho1; have HB1 := Lib.hid hb1x; clear ho1 hb1x) | (at_builtin; refine wpList_append_own _ rfl _ _ 35 rfl wr.heap.size 3 i3 (.int .i64 0) 1 8 Try.underlying35 hi3 hz30 hz31 hz32 rfl (by decide) _ q.1.length (numsV q.1) rfl (HO1.out.alloc _) ⟨_, 0, none⟩ 1 1 [.int .i64 (n : Int)] rfl rfl (new_cell _ _ _) (fun u hu => by rw [List.mem_singleton] at hu; subst hu; rfl) (by unfold maxLen; omega) (by omega) (by have := HB1.out.size; simp; omega) ?_; intro v3 w3 ho3 hg3 hn3; obtain ⟨hB3, b3, n3, c3, hv3, hs3⟩ := made_more (base := w.heap.size) HB1.out HO1.out ho3 hg3 hwb; subst hv3; have hP3 := HP.out.later hB3; obtain ⟨p03, p13, p23⟩ := triple_is hP3.box; rw [HRE.out] at p23; have HE3 := Lib.hid (HE.out.keep (KeepT.below hB3) (hB3.mono hwb)); have HF3 := Lib.hid ((KeepT.below hB3).boxed HF.out (by decide) (by decide)); have HA3 := Lib.hid (HA.out.later hB3); have HP3 := Lib.hid hP3; have HS3 := Lib.hid hs3; have ad3 := HE3.out.add.cell; have HB3 := Lib.hid hB3; clear hn3 ho3 hg3 hP3 hs3 hB3) | (go_at_call 79; (with_reducible refine (hcut1 _).mono ?_); rintro _ _ ⟨rfl, rfl⟩) | (go_at_call 79; (with_reducible refine (hcut2 _).mono ?_); rintro _ _ ⟨rfl, rfl⟩) | (go_at_call 78; (with_reducible refine (addst_calls bo bs mb w.heap.size pb qs' b2 n2 c2 b3 n3 c3 q.2.1 (q.1 ++ [n]) (restB s r) _ HA3.out (Nat.lt_of_lt_of_le hpl HB3.out.size) hbo hmb (by omega) (Nat.le_trans (restB_le _ _) hss) HP3.out.long HS3.out).mono ?_); rintro _ w4 ⟨rfl, hA4, hK4, hB4, hq4⟩; have hP4 := HP3.out.keep hK4 hq4; obtain ⟨p04, p14, p24⟩ := triple_is hP4.box; rw [HRE.out] at p24; have HE4 := Lib.hid (HE3.out.keep hK4 hB4); have HF4 := Lib.hid (hK4.boxed HF3.out (by decide) (by decide)); have HA4 := Lib.hid hA4; have HP4 := Lib.hid hP4; have HS4 := Lib.hid (hK4.sig HS3.out); have ad4 := HE4.out.add.cell; have HB4 := Lib.hid hB4; clear hA4 hK4 hB4 hq4 hP4))
            go_roundw
            case rel =>
              have hQ : oneQ q n s qs' = (addQ qs' (q.2.1, q.1 ++ [n], restB s r)) := by
                unfold oneQ oneQ2 oneQ1
                rw [HRE.out, if_neg H2.out, if_pos H1.out]
              exact ⟨n + 1, oneQ q n s qs', by omega, by simp, HFO.out, by rw [hQ]; exact HA4.out, HE4.out, HF4.out, HP4.out, by have := HOL.out; omega, Nat.lt_of_lt_of_le (Nat.lt_of_lt_of_le hpl HB3.out.size) HB4.out.size⟩
            case measure => simp [intOf]; omega
        · have H1 := Lib.hid h1
          rw [Bool.eq_false_iff.2 h1] at hcut1
          clear h1
          by_cases h2 : headB r s = true
          · have H2 := Lib.hid h2
            rw [h2] at hcut2
            clear h2
            go_wp2_with (first | (go_at_call 81; go_must (with_reducible refine hclone.mono ?_); rintro e w1 ⟨v1, rfl, ho1, hb1x⟩; have HO1 := Lib.hid ho1; have HB1 := Lib.hid hb1x; clear ho1 hb1x) | (at_builtin; refine wpList_append_own _ rfl _ _ 35 rfl wr.heap.size 3 i3 (.int .i64 0) 1 8 Try.underlying35 hi3 hz30 hz31 hz32 rfl (by decide) _ q.1.length (numsV q.1) rfl (HO1.out.alloc _) ⟨_, 0, none⟩ 1 1 [.int .i64 (n : Int)] rfl rfl (new_cell _ _ _) (fun u hu => by rw [List.mem_singleton] at hu; subst hu; rfl) (by unfold maxLen; omega) (by omega) (by have := HB1.out.size; simp; omega) ?_; intro v3 w3 ho3 hg3 hn3; obtain ⟨hB3, b3, n3, c3, hv3, hs3⟩ := made_more (base := w.heap.size) HB1.out HO1.out ho3 hg3 hwb; subst hv3; have hP3 := HP.out.later hB3; obtain ⟨p03, p13, p23⟩ := triple_is hP3.box; rw [HRE.out] at p23; have HE3 := Lib.hid (HE.out.keep (KeepT.below hB3) (hB3.mono hwb)); have HF3 := Lib.hid ((KeepT.below hB3).boxed HF.out (by decide) (by decide)); have HA3 := Lib.hid (HA.out.later hB3); have HP3 := Lib.hid hP3; have HS3 := Lib.hid hs3; have ad3 := HE3.out.add.cell; have HB3 := Lib.hid hB3; clear hn3 ho3 hg3 hP3 hs3 hB3) | (go_at_call 79; (with_reducible refine (hcut1 _).mono ?_); rintro _ _ ⟨rfl, rfl⟩) | (go_at_call 79; (with_reducible refine (hcut2 _).mono ?_); rintro _ _ ⟨rfl, rfl⟩) | (go_at_call 78; (with_reducible refine (addst_calls bo bs mb w.heap.size pb (qs') b3 n3 c3 b2 n2 c2 (q.1 ++ [n]) q.2.1 (restB r s) _ HA3.out (Nat.lt_of_lt_of_le hpl HB3.out.size) hbo hmb (by omega) (Nat.le_trans (restB_le _ _) hr) HS3.out HP3.out.long).mono ?_); rintro _ w5 ⟨rfl, hA5, hK5, hB5, hq5⟩; have HP5 := Lib.hid (HP3.out.keep hK5 hq5); have HE5 := Lib.hid (HE3.out.keep hK5 hB5); have HF5 := Lib.hid (hK5.boxed HF3.out (by decide) (by decide)); have HA5 := Lib.hid hA5; have HB5 := Lib.hid hB5; clear hA5 hK5 hB5 hq5))
            go_roundw
            case rel =>
              have hQ : oneQ q n s qs' = addQ (qs') (q.1 ++ [n], q.2.1, restB r s) := by
                unfold oneQ oneQ2 oneQ1
                rw [HRE.out, if_pos H2.out, if_neg H1.out]
              exact ⟨n + 1, oneQ q n s qs', by omega, by simp, HFO.out, by rw [hQ]; exact HA5.out, HE5.out, HF5.out, HP5.out, by have := HOL.out; omega, Nat.lt_of_lt_of_le (Nat.lt_of_lt_of_le hpl HB3.out.size) HB5.out.size⟩
            case measure => simp [intOf]; omega
          · have H2 := Lib.hid h2
            rw [Bool.eq_false_iff.2 h2] at hcut2
            clear h2
            go_wp2_with (first | (go_at_call 81; go_must (with_reducible refine hclone.mono ?_); rintro e w1 ⟨v1, rfl, ho1, hb1x⟩; have HO1 := Lib.hid ho1; have HB1 := Lib.hid hb1x; clear ho1 hb1x) | (at_builtin; refine wpList_append_own _ rfl _ _ 35 rfl wr.heap.size 3 i3 (.int .i64 0) 1 8 Try.underlying35 hi3 hz30 hz31 hz32 rfl (by decide) _ q.1.length (numsV q.1) rfl (HO1.out.alloc _) ⟨_, 0, none⟩ 1 1 [.int .i64 (n : Int)] rfl rfl (new_cell _ _ _) (fun u hu => by rw [List.mem_singleton] at hu; subst hu; rfl) (by unfold maxLen; omega) (by omega) (by have := HB1.out.size; simp; omega) ?_; intro v3 w3 ho3 hg3 hn3; obtain ⟨hB3, b3, n3, c3, hv3, hs3⟩ := made_more (base := w.heap.size) HB1.out HO1.out ho3 hg3 hwb; subst hv3; have hP3 := HP.out.later hB3; obtain ⟨p03, p13, p23⟩ := triple_is hP3.box; rw [HRE.out] at p23; have HE3 := Lib.hid (HE.out.keep (KeepT.below hB3) (hB3.mono hwb)); have HF3 := Lib.hid ((KeepT.below hB3).boxed HF.out (by decide) (by decide)); have HA3 := Lib.hid (HA.out.later hB3); have HP3 := Lib.hid hP3; have HS3 := Lib.hid hs3; have ad3 := HE3.out.add.cell; have HB3 := Lib.hid hB3; clear hn3 ho3 hg3 hP3 hs3 hB3) | (go_at_call 79; (with_reducible refine (hcut1 _).mono ?_); rintro _ _ ⟨rfl, rfl⟩) | (go_at_call 79; (with_reducible refine (hcut2 _).mono ?_); rintro _ _ ⟨rfl, rfl⟩))
            go_roundw
            case rel =>
              have hQ : oneQ q n s qs' = (qs') := by
                unfold oneQ oneQ2 oneQ1
                rw [HRE.out, if_neg H2.out, if_neg H1.out]
              exact ⟨n + 1, oneQ q n s qs', by omega, by simp, HFO.out, by rw [hQ]; exact HA3.out, HE3.out, HF3.out, HP3.out, by have := HOL.out; omega, Nat.lt_of_lt_of_le hpl HB3.out.size⟩
            case measure => simp [intOf]; omega
    · obtain rfl : n = C.length := by omega
      have hdn : decide ((C.length : Int) < (C.length : Int)) = false := decide_eq_false (by omega)
      have hfi := HFI.out
      rw [Nat.sub_self] at hfi
      have hnone : (folI C q C.length 0 qs).1 = none := by rw [← hfi]; rfl
      have hqs : (folI C q C.length 0 qs).2 = qs' := by rw [← hfi]; rfl
      have hg := HGO.out hnone wr pb hE hF (by rw [hqs]; exact hA)
      have hfc := hF.cell
      have hcast : ((i + 1 : Nat) : Int) = (i : Int) + 1 := by omega
      rw [hcast] at hg
      unfold folArgs at hg
      unfold folFun at hfc
      clear hE hF hA hP hfi hnone hqs HFI hcast
      go_wp2_with (first | (go_at_call 80; go_must (with_reducible refine hg.mono ?_); rintro _ W9 ⟨rfl, hb9, he9⟩))
      first | go_ret | go_returns | go_end0
      exact ⟨rfl, hb9, he9⟩
theorem folI_rest {C : List ByteArray} {p : PQ} (hsz : ∀ j, (sig C j).size ≤ 1000) (hp : p.2.2.size ≤ 1000) : ∀ (d n : Nat) (qs : List PQ), RestOk qs → RestOk (folI C p d n qs).2
  | 0, _, _, h => h
  | d + 1, n, qs, h => by
    unfold folI
    split
    · exact h
    · refine folI_rest hsz hp d (n + 1) _ ?_
      have h1 : RestOk (oneQ1 p n (sig C n) qs) := by
        unfold oneQ1; split
        · exact h.add (Nat.le_trans (restB_le _ _) (hsz n))
        · exact h
      unfold oneQ oneQ2; split
      · exact h1.add (Nat.le_trans (restB_le _ _) hp)
      · exact h1
/-- The closure that follows the pairs, all the way. -/
theorem follow_calls (w : World) (A0 : Option Addr) (c0 bo bs mb cB aB bB adB fB : Nat) (C : List ByteArray) (hbo : w.heap.size ≤ bo) (hmb : w.heap.size ≤ mb) (hab : w.heap.size ≤ aB) (hbb : w.heap.size ≤ bB) (hne : aB ≠ bB) (hC : C.length ≤ 100)
    (hcode : ∀ W, Below w.heap.size w W → ∀ j, j < C.length → ∃ ad, A0 = some ad ∧ W.cell? (ad.add j) = some (.string (sig C j))) (hsz : ∀ j, (sig C j).size ≤ 1000) (res : Option (List Nat × List Nat)) :
    ∀ (k i : Nat) (qs : List PQ) (W : World) (pb : Nat), Env w W A0 C.length c0 bo bs cB aB bB adB fB → Boxed W fB 89 (folFun bo cB aB bB adB fB) → ASt W bo bs mb w.heap.size pb qs → RestOk qs → followF C k i qs = some res →
      Calls Try.prog 80 (folArgs (i : Nat) bo cB aB bB adB fB) W (FolPost w w.heap.size aB bB res) := by
  intro k
  induction k with
  | zero => intro i qs W pb _ _ _ _ h; cases h
  | succ k ih =>
    intro i qs W pb hE hF hS hR h
    unfold followF at h
    by_cases h0 : i = qs.length
    · rw [if_pos h0] at h
      obtain rfl := Option.some.inj h
      subst h0
      exact fol_end w W A0 C.length c0 bo bs mb pb cB aB bB adB fB qs hE hS
    · rw [if_neg h0] at h
      split at h
      · rename_i hc
        obtain ⟨h1, h2, h3, -⟩ := hc
        have hrq : (qAt qs i).2.2.size ≤ 1000 := by
          unfold qAt
          rw [List.getD_eq_getElem?_getD, List.getElem?_eq_getElem h1]
          exact hR _ (List.getElem_mem _)
        refine fol_step w W A0 c0 bo bs mb pb cB aB bB adB fB C i qs res hE hF hS hbo hmb hab hbb hne h1 h2 h3 hC hcode hsz hrq (fun n hn => ?_) (fun hn W' pb' hE' hF' hS' => ?_)
        · rw [hn] at h
          exact (Option.some.inj h).symm
        · rw [hn] at h
          exact ih (i + 1) _ W' pb' hE' hF' hS' (folI_rest hsz hrq C.length 0 qs hR) h
      · cases h
end Go.Proofs.Ytpkafcoflgbnaaa.Q
/- Alike, part 4. For all codes. -/
namespace Go.Proofs.Ytpkafcoflgbnaaa.Q
open Go.RowKit Go.Proofs.YtpkafcoflgbnaaaW.PrintWords Go.Proofs.YtpkafcoflgbnaaaW.PrintLast Go.Proofs.YtpkafcoflgbnaaaW.PrintMore Go.Shelf Go.Maps
set_option linter.unusedVariables false
set_option linter.unusedSimpArgs false
/-! Alike: the walk. -/
theorem alike_bad (A0 : Option Addr) (n c0 : Nat) (e0 : Int) (w : World) (hne : e0 ≠ 0)
    (hv : AtLater w (RetI 32 #[.slice A0 n c0] e0)) :
    Calls Try.prog 38 #[.slice A0 n c0] w fun e w' => e = .returned (.tuple #[.slice none 0 0, .slice none 0 0, .bool false, .int .i64 e0]) ∧ Below w.heap.size w w' := by
  have h1 : (e0 == 0) = false := by simpa using hne
  have h2 : (e0 != 0) = true := by simpa using hne
  clear hne
  have hb0 : Below w.heap.size w (((w.alloc (.cells #[.slice A0 n c0] 22)).alloc (.cells #[.slice none 0 0] 35)).alloc (.cells #[.slice none 0 0] 35)) := (((Below.refl _ _).alloc (Nat.le_refl _) _).alloc (by simp) _).alloc (by simp; omega) _
  have hv1 := hv _ hb0
  have hc : (((w.alloc (.cells #[.slice A0 n c0] 22)).alloc (.cells #[.slice none 0 0] 35)).alloc (.cells #[.slice none 0 0] 35)).cell? ⟨w.heap.size, 0, none⟩ = some (.slice A0 n c0) := (((Boxed.new w 22 _).alloc _).alloc _).cell
  have ha := ((Boxed.new (w.alloc (.cells #[.slice A0 n c0] 22)) 35 (.slice none 0 0)).alloc (.cells #[.slice none 0 0] 35))
  have hb := (Boxed.new ((w.alloc (.cells #[.slice A0 n c0] 22)).alloc (.cells #[.slice none 0 0] 35)) 35 (.slice none 0 0))
  simp only [World.size_alloc] at ha hb
  have HA := Lib.hid ha
  have HB := Lib.hid hb
  have HB0 := Lib.hid hb0
  clear hv ha hb hb0
  unfold RetI at hv1
  go_enter Try.func38, Try.ntmps38
  go_wp2_with (first | (go_at_call 32; go_must (with_reducible refine hv1.mono ?_); rintro e w1 ⟨rfl, hb1⟩; have ha1 := (KeepT.below hb1).boxed HA.out (by decide) (by decide); have hbb1 := (KeepT.below hb1).boxed HB.out (by decide) (by decide); have c1 := ha1.cell; have c2 := ha1.frozen; have c3 := hbb1.cell; have c4 := hbb1.frozen))
  refine bodyPost_ret (by simp [results, Try.results38, go_sem, *]; try rfl) rfl ?_
  exact ⟨rfl, ((HB0.out.trans (hb1.mono HB0.out.size)).setCell (p := ⟨w.heap.size + 1, 0, none⟩) (by simp) _).setCell (p := ⟨w.heap.size + 1 + 1, 0, none⟩) (by simp; omega) _⟩
/-- Two lists of one number each, just made. -/
theorem sigs_new (W : World) (base i k : Nat) (hb : base ≤ W.heap.size) :
    SigAt ((W.alloc (.cells #[.int .i64 (i : Int)] 3)).alloc (.cells #[.int .i64 (k : Int)] 3)) base (.slice (some ⟨W.heap.size, 0, none⟩) 1 1) [i] ∧ SigAt ((W.alloc (.cells #[.int .i64 (i : Int)] 3)).alloc (.cells #[.int .i64 (k : Int)] 3)) base (.slice (some ⟨W.heap.size + 1, 0, none⟩) 1 1) [k] := by
  refine ⟨sig_new W base i hb _, ?_⟩
  have h3 := heap_alloc_new (W.alloc (.cells #[.int .i64 (i : Int)] 3)) (.cells #[.int .i64 (k : Int)] 3)
  rw [World.size_alloc] at h3
  refine ⟨W.heap.size + 1, 1, _, rfl, by omega, h3, fun j u hu => ?_, Nat.le_refl _, by unfold maxLen; omega, rfl, rfl⟩
  rw [cell_of_row _ _ j _ _ _ h3]
  simpa [numsV] using hu
def addFun (m : Nat) : Value := .func (.func 78) #[] #[.pointer (some ⟨m + 1 + 1, 0, none⟩), .pointer (some ⟨m, 0, none⟩)]
def startW (w1 : World) : World := (((w1.alloc (.cells #[.slice none 0 0] 82)).alloc (.map #[] 0)).alloc (.cells #[.map (some (w1.heap.size + 1))] 83)).alloc (.cells #[.func (.func 78) #[] #[.pointer (some ⟨w1.heap.size + 1 + 1, 0, none⟩), .pointer (some ⟨w1.heap.size, 0, none⟩)]] 86)
theorem startW_below (w1 : World) : Below w1.heap.size w1 (startW w1) := ((((Below.refl _ _).alloc (Nat.le_refl _) _).alloc (by simp <;> omega) _).alloc (by simp <;> omega) _).alloc (by simp <;> omega) _
theorem start_st (w1 : World) (base pb : Nat) : ASt (startW w1) w1.heap.size (w1.heap.size + 1 + 1) (w1.heap.size + 1) base pb [] ∧ Boxed (startW w1) (w1.heap.size + 1 + 1 + 1) 86 (addFun w1.heap.size) := by
  have h1 : Boxed (startW w1) w1.heap.size 82 (.slice none 0 0) := (((Boxed.new w1 82 (.slice none 0 0)).alloc _).alloc _).alloc _
  have h2 := SeenAt.new (w1.alloc (.cells #[.slice none 0 0] 82))
  rw [World.size_alloc] at h2
  have h3 := Boxed.new ((w1.alloc (.cells #[.slice none 0 0] 82)).alloc (.map #[] 0)) 83 (.map (some (w1.heap.size + 1)))
  rw [World.size_alloc, World.size_alloc] at h3
  have h4 := Boxed.new (((w1.alloc (.cells #[.slice none 0 0] 82)).alloc (.map #[] 0)).alloc (.cells #[.map (some (w1.heap.size + 1))] 83)) 86 (.func (.func 78) #[] #[.pointer (some ⟨w1.heap.size + 1 + 1, 0, none⟩), .pointer (some ⟨w1.heap.size, 0, none⟩)])
  rw [World.size_alloc, World.size_alloc, World.size_alloc] at h4
  refine ⟨⟨[], ⟨h3.alloc _, ?_, .slice none 0 0, h1, World.ownsRow_nil _ _ _ _, by simp [Value.ownBlock]⟩, rfl, fun i hi => by simp at hi⟩, h4⟩
  refine h2.keep ?_
  have a1 := Below.heap_alloc ((w1.alloc (.cells #[.slice none 0 0] 82)).alloc (.map #[] 0)) (.cells #[.map (some (w1.heap.size + 1))] 83) (w1.heap.size + 1) (by simp)
  have a2 := Below.heap_alloc (((w1.alloc (.cells #[.slice none 0 0] 82)).alloc (.map #[] 0)).alloc (.cells #[.map (some (w1.heap.size + 1))] 83)) (.cells #[.func (.func 78) #[] #[.pointer (some ⟨w1.heap.size + 1 + 1, 0, none⟩), .pointer (some ⟨w1.heap.size, 0, none⟩)]] 86) (w1.heap.size + 1) (by simp)
  exact a2.trans a1
theorem startI_rest {C : List ByteArray} (hsz : ∀ j, (sig C j).size ≤ 1000) (i : Nat) : ∀ (n : Nat) (qs : List PQ), RestOk qs → RestOk (startI C i n qs)
  | 0, _, h => h
  | n + 1, qs, h => by
    have h1 := startI_rest hsz i n qs h
    unfold startI
    split
    · exact h1.add (Nat.le_trans (restB_le _ _) (hsz n))
    · exact h1
theorem startO_rest {C : List ByteArray} (hsz : ∀ j, (sig C j).size ≤ 1000) : ∀ i, RestOk (startO C i)
  | 0 => fun q hq => by cases hq
  | i + 1 => startI_rest hsz i C.length _ (startO_rest hsz i)
/-- What Alike hands back. -/
def AlikePost (w : World) (res : Option (List Nat × List Nat)) (e : Ending) (w' : World) : Prop :=
  ∃ va vb, e = .returned (.tuple #[va, vb, .bool res.isSome, .int .i64 0]) ∧ Below w.heap.size w w' ∧ (match res with
    | none => va = .slice none 0 0 ∧ vb = .slice none 0 0
    | some r => w'.ownsRow w.heap.size 3 1 va r.1.length (numsV r.1) ∧ w'.ownsRow w.heap.size 3 1 vb r.2.length (numsV r.2) ∧ va.ownBlock ≠ vb.ownBlock)
theorem alike_end {w w9 w10 : World} {aB bB b1 n1 c1 g gm gc : Nat} {u1 u2 : Value} {r : List Nat × List Nat} (hab : w.heap.size ≤ aB) (hbb : w.heap.size ≤ bB) (hne : aB ≠ bB) (hb9 : Below w.heap.size w w9) (hs1 : SigAt w9 w.heap.size (.slice (some ⟨b1, 0, none⟩) n1 c1) r.1) (hb10 : Below w9.heap.size w9 w10)
    (ho : w10.ownsRow w9.heap.size 3 1 (.slice (some ⟨g, 0, none⟩) gm gc) r.2.length (numsV r.2)) (x1 : Boxed w10 aB 35 u1) (x2 : Boxed w10 bB 35 u2) :
    AlikePost w (some r) (.returned (.tuple #[.slice (some ⟨b1, 0, none⟩) n1 c1, .slice (some ⟨g, 0, none⟩) gm gc, .bool true, .int .i64 0])) ((w10.setCell ⟨aB, 0, none⟩ (.slice (some ⟨b1, 0, none⟩) n1 c1)).setCell ⟨bB, 0, none⟩ (.slice (some ⟨g, 0, none⟩) gm gc)) := by
  have x2' := x2.other (fun e => hne e.symm) (.slice (some ⟨b1, 0, none⟩) n1 c1)
  have ho1 := ho.kept (grownBy_setCell' w10 aB (.slice (some ⟨b1, 0, none⟩) n1 c1)) (.inr (x1.not_row (by decide) ho).symm)
  have ho2 := ho1.kept (grownBy_setCell' _ bB (.slice (some ⟨g, 0, none⟩) gm gc)) (.inr (x2'.not_row (by decide) ho1).symm)
  have hs9 := hb9.size
  have hlt : b1 < w9.heap.size := by
    obtain ⟨b, c, cur, e, -, hh, -⟩ := hs1
    cases e
    exact (Array.getElem?_eq_some_iff.1 hh).1
  have hg := (ho.lt g rfl).1
  refine ⟨_, _, rfl, ((hb9.trans (hb10.mono hs9)).setCell (p := ⟨aB, 0, none⟩) hab _).setCell (p := ⟨bB, 0, none⟩) hbb _, (((hs1.below hb10).setBox x1 (by decide)).setBox x2' (by decide)).owns, owns_base2 ho2 hs9, ?_⟩
  intro e
  have e : b1 = g := Option.some.inj e
  omega
set_option maxHeartbeats 8000000 in
set_option maxRecDepth 100000 in
theorem alk_ok (k : Nat) (A0 : Option Addr) (c0 : Nat) (C : List ByteArray) (res : Option (List Nat × List Nat)) (w : World) (hr0 : Kd.C Kd.string w A0 C.length C) (hv : AtLater w (RetI 32 #[.slice A0 C.length c0] 0)) (hC : C.length ≤ 60) (hsz : ∀ j, (sig C j).size ≤ 1000)
    (hf : followF C k 0 (startO C C.length) = some res) : Calls Try.prog 38 #[.slice A0 C.length c0] w (AlikePost w res) := by
  have hb0 : Below w.heap.size w (((w.alloc (.cells #[.slice A0 C.length c0] 22)).alloc (.cells #[.slice none 0 0] 35)).alloc (.cells #[.slice none 0 0] 35)) := (((Below.refl _ _).alloc (Nat.le_refl _) _).alloc (by simp) _).alloc (by simp; omega) _
  have hv1 := hv _ hb0
  have hcode := fun W hB j hj => @code_at w W A0 C hr0 hB j hj
  have hmm := @run_makeMap Try.prog
  have hcb : Boxed (((w.alloc (.cells #[.slice A0 C.length c0] 22)).alloc (.cells #[.slice none 0 0] 35)).alloc (.cells #[.slice none 0 0] 35)) w.heap.size 22 (.slice A0 C.length c0) := ((Boxed.new w 22 _).alloc _).alloc _
  have hc := hcb.cell
  have ha := ((Boxed.new (w.alloc (.cells #[.slice A0 C.length c0] 22)) 35 (.slice none 0 0)).alloc (.cells #[.slice none 0 0] 35))
  have hb := (Boxed.new ((w.alloc (.cells #[.slice A0 C.length c0] 22)).alloc (.cells #[.slice none 0 0] 35)) 35 (.slice none 0 0))
  simp only [World.size_alloc] at ha hb
  have HCB := Lib.hid hcb
  have HA := Lib.hid ha
  have HB := Lib.hid hb
  have HB0 := Lib.hid hb0
  have HCO := Lib.hid hcode
  have HF := Lib.hid hf
  have HSZ := Lib.hid hsz
  clear hv ha hb hb0 hcb hcode hr0 hf hsz
  unfold RetI at hv1
  go_enter Try.func38, Try.ntmps38
  go_wp2_with (first | (go_at_call 32; go_must (with_reducible refine hv1.mono ?_); rintro e w1 ⟨rfl, hb1⟩; have hcb1 := (KeepT.below hb1).boxed HCB.out (by decide) (by decide); have HA1 := Lib.hid ((KeepT.below hb1).boxed HA.out (by decide) (by decide)); have HBB1 := Lib.hid ((KeepT.below hb1).boxed HB.out (by decide) (by decide)); have hcc1 := hcb1.cell; have hcc4 := ((((hcb1.alloc (.cells #[.slice none 0 0] 82)).alloc (.map #[] 0)).alloc (.cells #[.map (some (w1.heap.size + 1))] 83)).alloc (.cells #[.func (.func 78) #[] #[.pointer (some ⟨w1.heap.size + 1 + 1, 0, none⟩), .pointer (some ⟨w1.heap.size, 0, none⟩)]] 86)).cell; have hB1 := HB0.out.trans (hb1.mono HB0.out.size)))
  have hst := start_st w1 w.heap.size w.heap.size
  have hsb := startW_below w1
  have hE0 : Env w (startW w1) A0 C.length c0 w1.heap.size (w1.heap.size + 1 + 1) w.heap.size (w.heap.size + 1) (w.heap.size + 1 + 1) (w1.heap.size + 1 + 1 + 1) 0 := ⟨hB1.trans (hsb.mono hB1.size), (KeepT.below hsb).boxed hcb1 (by decide) (by decide), (KeepT.below hsb).boxed HA1.out (by decide) (by decide), (KeepT.below hsb).boxed HBB1.out (by decide) (by decide), hst.2⟩
  have hmw : w.heap.size + 1 + 1 < w1.heap.size := HBB1.out.lt
  have hlt0 : w1.heap.size + 1 + 1 + 1 < (startW w1).heap.size := by unfold startW; simp
  have hs0 := hst.1
  clear hst hsb hcc4 hcc1 hcb1 hc hb1 hB1 hv1
  change Code.wp _ _ _ _ (startW w1)
  generalize startW w1 = W4 at *
  obtain ⟨m, hm⟩ : ∃ m, w1.heap.size = m := ⟨_, rfl⟩
  simp only [hm]
  rw [hm] at hE0 hmw hs0 hlt0
  have hbase : w.heap.size ≤ m := by omega
  go_loopw [26] (fun p wr => ∃ i : Nat, i ≤ C.length ∧ p = .int .i64 (i : Int) ∧ ASt wr m (m + 1 + 1) (m + 1) w.heap.size w.heap.size (startO C i) ∧ Env w wr A0 C.length c0 m (m + 1 + 1) w.heap.size (w.heap.size + 1) (w.heap.size + 1 + 1) (m + 1 + 1 + 1) 0 ∧ m + 1 + 1 + 1 < wr.heap.size) (fun p _ => C.length - (intOf p).toNat)
  case atStart => exact ⟨0, Nat.zero_le _, rfl, hs0, hE0, hlt0⟩
  case round =>
    clear hs0 hE0 hlt0
    obtain ⟨i, hi, rfl, hA, hE, hlt⟩ := hrel
    by_cases hil : i < C.length
    · have hdi : decide ((i : Int) < (C.length : Int)) = true := decide_eq_true (by omega)
      have hdi0 : decide (0 ≤ (i : Int)) = true := decide_eq_true (by omega)
      obtain ⟨ad, hAd, hci⟩ := HCO.out wr hE.below i hil
      subst hAd
      have hcc := hE.code.cell
      obtain ⟨si, hsi⟩ : ∃ s, sig C i = s := ⟨_, rfl⟩
      rw [show C.getD i ByteArray.empty = sig C i from rfl, hsi] at hci
      have HSI := Lib.hid hsi
      have HA2 := Lib.hid hA
      have HE2 := Lib.hid hE
      clear hsi hA hE
      go_wp2
      obtain ⟨wo, rfl⟩ : ∃ wo : World, wo = wr := ⟨_, rfl⟩
      go_loopw [33] (fun p wr => ∃ n : Nat, n ≤ C.length ∧ p = .int .i64 (n : Int) ∧ ASt wr m (m + 1 + 1) (m + 1) w.heap.size w.heap.size (startI C i n (startO C i)) ∧ Env w wr (some ad) C.length c0 m (m + 1 + 1) w.heap.size (w.heap.size + 1) (w.heap.size + 1 + 1) (m + 1 + 1 + 1) 0 ∧ m + 1 + 1 + 1 < wr.heap.size) (fun p _ => C.length - (intOf p).toNat)
      case atStart => exact ⟨0, Nat.zero_le _, rfl, HA2.out, HE2.out, hlt⟩
      case round =>
        clear hci hcc hlt
        obtain ⟨n, hn, rfl, hA, hE, hlt⟩ := hrel
        by_cases hnl : n < C.length
        · have hdn : decide ((n : Int) < (C.length : Int)) = true := decide_eq_true (by omega)
          have hdn0 : decide (0 ≤ (n : Int)) = true := decide_eq_true (by omega)
          obtain ⟨ad2, hAd2, hcn⟩ := HCO.out wr hE.below n hnl
          cases hAd2
          obtain ⟨sn, hsn⟩ : ∃ s, sig C n = s := ⟨_, rfl⟩
          rw [show C.getD n ByteArray.empty = sig C n from rfl, hsn] at hcn
          have hssn : sn.size ≤ 1000 := by rw [← hsn]; exact HSZ.out n
          have HSN := Lib.hid hsn
          have hcut := fun W => cut_calls sn si W
          have hqs : (startI C i n (startO C i)).length ≤ 10000 := by
            have x1 := startI_le C i n (startO C i)
            have x2 := startO_le C i
            have x3 : i * C.length ≤ 60 * 60 := Nat.mul_le_mul (by omega) hC
            omega
          have HA3 := Lib.hid hA
          have HE3 := Lib.hid hE
          have hadc := hE.add.cell
          clear hA hE hsn
          by_cases h1 : headB sn si = true
          · by_cases h2 : i = n
            · subst h2
              have H1 := Lib.hid h1
              rw [h1] at hcut
              have hnn : ((i : Int) != (i : Int)) = false := by simp
              clear h1
              go_wp2_with (first | (go_at_call 79; (with_reducible refine (hcut _).mono ?_); rintro _ _ ⟨rfl, rfl⟩))
              go_roundw
              case rel =>
                refine ⟨i + 1, by omega, by simp, ?_, HE3.out, hlt⟩
                unfold startI
                rw [if_neg (by simp)]
                exact HA3.out
              case measure => simp [intOf]; omega
            · have H1 := Lib.hid h1
              rw [h1] at hcut
              have hnn : ((i : Int) != (n : Int)) = true := by simp; omega
              have hdd : decide ((i : Int) = (n : Int)) = false := decide_eq_false (by omega)
              have hwl := HE3.out.below.size
              have hW2 : Below wr.heap.size wr ((wr.alloc (.cells #[.int .i64 (i : Int)] 3)).alloc (.cells #[.int .i64 (n : Int)] 3)) := ((Below.refl _ _).alloc (Nat.le_refl _) _).alloc (by simp) _
              obtain ⟨g1, g2⟩ := sigs_new wr w.heap.size i n hwl
              have hadd := addst_calls m (m + 1 + 1) (m + 1) w.heap.size w.heap.size (startI C i n (startO C i)) wr.heap.size 1 1 (wr.heap.size + 1) 1 1 [i] [n] (restB sn si) _ (HA3.out.later hW2) (by simp; omega) hbase (by omega) hqs (Nat.le_trans (restB_le _ _) hssn) g1 g2
              have hE4 := HE3.out.keep (KeepT.below hW2) (hW2.mono hwl)
              have hadc2 := hE4.add.cell
              have HE4 := Lib.hid hE4
              have HG := Lib.hid (And.intro g1 g2)
              have hsz4 := hW2.size
              clear h1 hE4 g1 g2 hW2
              go_wp2_with (first | (go_at_call 79; (with_reducible refine (hcut _).mono ?_); rintro _ _ ⟨rfl, rfl⟩) | (go_at_call 78; go_must (with_reducible refine hadd.mono ?_); rintro _ w5 ⟨rfl, hA5, hK5, hB5, hq5⟩))
              go_roundw
              case rel =>
                refine ⟨n + 1, by omega, by simp, ?_, HE4.out.keep hK5 hB5, by have := hB5.size; simp at this; omega⟩
                unfold startI
                rw [if_pos (by rw [HSN.out, HSI.out, H1.out]; simpa using h2), HSN.out, HSI.out]
                exact hA5
              case measure => simp [intOf]; omega
          · have H1 := Lib.hid (Bool.eq_false_iff.2 h1)
            rw [Bool.eq_false_iff.2 h1] at hcut
            clear h1
            go_wp2_with (first | (go_at_call 79; (with_reducible refine (hcut _).mono ?_); rintro _ _ ⟨rfl, rfl⟩))
            go_roundw
            case rel =>
              refine ⟨n + 1, by omega, by simp, ?_, HE3.out, hlt⟩
              unfold startI
              rw [if_neg (by rw [HSN.out, HSI.out, H1.out]; simp)]
              exact HA3.out
            case measure => simp [intOf]; omega
        · obtain rfl : n = C.length := by omega
          have hdn : decide ((C.length : Int) < (C.length : Int)) = false := decide_eq_false (by omega)
          have HA3 := Lib.hid hA
          have HE3 := Lib.hid hE
          clear hA hE
          go_wp2
          go_roundw
          case rel => exact ⟨i + 1, by omega, by simp, HA3.out, HE3.out, hlt⟩
          case measure => simp [intOf]; omega
    · obtain rfl : i = C.length := by omega
      have hdi : decide ((C.length : Int) < (C.length : Int)) = false := decide_eq_false (by omega)
      have HA3 := Lib.hid hA
      have HE3 := Lib.hid hE
      clear hA hE
      have hW8 : Below wr.heap.size wr (wr.alloc (.cells #[folFun m w.heap.size (w.heap.size + 1) (w.heap.size + 1 + 1) (m + 1 + 1 + 1) wr.heap.size] 89)) := (Below.refl _ _).alloc (Nat.le_refl _) _
      have hwl := HE3.out.below.size
      have hE8 := HE3.out.keep (KeepT.below hW8) (hW8.mono hwl)
      have hfol := follow_calls w A0 c0 m (m + 1 + 1) (m + 1) w.heap.size (w.heap.size + 1) (w.heap.size + 1 + 1) (m + 1 + 1 + 1) wr.heap.size C hbase (by omega) (by omega) (by omega) (by omega) (by omega) HCO.out HSZ.out res k 0 (startO C C.length) _ w.heap.size ⟨hE8.below, hE8.code, hE8.ab, hE8.bb, hE8.add⟩ (Boxed.new wr 89 _) (HA3.out.later hW8) (startO_rest HSZ.out _) HF.out
      have hz : ((0 : Nat) : Int) = 0 := rfl
      rw [hz] at hfol
      unfold folArgs folFun at hfol
      clear hW8 hE8 hz
      cases res with
      | none =>
        go_wp2_with (first | (go_at_call 80; go_must (with_reducible refine hfol.mono ?_); rintro _ w9 ⟨rfl, hb9, he1, he2⟩; have c1 := he1.cell; have c2 := he1.frozen; have c3 := he2.cell; have c4 := he2.frozen))
        have HE1 := Lib.hid he1
        have HE2 := Lib.hid he2
        have HB9 := Lib.hid hb9
        clear he1 he2 hb9 hfol
        go_region_with (first | (go_at_call 81; (with_reducible refine (Try.slices_Clone_int_nil 0 0 _).mono ?_); rintro _ _ ⟨rfl, rfl⟩))
        all_goals go_wp2
        all_goals (refine bodyPost_ret (by simp [results, Try.results38, go_sem, *]; try rfl) rfl ?_)
        all_goals exact ⟨_, _, rfl, ((HB9.out.setCell (p := ⟨w.heap.size + 1, 0, none⟩) (by simp) _).setCell (p := ⟨w.heap.size + 1 + 1, 0, none⟩) (by simp; omega) _).drew, rfl, rfl⟩
      | some r =>
        have hlen := (followF_len C k 0 _ r HF.out).2
        go_wp2_with (first | (go_at_call 80; go_must (with_reducible refine hfol.mono ?_); rintro _ w9 ⟨rfl, hb9, b1, n1, c1, b2, n2, c2, he1, he2, s1, s2⟩; have d1 := he1.cell; have d2 := he1.frozen; have d3 := he2.cell; have d4 := he2.frozen))
        have HE1 := Lib.hid he1
        have HE2 := Lib.hid he2
        have HB9 := Lib.hid hb9
        have HS1 := Lib.hid s1
        have hcl9 := clone_calls2 w9.drew w.heap.size r.2 b2 n2 c2 (show SigAt w9.drew w.heap.size (.slice (some ⟨b2, 0, none⟩) n2 c2) r.2 from s2) (by omega)
        have HS2 := Lib.hid s2
        clear he1 he2 hb9 hfol s1 s2
        go_region_with (first | (go_at_call 81; (with_reducible refine hcl9.mono ?_); rintro _ w10 ⟨g, gm, gc, rfl, ho10, hb10⟩; have x1 := (KeepT.below (show Below w9.heap.size w9 w10 from ⟨hb10.os, hb10.tape, hb10.output, hb10.size, hb10.block⟩)).boxed HE1.out (by decide) (by decide); have x2 := (KeepT.below (show Below w9.heap.size w9 w10 from ⟨hb10.os, hb10.tape, hb10.output, hb10.size, hb10.block⟩)).boxed HE2.out (by decide) (by decide); have f1 := x1.cell; have f2 := x1.frozen; have f3 := x2.cell; have f4 := x2.frozen; have X1 := Lib.hid x1; have X2 := Lib.hid x2; have HO := Lib.hid ho10; have HB10 := Lib.hid (show Below w9.heap.size w9 w10 from ⟨hb10.os, hb10.tape, hb10.output, hb10.size, hb10.block⟩); clear ho10 hb10 x1 x2))
        all_goals go_wp2
        all_goals (refine bodyPost_ret (by simp [results, Try.results38, go_sem, *]; try rfl) rfl ?_)
        all_goals exact alike_end (by omega) (by omega) (by omega) HB9.out HS1.out HB10.out HO.out X1.out X2.out
end Go.Proofs.Ytpkafcoflgbnaaa.Q
