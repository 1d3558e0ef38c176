import Derived.Test.YtlbhighbhchdmaaQx0
import Derived.Test.YtlbhighbhchdmaaQx8
import Derived.Test.YtlbhighbhchdmaaQx16
import Derived.Test.YtlbhighbhchdmaaQx17
import Derived.Test.YtlbhighbhchdmaaQx18
import Derived.Test.YtlbhighbhchdmaaLibF
namespace Go.Proofs.Ytlbhighbhchdmaa.Pure
open Go.RowKit Go.Proofs.Ytlbhighbhchdmaa.Q Go.Proofs.YtlbhighbhchdmaaW.PrintWords Go.Proofs.YtlbhighbhchdmaaW.PrintLast

/-! Blocks. -/
def g79 (x : S79) : Prop := x.f0.size ≤ 140737488351232 ∧ (Lit.int .i64 x.f1).wf = true ∧ (Lit.int .i64 x.f2).wf = true
def el (l : List S79) (i : Nat) : S79 := rd_T79 l (i : Int)
theorem el_take (l : List S79) (n j : Nat) (h : j < n) : el (l.take n) j = el l j := by
  unfold el rd_T79
  rw [Int.toNat_natCast, List.getD_eq_getElem?_getD, List.getD_eq_getElem?_getD, List.getElem?_take, if_pos h]
theorem el_good {l : List S79} (h : ∀ y ∈ l, g79 y) (i : Nat) (hi : i < l.length) : g79 (el l i) := by
  unfold el rd_T79
  rw [Int.toNat_natCast, List.getD_eq_getElem?_getD, List.getElem?_eq_getElem hi]
  exact h _ (List.getElem_mem hi)
/-- What is wrong with a block. -/
def badB (x : S79) : Int := if serP x.f0 = true then (if x.f1 < 0 then 1 else if x.f2 < x.f1 then 1 else if x.f2 > 99999 then 1 else 0) else 2
theorem badB_ok {x : S79} (h : badB x = 0) : 0 ≤ x.f1 ∧ x.f1 ≤ x.f2 ∧ x.f2 ≤ 99999 ∧ serP x.f0 = true := by
  unfold badB at h
  by_cases h1 : serP x.f0 = true
  · rw [if_pos h1] at h
    by_cases h2 : x.f1 < 0
    · rw [if_pos h2] at h; exact absurd h (by decide)
    · rw [if_neg h2] at h
      by_cases h3 : x.f2 < x.f1
      · rw [if_pos h3] at h; exact absurd h (by decide)
      · rw [if_neg h3] at h
        by_cases h4 : x.f2 > 99999
        · rw [if_pos h4] at h; exact absurd h (by decide)
        · exact ⟨by omega, by omega, by omega, h1⟩
  · rw [if_neg h1] at h; exact absurd h (by decide)
def meetB (a b : S79) : Bool := a.f0.toList == b.f0.toList && (decide (a.f1 ≤ b.f2) && decide (b.f1 ≤ a.f2))
def firstB (l : List S79) : Nat → Nat → Int
  | _, 0 => 0
  | i, d + 1 => if badB (el l i) = 0 then firstB l (i + 1) d else badB (el l i)
theorem firstB_ok {l : List S79} {d : Nat} : ∀ {i : Nat}, firstB l i d = 0 → ∀ j, i ≤ j → j < i + d → badB (el l j) = 0 := by
  induction d with
  | zero => intro i _ j h1 h2; omega
  | succ d ih =>
    intro i h j h1 h2
    unfold firstB at h
    by_cases hb : badB (el l i) = 0
    · rw [if_pos hb] at h
      by_cases e : j = i
      · rw [e]; exact hb
      · exact ih h j (by omega) (by omega)
    · rw [if_neg hb] at h; exact absurd h hb
def innerB (l : List S79) (i : Nat) : Nat → Nat → Bool
  | _, 0 => false
  | j, d + 1 => meetB (el l i) (el l j) || innerB l i (j + 1) d
def outerB (l : List S79) : Nat → Nat → Bool
  | _, 0 => false
  | i, d + 1 => innerB l i 0 i || outerB l (i + 1) d
def blocksP (l : List S79) : Int := if (l.length : Int) > 8 then 3 else if firstB l 0 l.length = 0 then (if outerB l 0 l.length = true then 5 else 0) else firstB l 0 l.length
theorem blocksP_ok {l : List S79} (h : blocksP l = 0) : l.length ≤ 8 ∧ (∀ j, j < l.length → badB (el l j) = 0) ∧ outerB l 0 l.length = false := by
  unfold blocksP at h
  by_cases h1 : (l.length : Int) > 8
  · rw [if_pos h1] at h; exact absurd h (by decide)
  · rw [if_neg h1] at h
    by_cases h2 : firstB l 0 l.length = 0
    · rw [if_pos h2] at h
      refine ⟨by omega, fun j hj => firstB_ok h2 j (by omega) (by omega), ?_⟩
      cases hq : outerB l 0 l.length with
      | false => rfl
      | true => rw [if_pos hq] at h; exact absurd h (by decide)
    · rw [if_neg h2] at h; exact absurd h h2
def tellB (b : Bool) : Int := if b = true then 5 else 0
theorem vb_l2 (l : List S79) (hl : l.length ≤ 8) (i : Nat) (hi : i < l.length) (r : Bool) (hn : Ev (fun k => ring_ValidateBlocks.l1 k l l (l.length : Int) ((i + 1 : Nat) : Int)) (tellB r)) (d : Nat) : ∀ j, j + d = i →
    Ev (fun k => ring_ValidateBlocks.l2 k l l (l.length : Int) (i : Int) (l.take i) ((l.take i).length : Int) (j : Int) (el l i).f0 (el l i).f1 (el l i).f2) (tellB (innerB l i j d || r)) := by
  have ht : (l.take i).length = i := by rw [List.length_take]; omega
  induction d with
  | zero =>
    intro j hj
    refine Ev.step (fun k => by rw [ring_ValidateBlocks.l2]) (Ev.ifn (by omega) ?_)
    rw [w64 (by omega) (by omega)]
    exact hn
  | succ d ih =>
    intro j hj
    refine Ev.step (fun k => by rw [ring_ValidateBlocks.l2]) (Ev.ifp (by omega) (Ev.ifp (by omega) (Ev.ifp (by omega) ?_)))
    have e : rd_T79 (l.take i) (j : Int) = el l j := el_take l i j (by omega)
    have e1 : wrap64 ((j : Int) + 1) = ((j + 1 : Nat) : Int) := by rw [w64 (by omega) (by omega)]; omega
    rw [e, e1]
    have hr := ih (j + 1) (by omega)
    unfold innerB meetB
    by_cases h1 : (el l i).f0.toList = (el l j).f0.toList
    · refine Ev.ifp h1 ?_
      by_cases h2 : (el l i).f1 ≤ (el l j).f2
      · refine Ev.ifp h2 ?_
        by_cases h3 : (el l j).f1 ≤ (el l i).f2
        · refine Ev.ifp h3 (Ev.val ?_)
          rw [show ((el l i).f0.toList == (el l j).f0.toList) = true from beq_iff_eq.mpr h1, decide_eq_true h2, decide_eq_true h3]
          rfl
        · refine Ev.ifn h3 ?_
          rw [decide_eq_false h3, Bool.and_false, Bool.and_false, Bool.false_or]
          exact hr
      · refine Ev.ifn h2 ?_
        rw [decide_eq_false h2, Bool.false_and, Bool.and_false, Bool.false_or]
        exact hr
    · refine Ev.ifn h1 ?_
      rw [show ((el l i).f0.toList == (el l j).f0.toList) = false from beq_eq_false_iff_ne.mpr h1, Bool.false_and, Bool.false_or]
      exact hr
theorem vb_l1 (l : List S79) (hl : l.length ≤ 8) (d : Nat) : ∀ i, i + d = l.length → Ev (fun k => ring_ValidateBlocks.l1 k l l (l.length : Int) (i : Int)) (tellB (outerB l i d)) := by
  induction d with
  | zero =>
    intro i hi
    refine Ev.step (fun k => by rw [ring_ValidateBlocks.l1]) ?_
    exact Ev.ifn (by omega) (Ev.now _)
  | succ d ih =>
    intro i hi
    refine Ev.step (fun k => by rw [ring_ValidateBlocks.l1]) (Ev.ifp (by omega) (Ev.ifp (by omega) (Ev.ifp (by omega) (Ev.ifp (by omega) (Ev.some_bind ?_)))))
    rw [Int.toNat_natCast]
    exact vb_l2 l hl i (by omega) _ (ih (i + 1) (by omega)) i 0 (by omega)
theorem vb_l0 (l : List S79) (hl : l.length ≤ 8) (hg : ∀ y ∈ l, g79 y) (d : Nat) : ∀ i, i + d = l.length → Ev (fun k => ring_ValidateBlocks.l0 k l l (l.length : Int) (i : Int)) (if firstB l i d = 0 then tellB (outerB l 0 l.length) else firstB l i d) := by
  induction d with
  | zero =>
    intro i hi
    refine Ev.step (fun k => by rw [ring_ValidateBlocks.l0]) ?_
    exact Ev.ifn (by omega) (vb_l1 l hl l.length 0 (by omega))
  | succ d ih =>
    intro i hi
    have hgi := el_good hg i (by omega)
    have e1 : wrap64 ((i : Int) + 1) = ((i + 1 : Nat) : Int) := by rw [w64 (by omega) (by omega)]; omega
    refine Ev.step (fun k => by rw [ring_ValidateBlocks.l0]) ?_
    refine Ev.ifp (by omega) (Ev.ifp (by omega) (Ev.ifp (by omega) ?_))
    refine Ev.bindc (series_eq (el l i).f0 hgi.1) ?_
    have hr := ih (i + 1) (by omega)
    rw [e1]
    unfold firstB badB
    show Ev (fun k => if serP (el l i).f0 = true then (if (el l i).f1 < 0 then some 1 else if (el l i).f1 > (el l i).f2 then some 1 else if (el l i).f2 > 99999 then some 1 else _) else some 2) _
    by_cases h1 : serP (el l i).f0 = true
    · refine Ev.ifp h1 ?_
      simp only [if_pos h1]
      by_cases h2 : (el l i).f1 < 0
      · refine Ev.ifp h2 ?_
        simp only [if_pos h2]
        exact Ev.now _
      · refine Ev.ifn h2 ?_
        simp only [if_neg h2]
        by_cases h3 : (el l i).f2 < (el l i).f1
        · refine Ev.ifp h3 ?_
          simp only [if_pos h3]
          exact Ev.now _
        · refine Ev.ifn h3 ?_
          simp only [if_neg h3]
          by_cases h4 : (el l i).f2 > 99999
          · refine Ev.ifp h4 ?_
            simp only [if_pos h4]
            exact Ev.now _
          · refine Ev.ifn h4 ?_
            simp only [if_neg h4, if_true]
            exact hr
    · refine Ev.ifn h1 ?_
      simp only [if_neg h1]
      exact Ev.now _
theorem blocks_ev (l : List S79) (hg : ∀ y ∈ l, g79 y) : Ev (fun k => ring_ValidateBlocks.f k l) (blocksP l) := by
  unfold ring_ValidateBlocks.f blocksP
  by_cases h : (l.length : Int) > 8
  · simp only [if_pos h]
    exact Ev.now _
  · simp only [if_neg h]
    exact vb_l0 l (by omega) hg l.length 0 (by omega)
theorem rvb_l2 (l : List S79) (hl : l.length ≤ 8) (i : Nat) (hi : i < l.length) (r : Bool) (hn : Ev (fun k => wigeonref01_ValidateBlocks.l1 k l ((i + 1 : Nat) : Int)) (tellB r)) (d : Nat) : ∀ j, j + d = i →
    Ev (fun k => wigeonref01_ValidateBlocks.l2 k l (i : Int) (j : Int)) (tellB (innerB l i j d || r)) := by
  induction d with
  | zero =>
    intro j hj
    refine Ev.step (fun k => by rw [wigeonref01_ValidateBlocks.l2]) (Ev.ifn (by omega) ?_)
    rw [w64 (by omega) (by omega)]
    exact hn
  | succ d ih =>
    intro j hj
    refine Ev.step (fun k => by rw [wigeonref01_ValidateBlocks.l2]) (Ev.ifp (by omega) (Ev.ifp (by omega) (Ev.ifp (by omega) (Ev.ifp (by omega) (Ev.ifp (by omega) ?_)))))
    have e1 : wrap64 ((j : Int) + 1) = ((j + 1 : Nat) : Int) := by rw [w64 (by omega) (by omega)]; omega
    rw [e1]
    have hr := ih (j + 1) (by omega)
    unfold innerB meetB
    by_cases h1 : (el l i).f0.toList = (el l j).f0.toList
    · refine Ev.ifp h1 ?_
      by_cases h2 : (el l i).f1 ≤ (el l j).f2
      · refine Ev.ifp h2 ?_
        by_cases h3 : (el l j).f1 ≤ (el l i).f2
        · refine Ev.ifp h3 (Ev.val ?_)
          rw [show ((el l i).f0.toList == (el l j).f0.toList) = true from beq_iff_eq.mpr h1, decide_eq_true h2, decide_eq_true h3]
          rfl
        · refine Ev.ifn h3 ?_
          rw [decide_eq_false h3, Bool.and_false, Bool.and_false, Bool.false_or]
          exact hr
      · refine Ev.ifn h2 ?_
        rw [decide_eq_false h2, Bool.false_and, Bool.and_false, Bool.false_or]
        exact hr
    · refine Ev.ifn h1 ?_
      rw [show ((el l i).f0.toList == (el l j).f0.toList) = false from beq_eq_false_iff_ne.mpr h1, Bool.false_and, Bool.false_or]
      exact hr
theorem rvb_l1 (l : List S79) (hl : l.length ≤ 8) (d : Nat) : ∀ i, i + d = l.length → Ev (fun k => wigeonref01_ValidateBlocks.l1 k l (i : Int)) (tellB (outerB l i d)) := by
  induction d with
  | zero =>
    intro i hi
    refine Ev.step (fun k => by rw [wigeonref01_ValidateBlocks.l1]) ?_
    exact Ev.ifn (by omega) (Ev.now _)
  | succ d ih =>
    intro i hi
    refine Ev.step (fun k => by rw [wigeonref01_ValidateBlocks.l1]) (Ev.ifp (by omega) ?_)
    exact rvb_l2 l hl i (by omega) _ (ih (i + 1) (by omega)) i 0 (by omega)
theorem rvb_l0 (l : List S79) (hl : l.length ≤ 8) (d : Nat) : ∀ i, i + d = l.length → Ev (fun k => wigeonref01_ValidateBlocks.l0 k l (i : Int)) (if firstB l i d = 0 then tellB (outerB l 0 l.length) else firstB l i d) := by
  induction d with
  | zero =>
    intro i hi
    refine Ev.step (fun k => by rw [wigeonref01_ValidateBlocks.l0]) ?_
    exact Ev.ifn (by omega) (rvb_l1 l hl l.length 0 (by omega))
  | succ d ih =>
    intro i hi
    have e1 : wrap64 ((i : Int) + 1) = ((i + 1 : Nat) : Int) := by rw [w64 (by omega) (by omega)]; omega
    refine Ev.step (fun k => by rw [wigeonref01_ValidateBlocks.l0]) ?_
    refine Ev.ifp (by omega) (Ev.ifp (by omega) ?_)
    refine Ev.bind (isSeries_ev (el l i).f0) ?_
    have hr := ih (i + 1) (by omega)
    rw [e1]
    unfold firstB badB
    show Ev (fun k => if serP (el l i).f0 = true then (if (el l i).f1 < 0 then some 1 else if (el l i).f2 < (el l i).f1 then some 1 else if (el l i).f2 > 99999 then some 1 else _) else some 2) _
    by_cases h1 : serP (el l i).f0 = true
    · refine Ev.ifp h1 ?_
      simp only [if_pos h1]
      by_cases h2 : (el l i).f1 < 0
      · refine Ev.ifp h2 ?_
        simp only [if_pos h2]
        exact Ev.now _
      · refine Ev.ifn h2 ?_
        simp only [if_neg h2]
        by_cases h3 : (el l i).f2 < (el l i).f1
        · refine Ev.ifp h3 ?_
          simp only [if_pos h3]
          exact Ev.now _
        · refine Ev.ifn h3 ?_
          simp only [if_neg h3]
          by_cases h4 : (el l i).f2 > 99999
          · refine Ev.ifp h4 ?_
            simp only [if_pos h4]
            exact Ev.now _
          · refine Ev.ifn h4 ?_
            simp only [if_neg h4, if_true]
            exact hr
    · refine Ev.ifn h1 ?_
      simp only [if_neg h1]
      exact Ev.now _
theorem rblocks_ev (l : List S79) : Ev (fun k => wigeonref01_ValidateBlocks.f k l) (blocksP l) := by
  unfold wigeonref01_ValidateBlocks.f blocksP
  by_cases h : (l.length : Int) > 8
  · simp only [if_pos h]
    exact Ev.now _
  · simp only [if_neg h]
    exact rvb_l0 l (by omega) l.length 0 (by omega)
def totB (l : List S79) : Nat → Nat → Int
  | _, 0 => 0
  | i, d + 1 => ((el l i).f2 - (el l i).f1 + 1) + totB l (i + 1) d
def totalP (l : List S79) : Int × Int := if blocksP l = 0 then (totB l 0 l.length, 0) else (0, blocksP l)
theorem total_l0 (l : List S79) (hl : l.length ≤ 8) (hb : ∀ j, j < l.length → badB (el l j) = 0) (d : Nat) : ∀ (i : Nat) (a : Int), i + d = l.length → 0 ≤ a → a ≤ 100000 * i → Ev (fun k => ring_Total.l0 k a l (l.length : Int) (i : Int)) (a + totB l i d, 0) := by
  induction d with
  | zero =>
    intro i a hi h0 h1
    refine Ev.step (fun k => by rw [ring_Total.l0]) (Ev.ifn (by omega) (Ev.val ?_))
    simp [totB]
  | succ d ih =>
    intro i a hi h0 h1
    obtain ⟨b0, b1, b2, _⟩ := badB_ok (hb i (by omega))
    refine Ev.step (fun k => by rw [ring_Total.l0]) (Ev.ifp (by omega) (Ev.ifp (by omega) (Ev.ifp (by omega) ?_)))
    show Ev (fun k => ring_Total.l0 k (wrap64 (a + wrap64 (wrap64 ((el l i).f2 - (el l i).f1) + 1))) l (l.length : Int) (wrap64 ((i : Int) + 1))) _
    rw [w64 (n := (el l i).f2 - (el l i).f1) (by omega) (by omega), w64 (n := (el l i).f2 - (el l i).f1 + 1) (by omega) (by omega), w64 (n := a + ((el l i).f2 - (el l i).f1 + 1)) (by omega) (by omega), w64 (by omega) (by omega)]
    have h := ih (i + 1) (a + ((el l i).f2 - (el l i).f1 + 1)) (by omega) (by omega) (by omega)
    have e : a + totB l i (d + 1) = a + ((el l i).f2 - (el l i).f1 + 1) + totB l (i + 1) d := by
      show a + ((el l i).f2 - (el l i).f1 + 1 + totB l (i + 1) d) = _
      omega
    rw [e]
    exact h
theorem Total_ev (l : List S79) (hg : ∀ y ∈ l, g79 y) : Ev (fun k => ring_Total.f k l) (totalP l) := by
  unfold ring_Total.f totalP
  refine Ev.bind (blocks_ev l hg) ?_
  by_cases h : blocksP l = 0
  · simp only [if_pos h]
    obtain ⟨hl, hb, _⟩ := blocksP_ok h
    have h2 := total_l0 l hl hb l.length 0 0 (by omega) (by omega) (by omega)
    rw [Int.zero_add] at h2
    exact h2
  · simp only [if_neg h]
    exact Ev.now _
theorem rtotal_l0 (l : List S79) (hl : l.length ≤ 8) (hb : ∀ j, j < l.length → badB (el l j) = 0) (d : Nat) : ∀ (i : Nat) (a : Int), i + d = l.length → 0 ≤ a → a ≤ 100000 * i → Ev (fun k => wigeonref01_Total.l0 k l a (i : Int)) (a + totB l i d, 0) := by
  induction d with
  | zero =>
    intro i a hi h0 h1
    refine Ev.step (fun k => by rw [wigeonref01_Total.l0]) (Ev.ifn (by omega) (Ev.val ?_))
    simp [totB]
  | succ d ih =>
    intro i a hi h0 h1
    obtain ⟨b0, b1, b2, _⟩ := badB_ok (hb i (by omega))
    refine Ev.step (fun k => by rw [wigeonref01_Total.l0]) (Ev.ifp (by omega) (Ev.ifp (by omega) ?_))
    show Ev (fun k => wigeonref01_Total.l0 k l (wrap64 (a + wrap64 (wrap64 ((el l i).f2 - (el l i).f1) + 1))) (wrap64 ((i : Int) + 1))) _
    rw [w64 (n := (el l i).f2 - (el l i).f1) (by omega) (by omega), w64 (n := (el l i).f2 - (el l i).f1 + 1) (by omega) (by omega), w64 (n := a + ((el l i).f2 - (el l i).f1 + 1)) (by omega) (by omega), w64 (by omega) (by omega)]
    have h := ih (i + 1) (a + ((el l i).f2 - (el l i).f1 + 1)) (by omega) (by omega) (by omega)
    have e : a + totB l i (d + 1) = a + ((el l i).f2 - (el l i).f1 + 1) + totB l (i + 1) d := by
      show a + ((el l i).f2 - (el l i).f1 + 1 + totB l (i + 1) d) = _
      omega
    rw [e]
    exact h
theorem rTotal_ev (l : List S79) : Ev (fun k => wigeonref01_Total.f k l) (totalP l) := by
  unfold wigeonref01_Total.f totalP
  refine Ev.bind (rblocks_ev l) ?_
  by_cases h : blocksP l = 0
  · simp only [if_pos h]
    obtain ⟨hl, hb, _⟩ := blocksP_ok h
    have h2 := rtotal_l0 l hl hb l.length 0 0 (by omega) (by omega) (by omega)
    rw [Int.zero_add] at h2
    exact h2
  · simp only [if_neg h]
    exact Ev.now _
def hasB (x : S79) (s : ByteArray) (n : Int) : Bool := x.f0.toList == s.toList && (decide (x.f1 ≤ n) && decide (n ≤ x.f2))
def ownB (l : List S79) (s : ByteArray) (n : Int) : Nat → Nat → Int × Bool × Int
  | _, 0 => (0, false, 0)
  | i, d + 1 => if hasB (el l i) s n = true then ((i : Int), true, 0) else ownB l s n (i + 1) d
def ownerP (l : List S79) (t : ByteArray) : Int × Bool × Int := if blocksP l = 0 then (if ValidP t = 0 then ownB l (t.extract 0 (t.size - 6)) (numP t) 0 l.length else (0, false, ValidP t)) else (0, false, blocksP l)
theorem owner_l0 (l : List S79) (hl : l.length ≤ 8) (s : ByteArray) (n : Int) (d : Nat) : ∀ i, i + d = l.length → Ev (fun k => ring_Owner.l0 k s n l (l.length : Int) (i : Int)) (ownB l s n i d) := by
  induction d with
  | zero =>
    intro i hi
    refine Ev.step (fun k => by rw [ring_Owner.l0]) ?_
    exact Ev.ifn (by omega) (Ev.now _)
  | succ d ih =>
    intro i hi
    have e1 : wrap64 ((i : Int) + 1) = ((i + 1 : Nat) : Int) := by rw [w64 (by omega) (by omega)]; omega
    refine Ev.step (fun k => by rw [ring_Owner.l0]) (Ev.ifp (by omega) (Ev.ifp (by omega) (Ev.ifp (by omega) ?_)))
    rw [e1]
    have hr := ih (i + 1) (by omega)
    unfold ownB hasB
    show Ev (fun k => if (el l i).f0.toList = s.toList then (if (el l i).f1 ≤ n then (if n ≤ (el l i).f2 then _ else _) else _) else _) _
    by_cases h1 : (el l i).f0.toList = s.toList
    · refine Ev.ifp h1 ?_
      by_cases h2 : (el l i).f1 ≤ n
      · refine Ev.ifp h2 ?_
        by_cases h3 : n ≤ (el l i).f2
        · refine Ev.ifp h3 (Ev.val ?_)
          rw [show ((el l i).f0.toList == s.toList) = true from beq_iff_eq.mpr h1, decide_eq_true h2, decide_eq_true h3]
          rfl
        · refine Ev.ifn h3 ?_
          rw [decide_eq_false h3, Bool.and_false, Bool.and_false]
          exact hr
      · refine Ev.ifn h2 ?_
        rw [decide_eq_false h2, Bool.false_and, Bool.and_false]
        exact hr
    · refine Ev.ifn h1 ?_
      rw [show ((el l i).f0.toList == s.toList) = false from beq_eq_false_iff_ne.mpr h1, Bool.false_and]
      exact hr
theorem Owner_ev (l : List S79) (hg : ∀ y ∈ l, g79 y) (t : ByteArray) (ht : t.size ≤ 140737488351232) : Ev (fun k => ring_Owner.f k l t) (ownerP l t) := by
  unfold ring_Owner.f ownerP
  refine Ev.bind (blocks_ev l hg) ?_
  by_cases h : blocksP l = 0
  · simp only [if_pos h]
    obtain ⟨hl, _, _⟩ := blocksP_ok h
    refine Ev.bind (Split_ev t ht) ?_
    unfold SplitP
    by_cases hv : ValidP t = 0
    · simp only [if_pos hv]
      exact Ev.ifp trivial (owner_l0 l hl _ _ l.length 0 (by omega))
    · simp only [if_neg hv]
      exact Ev.now _
  · simp only [if_neg h]
    exact Ev.now _
theorem rowner_l0 (l : List S79) (hl : l.length ≤ 8) (t : ByteArray) (h7 : 7 ≤ t.size) (h8 : t.size ≤ 8) (hf : ∀ i, i < t.size → okb false (t.size - 6) i (bt t i) = true) (d : Nat) : ∀ i, i + d = l.length →
    Ev (fun k => wigeonref01_Owner.l0 k l t (i : Int)) (ownB l (t.extract 0 (t.size - 6)) (numP t) i d) := by
  induction d with
  | zero =>
    intro i hi
    refine Ev.step (fun k => by rw [wigeonref01_Owner.l0]) ?_
    exact Ev.ifn (by omega) (Ev.now _)
  | succ d ih =>
    intro i hi
    have e1 : wrap64 ((i : Int) + 1) = ((i + 1 : Nat) : Int) := by rw [w64 (by omega) (by omega)]; omega
    have e2 : wrap64 ((t.size : Int) - 6) = (t.size : Int) - 6 := w64 (by omega) (by omega)
    have e3 : ((t.size : Int) - 6).toNat = t.size - 6 := by omega
    refine Ev.step (fun k => by rw [wigeonref01_Owner.l0]) (Ev.ifp (by omega) (Ev.bind (number_ev t h7 h8 hf) ?_))
    rw [e1, e2]
    refine Ev.ifp (by omega) (Ev.ifp (by omega) (Ev.ifp (by omega) ?_))
    rw [e3]
    have hr := ih (i + 1) (by omega)
    generalize t.extract 0 (t.size - 6) = s at *
    generalize numP t = n at *
    unfold ownB hasB
    show Ev (fun k => if (el l i).f0.toList = s.toList then (if (el l i).f1 ≤ n then (if n ≤ (el l i).f2 then _ else _) else _) else _) _
    by_cases h1 : (el l i).f0.toList = s.toList
    · refine Ev.ifp h1 ?_
      by_cases h2 : (el l i).f1 ≤ n
      · refine Ev.ifp h2 ?_
        by_cases h3 : n ≤ (el l i).f2
        · refine Ev.ifp h3 (Ev.val ?_)
          rw [show ((el l i).f0.toList == s.toList) = true from beq_iff_eq.mpr h1, decide_eq_true h2, decide_eq_true h3]
          rfl
        · refine Ev.ifn h3 ?_
          rw [decide_eq_false h3, Bool.and_false, Bool.and_false]
          exact hr
      · refine Ev.ifn h2 ?_
        rw [decide_eq_false h2, Bool.false_and, Bool.and_false]
        exact hr
    · refine Ev.ifn h1 ?_
      rw [show ((el l i).f0.toList == s.toList) = false from beq_eq_false_iff_ne.mpr h1, Bool.false_and]
      exact hr
theorem rOwner_ev (l : List S79) (t : ByteArray) : Ev (fun k => wigeonref01_Owner.f k l t) (ownerP l t) := by
  unfold wigeonref01_Owner.f ownerP
  refine Ev.bind (rblocks_ev l) ?_
  by_cases h : blocksP l = 0
  · simp only [if_pos h]
    obtain ⟨hl, _, _⟩ := blocksP_ok h
    refine Ev.bind (rValid_ev t) ?_
    by_cases hv : ValidP t = 0
    · simp only [if_pos hv]
      obtain ⟨hf, _⟩ := ValidP_ok hv
      obtain ⟨h7, h8, _, hh⟩ := formP_true hf
      exact rowner_l0 l hl t h7 h8 hh l.length 0 (by omega)
    · simp only [if_neg hv]
      exact Ev.now _
  · simp only [if_neg h]
    exact Ev.now _

end Go.Proofs.Ytlbhighbhchdmaa.Pure
