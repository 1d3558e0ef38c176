import Derived.Test.YtlbhighbhchdmaaQx9
import Derived.Test.YtlbhighbhchdmaaQx12
import Derived.Test.YtlbhighbhchdmaaQx13
import Derived.Test.YtlbhighbhchdmaaLibD
namespace Go.Proofs.Ytlbhighbhchdmaa.Pure
open Go.RowKit Go.Proofs.Ytlbhighbhchdmaa.Q Go.Proofs.YtlbhighbhchdmaaW.PrintWords Go.Proofs.YtlbhighbhchdmaaW.PrintLast

/-! The number of a ring, and the ring of a series with a number. -/

theorem tail_at {s : ByteArray} (j : Nat) (h : j < 6) : rd (tailI s) (j : Int) = bt s ((s.size - 6 + j : Nat) : Int) - 48 := by
  rw [rd_lt _ _ (by rw [tailI_length]; exact h)]
  simp [tailI]
/-- The number that the first five of some digits make. -/
def numTo (l : List Int) : Nat → Int
  | 0 => 0
  | j + 1 => 10 * numTo l j + rd l (j : Int)
def numP (s : ByteArray) : Int := numTo (tailI s) 5
theorem numTo_range (l : List Int) (h : ∀ j : Nat, 0 ≤ rd l (j : Int) ∧ rd l (j : Int) ≤ 9) (j : Nat) : 0 ≤ numTo l j ∧ numTo l j < 10 ^ j := by
  induction j with
  | zero => exact ⟨Int.le_refl 0, by show (0 : Int) < 1; decide⟩
  | succ j ih =>
    have := h j
    unfold numTo
    rw [Int.pow_succ]
    omega
theorem rd_out (l : List Int) (h : ∀ x ∈ l, 0 ≤ x ∧ x ≤ 9) (j : Nat) : 0 ≤ rd l (j : Int) ∧ rd l (j : Int) ≤ 9 := by
  unfold rd
  rw [Int.toNat_natCast, List.getD_eq_getElem?_getD]
  rcases Nat.lt_or_ge j l.length with hj | hj
  · rw [List.getElem?_eq_getElem hj]; exact h _ (List.getElem_mem hj)
  · rw [List.getElem?_eq_none hj]; decide
theorem numTo_lt (l : List Int) (h : ∀ x ∈ l, 0 ≤ x ∧ x ≤ 9) (j : Nat) (hj : j ≤ 5) : 0 ≤ numTo l j ∧ numTo l j ≤ 99999 := by
  have h1 := numTo_range l (rd_out l h) j
  have h2 : (10 : Int) ^ j ≤ 100000 := by
    have : j = 0 ∨ j = 1 ∨ j = 2 ∨ j = 3 ∨ j = 4 ∨ j = 5 := by omega
    rcases this with rfl | rfl | rfl | rfl | rfl | rfl <;> decide
  omega
theorem rd_take (l : List Int) (j n : Nat) (h : j < n) : rd (l.take n) (j : Int) = rd l (j : Int) := by
  unfold rd
  rw [Int.toNat_natCast, List.getD_eq_getElem?_getD, List.getD_eq_getElem?_getD, List.getElem?_take, if_pos h]
theorem split_loop (s : ByteArray) (l : List Int) (h : ∀ x ∈ l, 0 ≤ x ∧ x ≤ 9) (hl : l.length = 6) (h7 : 7 ≤ s.size) (h8 : s.size ≤ 8) (d : Nat) : ∀ j : Nat, j + d = 5 →
    Ev (fun k => ring_Split.l0 k s ((s.size : Int) - 6) (numTo l j) (l.take 5) ((l.take 5).length : Int) (j : Int)) (s.extract 0 (s.size - 6), numTo l 5, 0) := by
  have h5 : (l.take 5).length = 5 := by rw [List.length_take]; omega
  induction d with
  | zero =>
    intro j hj
    obtain rfl : j = 5 := by omega
    refine Ev.step (fun k => by rw [ring_Split.l0]) (Ev.ifn (by omega) (Ev.ifp (by omega) (Ev.ifp (by omega) (Ev.val ?_))))
    rw [show ((s.size : Int) - 6).toNat = s.size - 6 by omega]
  | succ d ih =>
    intro j hj
    refine Ev.step (fun k => by rw [ring_Split.l0]) (Ev.ifp (by omega) (Ev.ifp (by omega) (Ev.ifp (by omega) ?_)))
    have h1 := numTo_lt l h j (by omega)
    have h2 := rd_out l h j
    rw [rd_take l j 5 (by omega), w64 (n := 10 * numTo l j) (by omega) (by omega), w64 (n := 10 * numTo l j + rd l (j : Int)) (by omega) (by omega), w64 (by omega) (by omega)]
    exact ih (j + 1) (by omega)
def SplitP (s : ByteArray) : ByteArray × Int × Int := if ValidP s = 0 then (s.extract 0 (s.size - 6), numP s, 0) else (⟨#[]⟩, 0, ValidP s)
theorem Split_ev (s : ByteArray) (hs : s.size ≤ 140737488351232) : Ev (fun k => ring_Split.f k s) (SplitP s) := by
  unfold ring_Split.f SplitP
  refine Ev.bind (Valid_ev s hs) ?_
  by_cases hv : ValidP s = 0
  · simp only [if_pos hv]
    obtain ⟨hf, _⟩ := ValidP_ok hv
    obtain ⟨h7, h8, e, h⟩ := formP_true hf
    rw [w64 (by omega) (by omega)]
    refine Ev.bindc (digits_eq h7 h8 h) (Ev.ifp (by rw [tailI_length]; decide) (Ev.some_bind ?_))
    exact split_loop s (tailI s) (tailI_range h7 h) (tailI_length s) h7 h8 5 0 (by omega)
  · simp only [if_neg hv]
    exact Ev.now _
theorem number_loop (l : List Int) (h : ∀ x ∈ l, 0 ≤ x ∧ x ≤ 9) (hl : l.length = 6) (d : Nat) : ∀ j : Nat, j + d = 5 → Ev (fun k => wigeonref01_number.l0 k (numTo l j) l (j : Int)) (numTo l 5) := by
  induction d with
  | zero =>
    intro j hj
    obtain rfl : j = 5 := by omega
    exact Ev.step (fun k => by rw [wigeonref01_number.l0]) (Ev.ifn (by omega) (Ev.now _))
  | succ d ih =>
    intro j hj
    refine Ev.step (fun k => by rw [wigeonref01_number.l0]) (Ev.ifp (by omega) (Ev.ifp (by omega) (Ev.ifp (by omega) ?_)))
    have h1 := numTo_lt l h j (by omega)
    have h2 := rd_out l h j
    rw [w64 (n := 10 * numTo l j) (by omega) (by omega), w64 (n := 10 * numTo l j + rd l (j : Int)) (by omega) (by omega), w64 (by omega) (by omega)]
    exact ih (j + 1) (by omega)
theorem number_ev (s : ByteArray) (h7 : 7 ≤ s.size) (h8 : s.size ≤ 8) (h : ∀ i, i < s.size → okb false (s.size - 6) i (bt s i) = true) : Ev (fun k => wigeonref01_number.f k s) (numP s) := by
  unfold wigeonref01_number.f
  exact Ev.bind (tail_ev s h7 (by omega)) (number_loop (tailI s) (tailI_range h7 h) (tailI_length s) 5 0 (by omega))
theorem rSplit_ev (s : ByteArray) : Ev (fun k => wigeonref01_Split.f k s) (SplitP s) := by
  unfold wigeonref01_Split.f SplitP
  refine Ev.bind (rValid_ev s) ?_
  by_cases hv : ValidP s = 0
  · simp only [if_pos hv]
    obtain ⟨hf, _⟩ := ValidP_ok hv
    obtain ⟨h7, h8, e, h⟩ := formP_true hf
    rw [w64 (by omega) (by omega)]
    refine Ev.ifp (by omega) (Ev.ifp (by omega) (Ev.bind (number_ev s h7 h8 h) (Ev.val ?_)))
    rw [show ((s.size : Int) - 6).toNat = s.size - 6 by omega]
  · simp only [if_neg hv]
    exact Ev.now _
def fiveN (n : Int) : List Nat := (fiveD n).map Int.toNat
theorem five_cast (n : Int) : fiveD n = (fiveN n).map (fun n : Nat => (n : Int)) ∧ Digs (fiveN n) := by
  obtain ⟨m, e, hm⟩ := digs_of (fiveD n) (fiveD_range n)
  have e2 : fiveN n = m := by unfold fiveN; rw [e, map_toNat]
  rw [e2]
  exact ⟨e, hm⟩
def chk (n : Int) : Nat := ud (sum0 (fiveN n) 1)
theorem chk_lt (n : Int) : chk n < 10 := ud_lt (sum0_lt (five_cast n).2 1)
def makeP (s : ByteArray) (n : Int) : ByteArray := ⟨s.data ++ ((fiveD n ++ [(chk n : Int)]).map Q.byteOf).toArray⟩
theorem make5_ev (s : ByteArray) (n : Int) (h0 : 0 ≤ n) (h1 : n ≤ 99999) (hs : s.size ≤ 1000) : Ev (fun k => ring_make5.f k s n) (makeP s n) := by
  unfold ring_make5.f
  refine Ev.ifp ⟨h0, h1, hs⟩ ?_
  obtain ⟨e, hd⟩ := five_cast n
  have hsum := sum_ev (fiveN n) hd (by unfold fiveN fiveD; simp) 1 (by omega)
  rw [← e] at hsum
  refine Ev.bind hsum (Ev.bindc (undo_eq (sum0_lt hd 1)) (Ev.ifp ?_ (Ev.val rfl)))
  have := chk_lt n
  unfold chk at this
  omega
theorem Digit_all : ∀ d : Fin 10, wigeonref01_Digit.f (d.val : Int) = some ⟨#[Q.byteOf (d.val : Int)]⟩ := by decide +kernel
theorem text_loop (l : List Int) (h : ∀ x ∈ l, 0 ≤ x ∧ x ≤ 9) (hl : l.length ≤ 100) (s : ByteArray) (hs : s.size ≤ 1000) (d : Nat) : ∀ j : Nat, j + d = l.length →
    Ev (fun k => wigeonref01_text.l0 k ⟨s.data ++ ((l.take j).map Q.byteOf).toArray⟩ l (j : Int)) ⟨s.data ++ (l.map Q.byteOf).toArray⟩ := by
  induction d with
  | zero =>
    intro j hj
    refine Ev.step (fun k => by rw [wigeonref01_text.l0]) (Ev.ifn (by omega) (Ev.val ?_))
    rw [List.take_of_length_le (by omega)]
  | succ d ih =>
    intro j hj
    refine Ev.step (fun k => by rw [wigeonref01_text.l0]) (Ev.ifp (by omega) (Ev.ifp (by omega) ?_))
    have hx := h _ (List.getElem_mem (show j < l.length by omega))
    rw [rd_lt l j (by omega)]
    obtain ⟨q, hq⟩ := Int.eq_ofNat_of_zero_le hx.1
    have hd := Digit_all ⟨q, by omega⟩
    rw [← hq] at hd
    refine Ev.bindc hd ?_
    have e : (⟨s.data ++ ((l.take j).map Q.byteOf).toArray⟩ : ByteArray) ++ ⟨#[Q.byteOf l[j]]⟩ = ⟨s.data ++ ((l.take (j + 1)).map Q.byteOf).toArray⟩ := by
      rw [List.take_succ_eq_append_getElem (by omega)]
      apply ByteArray.ext
      rw [ByteArray.data_append]
      apply Array.ext'
      simp only [Array.toList_append, List.map_append, List.map_cons, List.map_nil, List.append_assoc]
    refine Ev.ifp ?_ ?_
    · show (s.data ++ ((l.take j).map Q.byteOf).toArray).size + 1 ≤ _
      have e1 : (s.data ++ ((l.take j).map Q.byteOf).toArray).size = s.size + (l.take j).length := by
        rw [Array.size_append]
        simp
      rw [e1, List.length_take]
      omega
    · rw [e, w64 (by omega) (by omega)]
      exact ih (j + 1) (by omega)
theorem build_ev (s : ByteArray) (n : Int) (h0 : 0 ≤ n) (h1 : n ≤ 99999) (hs : s.size ≤ 1000) : Ev (fun k => wigeonref01_build.f k s n) (makeP s n) := by
  unfold wigeonref01_build.f
  have e : ([wrap64 (Int.tdiv n 10000), Int.tmod (wrap64 (Int.tdiv n 1000)) 10, Int.tmod (wrap64 (Int.tdiv n 100)) 10, Int.tmod (wrap64 (Int.tdiv n 10)) 10, Int.tmod n 10] : List Int) = fiveD n := by
    rw [Int.tdiv_eq_ediv_of_nonneg h0, Int.tdiv_eq_ediv_of_nonneg h0, Int.tdiv_eq_ediv_of_nonneg h0, Int.tdiv_eq_ediv_of_nonneg h0, w64 (by omega) (by omega), w64 (by omega) (by omega), w64 (by omega) (by omega), w64 (by omega) (by omega), Int.tmod_eq_emod_of_nonneg (by omega), Int.tmod_eq_emod_of_nonneg (by omega), Int.tmod_eq_emod_of_nonneg (by omega), Int.tmod_eq_emod_of_nonneg h0]
    unfold fiveD
    congr 1
    omega
  rw [e]
  refine Ev.some_bind ?_
  obtain ⟨ec, hd⟩ := five_cast n
  have hck := rcheck_loop (fiveN n) hd (by unfold fiveN fiveD; simp) 9 0 rfl (fun x hx => by omega)
  rw [← ec] at hck
  refine Ev.bind hck (Ev.ifp (by unfold fiveD; simp) (Ev.bind ?_ (Ev.now _)))
  have hc := chk_lt n
  have ht := text_loop (fiveD n ++ [(chk n : Int)]) (fun x hx => (List.mem_append.1 hx).elim (fiveD_range n x) (fun h => by simp at h; omega)) (by unfold fiveD; simp) s hs 6 0 (by unfold fiveD; simp)
  rw [List.take_zero, List.map_nil, Array.append_empty] at ht
  exact ht

end Go.Proofs.Ytlbhighbhchdmaa.Pure
