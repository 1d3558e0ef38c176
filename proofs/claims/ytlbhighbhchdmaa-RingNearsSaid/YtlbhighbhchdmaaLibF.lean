import Derived.Test.YtlbhighbhchdmaaQx9
import Derived.Test.YtlbhighbhchdmaaQx10
import Derived.Test.YtlbhighbhchdmaaQx12
import Derived.Test.YtlbhighbhchdmaaQx15
import Derived.Test.YtlbhighbhchdmaaLibE
namespace Go.Proofs.Ytlbhighbhchdmaa.Pure
open Go.RowKit Go.Proofs.Ytlbhighbhchdmaa.Q Go.Proofs.YtlbhighbhchdmaaW.PrintWords Go.Proofs.YtlbhighbhchdmaaW.PrintLast

/-! A ring that is made is read back. -/

theorem join_size (s : ByteArray) (l : List UInt8) : (⟨s.data ++ l.toArray⟩ : ByteArray).size = s.size + l.length := by
  show (s.data ++ l.toArray).size = _
  rw [Array.size_append]
  rfl
theorem join_left (s : ByteArray) (l : List UInt8) (i : Nat) (h : i < s.size) : bt (⟨s.data ++ l.toArray⟩ : ByteArray) (i : Int) = bt s (i : Int) := by
  rw [bt_of (by rw [join_size]; omega), bt_of h]
  congr 2
  show (s.data ++ l.toArray)[i]'_ = s.data[i]'_
  rw [Array.getElem_append_left]
theorem join_right (s : ByteArray) (l : List UInt8) (i : Nat) (h : i < l.length) : bt (⟨s.data ++ l.toArray⟩ : ByteArray) ((s.size + i : Nat) : Int) = ((l[i].toNat : Nat) : Int) := by
  rw [bt_of (by rw [join_size]; omega)]
  congr 2
  show (s.data ++ l.toArray)[s.size + i]'_ = _
  have h1 : s.data.size ≤ s.size + i := Nat.le_add_right _ _
  rw [Array.getElem_append_right h1]
  simp only [List.getElem_toArray]
  congr 1
  show s.size + i - s.size = i
  omega
theorem join_extract (s : ByteArray) (l : List UInt8) : (⟨s.data ++ l.toArray⟩ : ByteArray).extract 0 s.size = s := by
  apply ByteArray.ext
  rw [ByteArray.data_extract]
  apply Array.ext'
  show ((s.data ++ l.toArray).extract 0 s.data.size).toList = _
  simp
  exact List.take_of_length_le (Nat.le_refl _)
/-- Is a text a series? -/
def serP (s : ByteArray) : Bool := (decide (s.size = 1) || decide (s.size = 2)) && (List.range s.size).all (fun i => decide (65 ≤ bt s (i : Int) ∧ bt s (i : Int) ≤ 90))
theorem serP_true {s : ByteArray} (h : serP s = true) : (s.size = 1 ∨ s.size = 2) ∧ ∀ i, i < s.size → 65 ≤ bt s (i : Int) ∧ bt s (i : Int) ≤ 90 := by
  unfold serP at h
  rw [Bool.and_eq_true, Bool.or_eq_true, decide_eq_true_eq, decide_eq_true_eq, List.all_eq_true] at h
  exact ⟨h.1, fun i hi => of_decide_eq_true (h.2 i (List.mem_range.2 hi))⟩
def zeros6 : ByteArray := ⟨#[48, 48, 48, 48, 48, 48]⟩
theorem ser_join (s : ByteArray) : s ++ zeros6 = ⟨s.data ++ ([48, 48, 48, 48, 48, 48] : List UInt8).toArray⟩ := by
  apply ByteArray.ext
  rw [ByteArray.data_append]
  rfl
/-- A text with six digits behind it has the form of a ring exactly if it is a series. -/
theorem form_join (s : ByteArray) (l : List UInt8) (hl : l.length = 6) (hd : ∀ x ∈ l, 48 ≤ x.toNat ∧ x.toNat ≤ 57) : formP ⟨s.data ++ l.toArray⟩ false = if serP s = true then ((s.size : Int), true) else (0, false) := by
  have hsz := join_size s l
  by_cases hs : serP s = true
  · rw [if_pos hs]
    obtain ⟨h12, hb⟩ := serP_true hs
    rw [formP_good (by omega) (by omega) (fun i hi => ?_)]
    · rw [hsz, hl]
      congr 1
      omega
    · unfold okb
      by_cases hi6 : i ≥ (⟨s.data ++ l.toArray⟩ : ByteArray).size - 6
      · rw [if_pos hi6]
        have e : ((i : Nat) : Int) = ((s.size + (i - s.size) : Nat) : Int) := by omega
        rw [e, join_right s l _ (by omega)]
        have := hd _ (List.getElem_mem (show i - s.size < l.length by omega))
        simp only [Bool.or_eq_true, decide_eq_true_eq]
        omega
      · rw [if_neg hi6, join_left s l i (by omega)]
        have := hb i (by omega)
        simp only [Bool.or_eq_true, decide_eq_true_eq]
        omega
  · rw [if_neg hs]
    by_cases h12 : s.size = 1 ∨ s.size = 2
    · have : ∃ i, i < s.size ∧ ¬ (65 ≤ bt s (i : Int) ∧ bt s (i : Int) ≤ 90) := by
        unfold serP at hs
        rw [Bool.and_eq_true, Bool.or_eq_true, decide_eq_true_eq, decide_eq_true_eq] at hs
        have h3 : ((List.range s.size).all fun i => decide (65 ≤ bt s (i : Int) ∧ bt s (i : Int) ≤ 90)) = false := by
          cases hq : ((List.range s.size).all fun i => decide (65 ≤ bt s (i : Int) ∧ bt s (i : Int) ≤ 90)) with
          | false => rfl
          | true => exact absurd ⟨h12, hq⟩ hs
        rw [List.all_eq_false] at h3
        obtain ⟨i, hi, hn⟩ := h3
        exact ⟨i, List.mem_range.1 hi, fun h => hn (decide_eq_true h)⟩
      obtain ⟨i, hi, hn⟩ := this
      refine formP_bad i (by omega) ?_
      unfold okb
      rw [if_neg (by omega), join_left s l i hi]
      simp only [Bool.or_eq_false_iff, decide_eq_false_iff_not]
      exact ⟨hn, by simp⟩
    · unfold formP
      rw [if_pos (by omega)]
theorem zeros_join (s : ByteArray) : formP (s ++ zeros6) false = if serP s = true then ((s.size : Int), true) else (0, false) := by
  rw [ser_join]
  exact form_join s _ rfl (by decide)
theorem series_eq (s : ByteArray) (hs : s.size ≤ 140737488351232) : ring_series.f s = some (serP s) := by
  unfold ring_series.f
  have hz : (s ++ (⟨#[48, 48, 48, 48, 48, 48]⟩ : ByteArray)).size ≤ 9223372036854775807 := by
    have e : (s ++ (⟨#[48, 48, 48, 48, 48, 48]⟩ : ByteArray)) = s ++ zeros6 := rfl
    rw [e, ser_join, join_size]
    simp
    omega
  rw [if_pos (by omega), form_eq hz]
  simp only [Option.bind_some]
  have e : (s ++ (⟨#[48, 48, 48, 48, 48, 48]⟩ : ByteArray)) = s ++ zeros6 := rfl
  rw [e, zeros_join]
  cases h : serP s with
  | true => simp
  | false => simp
theorem isSeries_ev (s : ByteArray) : Ev (fun k => wigeonref01_isSeries.f k s) (serP s) := by
  unfold wigeonref01_isSeries.f
  have hf : Ev (fun k => wigeonref01_formed.f k (s ++ (⟨#[48, 48, 48, 48, 48, 48]⟩ : ByteArray)) false) (serP s) := by
    have h := formed_ev (s ++ zeros6) false
    rw [zeros_join] at h
    have e : (if serP s = true then ((s.size : Int), true) else (0, false)).2 = serP s := by cases serP s <;> rfl
    rw [e] at h
    exact h
  by_cases h1 : (s.size : Int) = 1
  · exact Ev.ifp h1 (Ev.ifp (by omega) (Ev.bind hf (Ev.now _)))
  · refine Ev.ifn h1 ?_
    by_cases h2 : (s.size : Int) = 2
    · exact Ev.ifp h2 (Ev.ifp (by omega) (Ev.bind hf (Ev.now _)))
    · refine Ev.ifn h2 (Ev.val ?_)
      cases h : serP s with
      | false => rfl
      | true =>
        have := (serP_true h).1
        omega
def MakeP (s : ByteArray) (n : Int) : ByteArray × Int := if serP s = true then (if n < 0 then (⟨#[]⟩, 1) else if n > 99999 then (⟨#[]⟩, 1) else (makeP s n, 0)) else (⟨#[]⟩, 2)
theorem Make_ev (s : ByteArray) (n : Int) (hs : s.size ≤ 1000) : Ev (fun k => ring_Make.f k s n) (MakeP s n) := by
  unfold ring_Make.f MakeP
  refine Ev.bindc (series_eq s (by omega)) ?_
  by_cases h : serP s = true
  · simp only [if_pos h]
    by_cases h0 : n < 0
    · simp only [if_pos h0]; exact Ev.now _
    · simp only [if_neg h0]
      by_cases h1 : n > 99999
      · simp only [if_pos h1]; exact Ev.now _
      · simp only [if_neg h1]
        exact Ev.bind (make5_ev s n (by omega) (by omega) hs) (Ev.now _)
  · simp only [if_neg h]; exact Ev.now _
theorem rMake_ev (s : ByteArray) (n : Int) (hs : s.size ≤ 1000) : Ev (fun k => wigeonref01_Make.f k s n) (MakeP s n) := by
  unfold wigeonref01_Make.f MakeP
  refine Ev.bind (isSeries_ev s) ?_
  by_cases h : serP s = true
  · simp only [if_pos h]
    by_cases h0 : n < 0
    · simp only [if_pos h0]; exact Ev.now _
    · simp only [if_neg h0]
      by_cases h1 : n > 99999
      · simp only [if_pos h1]; exact Ev.now _
      · simp only [if_neg h1]
        exact Ev.bind (build_ev s n (by omega) (by omega) hs) (Ev.now _)
  · simp only [if_neg h]; exact Ev.now _
/-- The six digits of a ring that is made. -/
def sixD (n : Int) : List Int := fiveD n ++ [(chk n : Int)]
theorem sixD_length (n : Int) : (sixD n).length = 6 := rfl
theorem sixD_range (n : Int) : ∀ x ∈ sixD n, 0 ≤ x ∧ x ≤ 9 := by
  intro x hx
  have := chk_lt n
  exact (List.mem_append.1 hx).elim (fiveD_range n x) (fun h => by simp at h; omega)
theorem make_size (s : ByteArray) (n : Int) : (makeP s n).size = s.size + 6 := by
  unfold makeP
  rw [join_size]
  simp [fiveD]
theorem make_digit (s : ByteArray) (n : Int) (i : Nat) (h : i < 6) : bt (makeP s n) ((s.size + i : Nat) : Int) = 48 + rd (sixD n) (i : Int) := by
  have hl : i < (sixD n).length := by rw [sixD_length]; exact h
  have hb := sixD_range n _ (List.getElem_mem hl)
  show bt (⟨s.data ++ ((sixD n).map Q.byteOf).toArray⟩ : ByteArray) _ = _
  rw [join_right s _ i (by rw [List.length_map]; exact hl), List.getElem_map, byteOf_toNat hb.1 hb.2, rd_lt _ _ hl]
theorem make_tail (s : ByteArray) (n : Int) : tailI (makeP s n) = sixD n := by
  apply List.ext_getElem
  · rw [tailI_length, sixD_length]
  · intro i h1 h2
    rw [tailI_length] at h1
    have e := make_digit s n i h1
    have e2 := tail_at (s := makeP s n) i h1
    rw [rd_lt _ _ (by rw [tailI_length]; exact h1)] at e2
    rw [rd_lt _ _ h2] at e
    have e3 : ((makeP s n).size - 6 + i : Nat) = s.size + i := by rw [make_size]; omega
    rw [e3] at e2
    omega
theorem make_form (s : ByteArray) (n : Int) (hs : serP s = true) : formP (makeP s n) false = ((s.size : Int), true) := by
  have h := form_join s ((sixD n).map Q.byteOf) (by rw [List.length_map, sixD_length]) (fun x hx => by
    obtain ⟨d, hd, rfl⟩ := List.mem_map.1 hx
    have hb := sixD_range n d hd
    have := byteOf_toNat hb.1 hb.2
    omega)
  rw [if_pos hs] at h
  exact h
theorem make_tailN (s : ByteArray) (n : Int) : tailN (makeP s n) = fiveN n ++ [chk n] := by
  unfold tailN
  rw [make_tail]
  unfold sixD fiveN
  rw [List.map_append]
  simp
theorem make_valid (s : ByteArray) (n : Int) (hs : serP s = true) : ValidP (makeP s n) = 0 := by
  unfold ValidP
  rw [if_pos (by rw [make_form s n hs]), make_tailN, if_pos (show sum0 (fiveN n ++ [chk n]) 0 = 0 from check_zero (five_cast n).2)]
theorem make_num (s : ByteArray) (n : Int) (h0 : 0 ≤ n) (h1 : n ≤ 99999) : numP (makeP s n) = n := by
  unfold numP
  rw [make_tail]
  show 10 * (10 * (10 * (10 * (10 * 0 + n / 10000 % 10) + n / 1000 % 10) + n / 100 % 10) + n / 10 % 10) + n % 10 = n
  omega
theorem make_split (s : ByteArray) (n : Int) (hs : serP s = true) (h0 : 0 ≤ n) (h1 : n ≤ 99999) : SplitP (makeP s n) = (s, n, 0) := by
  unfold SplitP
  rw [if_pos (make_valid s n hs), make_num s n h0 h1, make_size, Nat.add_sub_cancel]
  congr 1
  exact join_extract s _

end Go.Proofs.Ytlbhighbhchdmaa.Pure
