import Derived.Test.YtlbhighbhchdmaaQx9
import Derived.Test.YtlbhighbhchdmaaQx10
import Derived.Test.YtlbhighbhchdmaaLibC
namespace Go.Proofs.Ytlbhighbhchdmaa.Pure
open Go.RowKit Go.Proofs.Ytlbhighbhchdmaa.Q Go.Proofs.YtlbhighbhchdmaaW.PrintWords Go.Proofs.YtlbhighbhchdmaaW.PrintLast

/-! Texts of the form of a ring. -/

theorem formP_true {s : ByteArray} {worn : Bool} (h : (formP s worn).2 = true) : 7 ≤ s.size ∧ s.size ≤ 8 ∧ (formP s worn) = ((s.size : Int) - 6, true) ∧ ∀ i, i < s.size → okb worn (s.size - 6) i (bt s i) = true := by
  unfold formP at h ⊢
  by_cases h1 : s.size < 7 ∨ s.size > 8
  · rw [if_pos h1] at h; exact absurd h (by decide)
  · rw [if_neg h1] at h ⊢
    by_cases h2 : ((List.range s.size).all fun i => okb worn (s.size - 6) i (bt s i)) = true
    · rw [if_pos h2]
      refine ⟨by omega, by omega, rfl, fun i hi => ?_⟩
      rw [List.all_eq_true] at h2
      exact h2 i (List.mem_range.2 hi)
    · rw [if_neg h2] at h; exact absurd h (by decide)
theorem formP_false {s : ByteArray} {worn : Bool} (h : (formP s worn).2 = false) : formP s worn = (0, false) ∧ (s.size < 7 ∨ 8 < s.size ∨ ∃ i, i < s.size ∧ okb worn (s.size - 6) i (bt s i) = false) := by
  unfold formP at h ⊢
  by_cases h1 : s.size < 7 ∨ s.size > 8
  · rw [if_pos h1]
    exact ⟨rfl, by omega⟩
  · rw [if_neg h1] at h ⊢
    by_cases h2 : ((List.range s.size).all fun i => okb worn (s.size - 6) i (bt s i)) = true
    · rw [if_pos h2] at h; exact absurd h (by simp)
    · rw [if_neg h2]
      refine ⟨rfl, .inr (.inr ?_)⟩
      rw [Bool.not_eq_true, List.all_eq_false] at h2
      obtain ⟨i, hi, hn⟩ := h2
      exact ⟨i, List.mem_range.1 hi, by simpa using hn⟩
theorem form_eq {s : ByteArray} (h : s.size ≤ 9223372036854775807) : ring_form.f s ⟨#[]⟩ = some (formP s false) := by
  unfold ring_form.f
  rw [if_pos h, if_pos rfl]
theorem formw_eq {s : ByteArray} (h : s.size ≤ 9223372036854775807) : ring_form.f s ⟨#[63]⟩ = some (formP s true) := by
  unfold ring_form.f
  rw [if_pos h, if_neg (by simp), if_pos rfl]
theorem bt_range' (s : ByteArray) (i : Int) : 0 ≤ bt s i ∧ bt s i ≤ 255 := bt_range s i
theorem formed_step (s : ByteArray) (worn : Bool) (h7 : 7 ≤ s.size) (h8 : s.size ≤ 8) (i : Nat) (hi : i < s.size) (r : Bool)
    (hy : okb worn (s.size - 6) i (bt s i) = true → Ev (fun k => wigeonref01_formed.l0 k s worn ((i + 1 : Nat) : Int)) r) (hn : okb worn (s.size - 6) i (bt s i) = false → r = false) :
    Ev (fun k => wigeonref01_formed.l0 k s worn (i : Int)) r := by
  have ew : wrap64 ((s.size : Int) - 6) = ((s.size - 6 : Nat) : Int) := by rw [w64 (by omega) (by omega)]; omega
  have e1 : wrap64 ((i : Int) + 1) = ((i + 1 : Nat) : Int) := by rw [w64 (by omega) (by omega)]; omega
  have hj : ∀ b : Bool, b = (worn && bt s i == 63) → Ev (fun k => wigeonref01_formed.j2 k s worn (i : Int) b) r := by
    intro b hb
    refine Ev.step (fun k => by rw [wigeonref01_formed.j2]) ?_
    rw [ew, e1]
    by_cases hl : (i : Int) < ((s.size - 6 : Nat) : Int)
    · refine Ev.ifp hl ?_
      cases b with
      | true => exact Ev.ifp rfl (hy (by unfold okb; rw [← hb]; simp))
      | false =>
        refine Ev.ifn (by decide) (Ev.ifp (by omega) (Ev.ifp (by omega) ?_))
        have e : okb worn (s.size - 6) i (bt s i) = decide (65 ≤ bt s i ∧ bt s i ≤ 90) := by
          unfold okb
          rw [← hb, if_neg (by omega), Bool.or_false]
        by_cases h65 : bt s i ≥ 65
        · refine Ev.ifp h65 ?_
          by_cases h90 : bt s i ≤ 90
          · exact Ev.ifp h90 (hy (by rw [e]; exact decide_eq_true ⟨h65, h90⟩))
          · exact Ev.ifn h90 (Ev.val (hn (by rw [e]; exact decide_eq_false (fun h => h90 h.2))).symm)
        · exact Ev.ifn h65 (Ev.val (hn (by rw [e]; exact decide_eq_false (fun h => h65 h.1))).symm)
    · refine Ev.ifn hl ?_
      cases b with
      | true => exact Ev.ifp rfl (hy (by unfold okb; rw [← hb]; simp))
      | false =>
        refine Ev.ifn (by decide) (Ev.ifp (by omega) (Ev.ifp (by omega) ?_))
        have e : okb worn (s.size - 6) i (bt s i) = decide (48 ≤ bt s i ∧ bt s i ≤ 57) := by
          unfold okb
          rw [← hb, if_pos (by omega), Bool.or_false]
        by_cases h65 : bt s i ≥ 48
        · refine Ev.ifp h65 ?_
          by_cases h90 : bt s i ≤ 57
          · exact Ev.ifp h90 (hy (by rw [e]; exact decide_eq_true ⟨h65, h90⟩))
          · exact Ev.ifn h90 (Ev.val (hn (by rw [e]; exact decide_eq_false (fun h => h90 h.2))).symm)
        · exact Ev.ifn h65 (Ev.val (hn (by rw [e]; exact decide_eq_false (fun h => h65 h.1))).symm)
  refine Ev.step (fun k => by rw [wigeonref01_formed.l0]) (Ev.ifp (by omega) ?_)
  cases worn with
  | true => exact Ev.ifp rfl (Ev.ifp (by omega) (hj _ (by simp)))
  | false => exact Ev.ifn (by decide) (hj _ (by simp))
theorem formed_end (s : ByteArray) (worn : Bool) : Ev (fun k => wigeonref01_formed.l0 k s worn (s.size : Int)) true := by
  refine Ev.step (fun k => by rw [wigeonref01_formed.l0]) (Ev.ifn (by omega) (Ev.now _))
theorem formed_good (s : ByteArray) (worn : Bool) (h7 : 7 ≤ s.size) (h8 : s.size ≤ 8) (h : ∀ i, i < s.size → okb worn (s.size - 6) i (bt s i) = true) (d : Nat) : ∀ i, i + d = s.size → Ev (fun k => wigeonref01_formed.l0 k s worn (i : Int)) true := by
  induction d with
  | zero => intro i hi; obtain rfl : i = s.size := by omega
            exact formed_end s worn
  | succ d ih => intro i hi; exact formed_step s worn h7 h8 i (by omega) true (fun _ => ih (i + 1) (by omega)) (fun hf => by rw [h i (by omega)] at hf; exact absurd hf (by decide))
theorem formed_bad (s : ByteArray) (worn : Bool) (h7 : 7 ≤ s.size) (h8 : s.size ≤ 8) (j : Nat) (hj : j < s.size) (h : okb worn (s.size - 6) j (bt s j) = false) (d : Nat) : ∀ i, i + d = s.size → i ≤ j → Ev (fun k => wigeonref01_formed.l0 k s worn (i : Int)) false := by
  induction d with
  | zero => intro i hi hij; omega
  | succ d ih =>
    intro i hi hij
    refine formed_step s worn h7 h8 i (by omega) false (fun ht => ih (i + 1) (by omega) ?_) (fun _ => rfl)
    by_cases e : i = j
    · rw [e, h] at ht; exact absurd ht (by decide)
    · omega
theorem formed_ev (s : ByteArray) (worn : Bool) : Ev (fun k => wigeonref01_formed.f k s worn) (formP s worn).2 := by
  have hj : ∀ b : Bool, b = decide (s.size < 7 ∨ 8 < s.size) → Ev (fun k => wigeonref01_formed.j0 k s worn b) (formP s worn).2 := by
    intro b hb
    refine Ev.step (fun k => by rw [wigeonref01_formed.j0]) ?_
    cases b with
    | true =>
      refine Ev.ifp rfl (Ev.val ?_)
      unfold formP
      rw [if_pos (of_decide_eq_true hb.symm)]
    | false =>
      have hsz := of_decide_eq_false hb.symm
      refine Ev.ifn (by decide) ?_
      cases hf : (formP s worn).2 with
      | true =>
        obtain ⟨h7, h8, _, h⟩ := formP_true hf
        exact formed_good s worn h7 h8 h s.size 0 (by omega)
      | false =>
        obtain ⟨_, h⟩ := formP_false hf
        rcases h with h | h | ⟨j, hj, h⟩
        · omega
        · omega
        · exact formed_bad s worn (by omega) (by omega) j hj h s.size 0 (by omega) (by omega)
  unfold wigeonref01_formed.f
  by_cases h : (s.size : Int) = 7
  · exact Ev.ifp h (hj _ (by simp; omega))
  · refine Ev.ifn h (hj _ ?_)
    rw [Bool.eq_iff_iff]
    simp only [bne_iff_ne, decide_eq_true_eq]
    omega

/-! The digits behind the letters. -/
def tailI (s : ByteArray) : List Int := (List.range 6).map (fun i : Nat => bt s ((s.size - 6 + i : Nat) : Int) - 48)
def tailN (s : ByteArray) : List Nat := (tailI s).map Int.toNat
theorem formed_digit {s : ByteArray} (h7 : 7 ≤ s.size) (h : ∀ i, i < s.size → okb false (s.size - 6) i (bt s i) = true) (i : Nat) (hi : i < 6) : 48 ≤ bt s ((s.size - 6 + i : Nat) : Int) ∧ bt s ((s.size - 6 + i : Nat) : Int) ≤ 57 := by
  have := h (s.size - 6 + i) (by omega)
  unfold okb at this
  rw [if_pos (by omega)] at this
  simpa using this
theorem formed_letter {s : ByteArray} (h7 : 7 ≤ s.size) (h : ∀ i, i < s.size → okb false (s.size - 6) i (bt s i) = true) (i : Nat) (hi : i < s.size - 6) : 65 ≤ bt s (i : Int) ∧ bt s (i : Int) ≤ 90 := by
  have := h i (by omega)
  unfold okb at this
  rw [if_neg (by omega)] at this
  simpa using this
theorem tailI_range {s : ByteArray} (h7 : 7 ≤ s.size) (h : ∀ i, i < s.size → okb false (s.size - 6) i (bt s i) = true) : ∀ x ∈ tailI s, 0 ≤ x ∧ x ≤ 9 := by
  intro x hx
  obtain ⟨i, hi, rfl⟩ := List.mem_map.1 hx
  have := formed_digit h7 h i (List.mem_range.1 hi)
  omega
theorem tailI_length (s : ByteArray) : (tailI s).length = 6 := by simp [tailI]
theorem tailN_length (s : ByteArray) : (tailN s).length = 6 := by simp [tailN, tailI]
theorem tail_cast {s : ByteArray} (h7 : 7 ≤ s.size) (h : ∀ i, i < s.size → okb false (s.size - 6) i (bt s i) = true) : tailI s = (tailN s).map (fun n : Nat => (n : Int)) ∧ Digs (tailN s) := by
  obtain ⟨m, e, hm⟩ := digs_of (tailI s) (tailI_range h7 h)
  have e2 : tailN s = m := by unfold tailN; rw [e, map_toNat]
  rw [e2]
  exact ⟨e, hm⟩
theorem ascii_of {s : ByteArray} (h7 : 7 ≤ s.size) (h : ∀ i, i < s.size → okb false (s.size - 6) i (bt s i) = true) : asciiB s = true := by
  unfold asciiB
  rw [List.all_eq_true]
  intro i hi
  have hi' := List.mem_range.1 hi
  refine decide_eq_true ?_
  by_cases hl : i < s.size - 6
  · have := formed_letter h7 h i hl; omega
  · have := formed_digit h7 h (i - (s.size - 6)) (by omega)
    rw [show s.size - 6 + (i - (s.size - 6)) = i by omega] at this
    omega
theorem bt_extract (s : ByteArray) (n i : Nat) (h : n + i < s.size) : bt (s.extract n s.size) (i : Int) = bt s ((n + i : Nat) : Int) := by
  have h1 : i < (s.extract n s.size).size := by simp; omega
  rw [bt_of h1, bt_of h]
  congr 2
  simp [ByteArray.getElem_extract]
theorem digits_eq {s : ByteArray} (h7 : 7 ≤ s.size) (h8 : s.size ≤ 8) (h : ∀ i, i < s.size → okb false (s.size - 6) i (bt s i) = true) : ring_digits.f s ((s.size : Int) - 6) = some (tailI s) := by
  unfold ring_digits.f
  rw [if_pos ⟨ascii_of h7 h, by omega, by omega, by omega⟩]
  congr 1
  have e : ((s.size : Int) - 6).toNat = s.size - 6 := by omega
  rw [e]
  unfold digsTo tailI
  rw [show s.size - (s.size - 6) = 6 by omega]
  apply List.map_congr_left
  intro i hi
  rw [bt_extract s _ _ (by have := List.mem_range.1 hi; omega)]
theorem tail_loop (s : ByteArray) (h7 : 7 ≤ s.size) (h8 : s.size ≤ 1000) (d : Nat) : ∀ j : Nat, j + d = 6 → Ev (fun k => wigeonref01_tail.l0 k s ((tailI s).take j) ((s.size - 6 + j : Nat) : Int)) (tailI s) := by
  induction d with
  | zero =>
    intro j hj
    refine Ev.step (fun k => by rw [wigeonref01_tail.l0]) (Ev.ifn (by omega) (Ev.val ?_))
    exact List.take_of_length_le (by rw [tailI_length]; omega)
  | succ d ih =>
    intro j hj
    refine Ev.step (fun k => by rw [wigeonref01_tail.l0]) (Ev.ifp (by omega) (Ev.ifp (by omega) (Ev.ifp (by rw [List.length_take]; omega) ?_)))
    have hb := bt_range s ((s.size - 6 + j : Nat) : Int)
    rw [w64 (n := bt s ((s.size - 6 + j : Nat) : Int)) (by omega) (by omega), w64 (n := bt s ((s.size - 6 + j : Nat) : Int) - 48) (by omega) (by omega), w64 (by omega) (by omega)]
    have e : (tailI s).take j ++ [bt s ((s.size - 6 + j : Nat) : Int) - 48] = (tailI s).take (j + 1) := by
      rw [List.take_succ_eq_append_getElem (by rw [tailI_length]; omega)]
      simp [tailI]
    rw [e]
    have e2 : ((s.size - 6 + j : Nat) : Int) + 1 = ((s.size - 6 + (j + 1) : Nat) : Int) := by omega
    rw [e2]
    exact ih (j + 1) (by omega)
theorem tail_ev (s : ByteArray) (h7 : 7 ≤ s.size) (h8 : s.size ≤ 1000) : Ev (fun k => wigeonref01_tail.f k s) (tailI s) := by
  unfold wigeonref01_tail.f
  have h := tail_loop s h7 h8 6 0 (by omega)
  rw [w64 (by omega) (by omega), show (s.size : Int) - 6 = ((s.size - 6 + 0 : Nat) : Int) by omega]
  exact h
/-- What is wrong with a ring. -/
def ValidP (s : ByteArray) : Int := if (formP s false).2 = true then (if sum0 (tailN s) 0 = 0 then 0 else 6) else 2
theorem Valid_ev (s : ByteArray) (hs : s.size ≤ 140737488351232) : Ev (fun k => ring_Valid.f k s) (ValidP s) := by
  unfold ring_Valid.f ValidP
  refine Ev.bindc (form_eq (by omega)) ?_
  by_cases hf : (formP s false).2 = true
  · simp only [if_pos hf]
    obtain ⟨h7, h8, e, h⟩ := formP_true hf
    obtain ⟨et, hd⟩ := tail_cast h7 h
    rw [e]
    refine Ev.bindc (digits_eq h7 h8 h) ?_
    rw [et]
    refine Ev.bind (sum_ev _ hd (by rw [tailN_length]; omega) 0 (by omega)) ?_
    by_cases h0 : sum0 (tailN s) 0 = 0
    · rw [if_pos h0]
      exact Ev.ifp (by rw [h0]; rfl) (Ev.now _)
    · rw [if_neg h0]
      exact Ev.ifn (by omega) (Ev.now _)
  · simp only [if_neg hf]
    exact Ev.now _
theorem rValid_ev (s : ByteArray) : Ev (fun k => wigeonref01_Valid.f k s) (ValidP s) := by
  unfold wigeonref01_Valid.f ValidP
  refine Ev.bind (formed_ev s false) ?_
  by_cases hf : (formP s false).2 = true
  · simp only [if_pos hf]
    obtain ⟨h7, h8, e, h⟩ := formP_true hf
    obtain ⟨et, hd⟩ := tail_cast h7 h
    refine Ev.bind (tail_ev s h7 (by omega)) ?_
    rw [et]
    refine Ev.bind (rsum_ev _ hd (by rw [tailN_length]; omega)) ?_
    by_cases h0 : sum0 (tailN s) 0 = 0
    · rw [if_pos h0]
      exact Ev.ifp (by rw [h0]; rfl) (Ev.now _)
    · rw [if_neg h0]
      exact Ev.ifn (by omega) (Ev.now _)
  · simp only [if_neg hf]
    exact Ev.now _
theorem ValidP_ok {s : ByteArray} (h : ValidP s = 0) : (formP s false).2 = true ∧ sum0 (tailN s) 0 = 0 := by
  unfold ValidP at h
  by_cases h1 : (formP s false).2 = true
  · rw [if_pos h1] at h
    by_cases h2 : sum0 (tailN s) 0 = 0
    · exact ⟨h1, h2⟩
    · rw [if_neg h2] at h
      exact absurd h (by decide)
  · rw [if_neg h1] at h
    exact absurd h (by decide)
theorem IsWorn_eq {s : ByteArray} (hs : s.size ≤ 140737488351232) : ring_IsWorn.f s = some (formP s true).2 := by
  unfold ring_IsWorn.f
  rw [formw_eq (by omega)]
  simp only [Option.bind_some]
theorem rIsWorn_ev (s : ByteArray) : Ev (fun k => wigeonref01_IsWorn.f k s) (formP s true).2 := by
  unfold wigeonref01_IsWorn.f
  exact Ev.bind (formed_ev s true) (Ev.now _)

end Go.Proofs.Ytlbhighbhchdmaa.Pure
