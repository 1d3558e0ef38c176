import Derived.Test.YtjphklemnhgkiaaDoorQx0
import Derived.Test.YtjphklemnhgkiaaDoorQx2
import Derived.Test.YtjphklemnhgkiaaDoorLibB
import Derived.Test.YtjphklemnhgkiaaDoorLibK
namespace Go.Proofs.YtjphklemnhgkiaaDoor.Pure
open Go.RowKit Go.Proofs.YtjphklemnhgkiaaDoor.Q Go.Proofs.YtjphklemnhgkiaaDoorW.PrintWords Go.Proofs.YtjphklemnhgkiaaDoorW.PrintLast
set_option linter.unusedVariables false

/-! What a pay gives out; the core by the greatest excess. -/
def g31 (x : S31) : Prop := (Lit.int .i64 x.f0).wf = true ∧ (x.f1.length ≤ maxLen ∧ x.f1.length * 8 ≤ 140737488351232 ∧ ∀ y ∈ x.f1, (Lit.int .i64 y).wf = true)
def g59 (x : S59) : Prop := (Lit.int .i64 x.f0).wf = true ∧ (Lit.int .i64 x.f1).wf = true
def g25 (x : S25) : Prop := (Lit.int .i64 x.f0).wf = true ∧ (x.f1.length ≤ maxLen ∧ x.f1.length * 16 ≤ 140737488351232 ∧ ∀ y ∈ x.f1, g59 y)
def longP (v w : List Int) : Bool := decide (200 < v.length) || decide (200 < w.length)
theorem long_eq (v w : List Int) : wigeonlaw08_long.f v w = some (longP v w) := by
  unfold wigeonlaw08_long.f longP
  by_cases h : 200 < v.length
  · rw [if_pos (by omega), decide_eq_true h, Bool.true_or]
  · rw [if_neg (by omega), decide_eq_false h, Bool.false_or]
    congr 1
    exact decide_eq_decide.2 (by omega)
theorem long_no {v w : List Int} (h : longP v w = false) : v.length ≤ 200 ∧ w.length ≤ 200 := by
  unfold longP at h
  simp only [Bool.or_eq_false_iff, decide_eq_false_iff_not] at h
  omega
theorem gs_full (num : List Int) (m : Nat) : ∀ i, num.length + i ≤ m → gs num (2 ^ m - 1) i = num.sum := by
  induction num with
  | nil => intro i _; rfl
  | cons x xs ih =>
    intro i hi
    rw [List.length_cons] at hi
    unfold gs
    rw [ih (i + 1) (by omega), Nat.testBit_two_pow_sub_one, if_pos (decide_eq_true (by omega)), List.sum_cons]
theorem gs_none (num : List Int) : ∀ i, gs num 0 i = 0 := by
  induction num with
  | nil => intro i; rfl
  | cons x xs ih =>
    intro i
    unfold gs
    rw [ih, Nat.zero_testBit, if_neg (by decide)]
    rfl
theorem sum_bound (num : List Int) (h : ∀ x ∈ num, -10000000 ≤ x ∧ x ≤ 10000000) : -10000000 * (num.length : Int) ≤ num.sum ∧ num.sum ≤ 10000000 * (num.length : Int) := by
  induction num with
  | nil => simp
  | cons x xs ih =>
    have h1 := h x List.mem_cons_self
    have h2 := ih (fun y hy => h y (List.mem_cons_of_mem _ hy))
    rw [List.sum_cons, List.length_cons]
    omega
theorem last_ex {v : List Int} {d : Int} {num : List Int} (H : Paid v d num) : ex v d num (v.length - 1) = d * v.getD (v.length - 1) 0 - num.sum := by
  unfold ex
  rw [H.pow, gs_full num num.length 0 (by omega)]
theorem zero_ex {v : List Int} {d : Int} {num : List Int} (H : Paid v d num) : ex v d num 0 = 0 := by
  unfold ex
  rw [gs_none, H.v0]
  omega
theorem core_worst {v : List Int} {d : Int} {num : List Int} (H : Paid v d num) (hl : v.length ≠ 2) : Core v d num 0 ↔ ex v d num (worst v d num) ≤ 0 ∧ num.sum = d * v.getD (v.length - 1) 0 := by
  have h2 := H.v2
  have h4 : 4 ≤ v.length := by
    have hp := H.pow
    have h5 := H.n5
    rcases (by omega : num.length = 0 ∨ num.length = 1 ∨ 2 ≤ num.length) with e | e | e
    · rw [e] at hp; omega
    · rw [e] at hp; omega
    · rw [hp]; exact Nat.pow_le_pow_right (show 0 < 2 by decide) e
  obtain ⟨h1, hm, hw⟩ := am_max v d num (v.length - 3) 1 2
  have hle := last_ex H
  constructor
  · rintro ⟨a, b⟩
    refine ⟨a _ (Nat.zero_le _) ?_, by omega⟩
    unfold worst
    omega
  · rintro ⟨a, b⟩
    have hb : ex v d num (v.length - 1) = 0 := by omega
    refine ⟨fun g _ hg => ?_, hb⟩
    rcases (by omega : g = 0 ∨ g = 1 ∨ (2 ≤ g ∧ g < 2 + (v.length - 3)) ∨ g = v.length - 1) with e | e | e | e
    · rw [e, zero_ex H]; omega
    · rw [e]; exact Int.le_trans h1 a
    · exact Int.le_trans (hm g e.1 e.2) a
    · rw [e]; omega
end Go.Proofs.YtjphklemnhgkiaaDoor.Pure
