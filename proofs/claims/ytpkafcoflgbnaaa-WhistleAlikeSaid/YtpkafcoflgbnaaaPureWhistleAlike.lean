import Derived.Test.YtpkafcoflgbnaaaQx27
import Derived.Test.YtpkafcoflgbnaaaZAlike
/- The law WhistleAlike, as a statement on lists alone: two messages that sound alike are found just where the code is not safe, and the reference accepts them. For all codes. -/
namespace Go.Proofs.Ytpkafcoflgbnaaa.Pure
open Go.RowKit Go.Proofs.Ytpkafcoflgbnaaa.Q Go.Proofs.YtpkafcoflgbnaaaW.PrintWords Go.Proofs.YtpkafcoflgbnaaaW.PrintLast
set_option linter.unusedVariables false

theorem alike_j0 (C : List ByteArray) (a b : List Int) (found : Bool) (hS : Sized C) (h : if found = true then chkP C a b = 0 ∧ a.length ≤ 400 ∧ b.length ≤ 400 else a = [] ∧ b = []) : Ev (fun k => wigeonlaw05_WhistleAlike.j0 k C a b found false) true := by
  refine Ev.step (fun k => by rw [wigeonlaw05_WhistleAlike.j0]) (Ev.ifn (by decide) ?_)
  cases found
  · obtain ⟨rfl, rfl⟩ : a = [] ∧ b = [] := h
    exact Ev.ifn (by decide) (Ev.ifp rfl (Ev.ifp rfl (known_bind rfl)))
  · obtain ⟨h1, h2, h3⟩ : chkP C a b = 0 ∧ a.length ≤ 400 ∧ b.length ≤ 400 := h
    refine Ev.ifp rfl (Ev.bind (rchk_ev C a b hS (by unfold bigC; omega) (by unfold bigC; omega)) (Ev.ifp h1 (known_bind rfl)))
theorem WhistleAlike (l0 : List ByteArray) (h0 : (l0.length ≤ maxLen ∧ l0.length * 16 ≤ 140737488351232 ∧ ∀ y ∈ l0, y.size ≤ 140737488351232)) : ∃ k, wigeonlaw05_WhistleAlike.f k l0 = some true := by
  refine Ev.rounds ?_
  have hS : Sized l0 := h0.2.2
  unfold wigeonlaw05_WhistleAlike.f
  refine Ev.bind (long_ev l0 (by unfold bigC; omega)) ?_
  cases longP l0
  · refine Ev.ifn (by decide) ?_
    by_cases hv : valP l0 = 0
    · have v := valP_zero.1 hv
      rcases follow_goes v 157 0 _ (PF.start v) (by omega) with ⟨h1, h2⟩ | ⟨a, b, h1, h2, h3, h4⟩
      · refine Ev.bind (alike_good hS hv h1) (Ev.bind (rsafe_ev hS) ?_)
        have hs : safeP l0 = (true, 0) := by unfold safeP; rw [if_pos hv, safeB_iff.2 h2]
        rw [hs]
        exact Ev.ifp rfl (Ev.ifp rfl (alike_j0 l0 [] [] false hS ⟨rfl, rfl⟩))
      · refine Ev.bind (alike_good hS hv h1) (Ev.bind (rsafe_ev hS) ?_)
        rw [alike_unsafe h4]
        refine Ev.ifp rfl (Ev.ifp rfl (alike_j0 l0 (ints a) (ints b) true hS ⟨h4, ?_, ?_⟩))
        · unfold ints; rw [List.length_map]; exact h2
        · unfold ints; rw [List.length_map]; exact h3
    · refine Ev.bind (alike_bad_ev hS hv) (Ev.bind (rsafe_ev hS) ?_)
      have hs : safeP l0 = (false, valP l0) := by unfold safeP; rw [if_neg hv]
      rw [hs]
      exact Ev.ifp rfl (Ev.ifn hv (alike_j0 l0 [] [] false hS ⟨rfl, rfl⟩))
  · exact Ev.ifp rfl (known_bind rfl)
end Go.Proofs.Ytpkafcoflgbnaaa.Pure
