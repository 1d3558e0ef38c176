import Derived.Test.YtpkafcoflgbnaaaQx16
import Derived.Test.YtpkafcoflgbnaaaLibI
namespace Go.Proofs.Ytpkafcoflgbnaaa.Pure
open Go.RowKit Go.Proofs.Ytpkafcoflgbnaaa.Q Go.Proofs.YtpkafcoflgbnaaaW.PrintWords Go.Proofs.YtpkafcoflgbnaaaW.PrintLast
set_option linter.unusedVariables false

/-! WhistleBacks, plainly. -/

theorem WhistleBacks (l0 : List ByteArray) (h0 : (l0.length ≤ maxLen ∧ l0.length * 16 ≤ 140737488351232 ∧ ∀ y ∈ l0, y.size ≤ 140737488351232)) : ∃ k, wigeonlaw05_WhistleBacks.f k l0 = some true := by
  refine Ev.rounds ?_
  have hS : Sized l0 := h0.2.2
  unfold wigeonlaw05_WhistleBacks.f
  refine Ev.bind (long_ev l0 (by unfold bigC; omega)) ?_
  cases longP l0
  · refine Ev.ifn (by decide) ?_
    refine Ev.bind (back_ev hS) (Ev.bind (rback_ev hS) ?_)
    by_cases hv : valP l0 = 0
    · have v := valP_zero.1 hv
      have v2 := backP_valid v
      have hb : backR l0 = (backP l0, 0) := if_pos hv
      have hb2 : backR (backP l0) = (l0, 0) := by unfold backR; rw [if_pos (valP_zero.2 v2), backP_back]
      have hf := v2.few
      have hf1 := v.few
      rw [hb]
      refine Ev.bind (sameT_ev _ _ (Nat.lt_of_le_of_lt hf (by decide))) (Ev.ifp (by simp) ?_)
      refine Ev.step (fun k => by rw [wigeonlaw05_WhistleBacks.j0]) (Ev.ifn (by simp) (Ev.ifp rfl ?_))
      refine Ev.bind (back_ev (backP_sized hS)) (Ev.bind (safe_ev hS) (Ev.bind (safe_ev (backP_sized hS)) ?_))
      have s1 : safeP l0 = (safeB l0, 0) := if_pos hv
      have s2 : safeP (backP l0) = (safeB l0, 0) := by unfold safeP; rw [if_pos (valP_zero.2 v2), back_safe v]
      rw [hb2, s1, s2]
      exact Ev.ifp rfl (Ev.bind (sameT_ev _ _ (Nat.lt_of_le_of_lt hf1 (by decide))) (Ev.ifp (by simp) (Ev.ifp rfl (Ev.ifp rfl (Ev.ifp (by simp) (known_bind rfl))))))
    · have hb : backR l0 = ([], valP l0) := if_neg hv
      rw [hb]
      refine Ev.bind (sameT_ev [] [] (by decide)) (Ev.ifp (by simp) ?_)
      exact Ev.step (fun k => by rw [wigeonlaw05_WhistleBacks.j0]) (Ev.ifn (by simp) (Ev.ifn hv (known_bind rfl)))
  · exact Ev.ifp rfl (known_bind rfl)
end Go.Proofs.Ytpkafcoflgbnaaa.Pure
