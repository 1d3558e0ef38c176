/- The law WhistleCodes, as a statement on lists alone: whether no signal begins with another one, the sum of a code and whether it is safe are the reference's answers, and they hang together. For all codes. -/
import Derived.Test.YtpkafcoflgbnaaaQx19
import Derived.Test.YtpkafcoflgbnaaaLibK
namespace Go.Proofs.Ytpkafcoflgbnaaa.Pure
open Go.RowKit Go.Proofs.Ytpkafcoflgbnaaa.Q Go.Proofs.YtpkafcoflgbnaaaW.PrintWords Go.Proofs.YtpkafcoflgbnaaaW.PrintLast
set_option linter.unusedVariables false

theorem WhistleCodes (l0 : List ByteArray) (h0 : (l0.length ≤ maxLen ∧ l0.length * 16 ≤ 140737488351232 ∧ ∀ y ∈ l0, y.size ≤ 140737488351232)) : ∃ k, wigeonlaw05_WhistleCodes.f k l0 = some true := by
  refine Ev.rounds ?_
  have hS : Sized l0 := h0.2.2
  unfold wigeonlaw05_WhistleCodes.f
  refine Ev.bind (long_ev l0 (by unfold bigC; omega)) ?_
  cases longP l0
  · refine Ev.ifn (by decide) (Ev.bind (pre_ev hS) (Ev.bind (rpre_ev hS) (Ev.bind (kraft_ev hS) (Ev.bind (rkraft_ev hS) (Ev.bind (safe_ev hS) (Ev.bind (rsafe_ev hS) ?_))))))
    refine Ev.ifn (by simp) (Ev.ifp rfl (Ev.ifn (by simp) (Ev.ifp rfl (Ev.ifn (by simp) (Ev.ifp rfl ?_)))))
    by_cases hv : valP l0 = 0
    · have v := valP_zero.1 hv
      rw [show preP l0 = (preB l0, 0) from if_pos hv, show safeP l0 = (safeB l0, 0) from if_pos hv, show kraftP l0 = ((redI (fillN (lensC l0)) 12).1, (redI (fillN (lensC l0)) 12).2, 0) from if_pos hv]
      have hk : safeB l0 = true → (redI (fillN (lensC l0)) 12).1 ≤ (redI (fillN (lensC l0)) 12).2 := fun h => by
        have := (red_le (fillN (lensC l0)) 12).2 (safe_kraft v (safeB_iff.1 h))
        unfold redI
        omega
      cases hp : preB l0
      · refine Ev.ifn (by decide) ?_
        cases hs : safeB l0
        · exact Ev.ifn (by decide) (known_bind rfl)
        · exact Ev.ifp rfl (Ev.ifp (hk hs) (known_bind rfl))
      · have hs := safeB_iff.2 (pre_safe hp)
        refine Ev.ifp rfl ?_
        rw [hs]
        exact Ev.ifp rfl (Ev.ifp (hk hs) (known_bind rfl))
    · rw [show preP l0 = (false, valP l0) from if_neg hv, show safeP l0 = (false, valP l0) from if_neg hv]
      exact Ev.ifn (by simp) (Ev.ifn (by simp) (known_bind rfl))
  · exact Ev.ifp rfl (known_bind rfl)
end Go.Proofs.Ytpkafcoflgbnaaa.Pure
