import Derived.Test.YtpkafcoflgbnaaaQx29
import Derived.Test.YtpkafcoflgbnaaaQx34
import Derived.Test.YtpkafcoflgbnaaaZCosts
namespace Go.Proofs.Ytpkafcoflgbnaaa.Pure
open Go.RowKit Go.Proofs.Ytpkafcoflgbnaaa.Q Go.Proofs.YtpkafcoflgbnaaaW.PrintWords Go.Proofs.YtpkafcoflgbnaaaW.PrintLast
set_option linter.unusedVariables false

/-! WhistleCosts, plainly. -/

theorem cheap_any (ws : List Int) : ∃ L : List Int, Ev (fun k => whistle_Cheapest.f k ws) (L, if wOk ws = true then cheapC ws else 0, if wOk ws = true then 0 else 1) := by
  by_cases hw : wOk ws = true
  · rw [if_pos hw, if_pos hw]; exact ⟨_, cheap_ev hw⟩
  · rw [if_neg hw, if_neg hw]; exact ⟨_, cheap_none (Bool.eq_false_iff.2 hw)⟩
theorem WhistleCosts (l0 : List Int) (l1 : List ByteArray) (h0 : (l0.length ≤ maxLen ∧ l0.length * 8 ≤ 140737488351232 ∧ ∀ y ∈ l0, (Lit.int .i64 y).wf = true)) (h1 : (l1.length ≤ maxLen ∧ l1.length * 16 ≤ 140737488351232 ∧ ∀ y ∈ l1, y.size ≤ 140737488351232)) : ∃ k, wigeonlaw05_WhistleCosts.f k l0 l1 = some true := by
  refine Ev.rounds ?_
  have hS : Sized l1 := h1.2.2
  have hC : l1.length < bigC := by unfold bigC; omega
  unfold wigeonlaw05_WhistleCosts.f
  refine Ev.bind (long_ev l1 hC) ?_
  by_cases hlong : longP l1 = true
  · exact Ev.ifp hlong (Ev.step (fun k => by rw [wigeonlaw05_WhistleCosts.j0]) (Ev.ifp rfl (known_bind rfl)))
  refine Ev.ifn hlong (Ev.step (fun k => by rw [wigeonlaw05_WhistleCosts.j0]) ?_)
  by_cases h60 : (l0.length : Int) > 60
  · exact Ev.ifp (decide_eq_true h60) (known_bind rfl)
  refine Ev.ifn (by simpa using h60) (Ev.bind (pcost_ev l0 hS) (Ev.bind (rcost_ev l0 hS) (Ev.ifp rfl (Ev.step (fun k => by rw [wigeonlaw05_WhistleCosts.j1]) (Ev.ifn (by simp) ?_)))))
  obtain ⟨L, hch⟩ := cheap_any l0
  refine Ev.bind (safe_ev hS) (Ev.bind hch ?_)
  by_cases hv : valP l1 = 0
  · rw [costV_pay hv]
    by_cases hw : wOk l0 = true ∧ l0.length = l1.length
    · rw [if_pos hw, if_pos hw.1, if_pos hw.1]
      have v := valP_zero.1 hv
      have hsp : safeP l1 = (safeB l1, 0) := by unfold safeP; rw [if_pos hv]
      rw [hsp]
      refine Ev.ifp rfl (Ev.ifp rfl (Ev.ifp rfl ?_))
      by_cases hs : safeB l1 = true
      · exact Ev.ifp hs (Ev.ifp (cheap_least (wOk_iff hw.1) v hw.2 (by have := safe_kraft v (safeB_iff.1 hs); omega)) (known_bind rfl))
      · exact Ev.ifn hs (known_bind rfl)
    · rw [if_neg hw]
      exact Ev.ifn (by decide) (known_bind rfl)
  · have : costV l0 l1 = (0, valP l1) := by unfold costV; rw [if_pos hv]
    rw [this]
    exact Ev.ifn hv (known_bind rfl)
end Go.Proofs.Ytpkafcoflgbnaaa.Pure
