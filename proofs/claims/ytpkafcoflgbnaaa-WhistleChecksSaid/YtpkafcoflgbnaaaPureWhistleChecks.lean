/- The law WhistleChecks, as a statement on lists alone: which messages are accepted as sounding alike is the reference's answer, and then the code is not safe. For all codes and messages. -/
import Derived.Test.YtpkafcoflgbnaaaQx25
import Derived.Test.YtpkafcoflgbnaaaLibG
namespace Go.Proofs.Ytpkafcoflgbnaaa.Pure
open Go.RowKit Go.Proofs.Ytpkafcoflgbnaaa.Q Go.Proofs.YtpkafcoflgbnaaaW.PrintWords Go.Proofs.YtpkafcoflgbnaaaW.PrintLast
set_option linter.unusedVariables false

theorem checks_j0 (C : List ByteArray) (a b : List Int) (t : Bool) (hS : Sized C) (ha : a.length < bigC) (hb : b.length < bigC) : Ev (fun k => wigeonlaw05_WhistleChecks.j0 k C a b t) true := by
  cases t
  · refine Ev.step (fun k => by rw [wigeonlaw05_WhistleChecks.j0]) (Ev.ifn (by decide) ?_)
    refine Ev.bind (chk_ev C a b hS ha hb) (Ev.bind (rchk_ev C a b hS ha hb) (Ev.ifp rfl (Ev.bind (chk_ev C b a hS hb ha) ?_)))
    rw [chk_comm C b a]
    refine Ev.step (fun k => by rw [wigeonlaw05_WhistleChecks.j1]) (Ev.ifn (by simp) (Ev.bind (safe_ev hS) ?_))
    by_cases h : chkP C a b = 0
    · refine Ev.ifp h ?_
      rw [alike_unsafe h]
      exact Ev.ifn (by decide) (known_bind rfl)
    · exact Ev.ifn h (known_bind rfl)
  · exact Ev.step (fun k => by rw [wigeonlaw05_WhistleChecks.j0]) (Ev.ifp rfl (known_bind rfl))
theorem WhistleChecks (l0 : List ByteArray) (l1 : List Int) (l2 : List Int) (h0 : (l0.length ≤ maxLen ∧ l0.length * 16 ≤ 140737488351232 ∧ ∀ y ∈ l0, y.size ≤ 140737488351232)) (h1 : (l1.length ≤ maxLen ∧ l1.length * 8 ≤ 140737488351232 ∧ ∀ y ∈ l1, (Lit.int .i64 y).wf = true)) (h2 : (l2.length ≤ maxLen ∧ l2.length * 8 ≤ 140737488351232 ∧ ∀ y ∈ l2, (Lit.int .i64 y).wf = true)) : ∃ k, wigeonlaw05_WhistleChecks.f k l0 l1 l2 = some true := by
  refine Ev.rounds ?_
  have hS : Sized l0 := h0.2.2
  have ha : l1.length < bigC := by unfold bigC; omega
  have hb : l2.length < bigC := by unfold bigC; omega
  unfold wigeonlaw05_WhistleChecks.f
  refine Ev.bind (long_ev l0 (by unfold bigC; omega)) ?_
  cases longP l0
  · refine Ev.ifn (by decide) (Ev.bindc rfl ?_)
    cases h : decide ((l1.length : Int) > 500)
    · exact Ev.ifn (by decide) (Ev.bindc rfl (checks_j0 l0 l1 l2 _ hS ha hb))
    · exact Ev.ifp rfl (checks_j0 l0 l1 l2 _ hS ha hb)
  · exact Ev.ifp rfl (checks_j0 l0 l1 l2 _ hS ha hb)
end Go.Proofs.Ytpkafcoflgbnaaa.Pure
