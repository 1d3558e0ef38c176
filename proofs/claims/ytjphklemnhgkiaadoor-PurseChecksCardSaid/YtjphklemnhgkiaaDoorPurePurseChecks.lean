/- The law PurseChecks, as a statement on lists alone: which pays are in the core and which group has the greatest excess are the reference's answers. For all purses and pays. -/
import Derived.Test.YtjphklemnhgkiaaDoorQx0
import Derived.Test.YtjphklemnhgkiaaDoorQx30
import Derived.Test.YtjphklemnhgkiaaDoorLibD
namespace Go.Proofs.YtjphklemnhgkiaaDoor.Pure
open Go.RowKit Go.Proofs.YtjphklemnhgkiaaDoor.Q Go.Proofs.YtjphklemnhgkiaaDoorW.PrintWords Go.Proofs.YtjphklemnhgkiaaDoorW.PrintLast
set_option linter.unusedVariables false

theorem PurseChecks (l0 : List Int) (x1 : S31) (h0 : (l0.length ≤ maxLen ∧ l0.length * 8 ≤ 140737488351232 ∧ ∀ y ∈ l0, (Lit.int .i64 y).wf = true)) (h1 : g31 x1) : ∃ k, wigeonlaw08_PurseChecks.f k l0 x1.f0 x1.f1 = some true := by
  refine Ev.rounds (?_ : Ev (fun k => wigeonlaw08_PurseChecks.f k l0 x1.f0 x1.f1) true)
  unfold wigeonlaw08_PurseChecks.f
  refine Ev.bindc (long_eq l0 x1.f1) ?_
  cases hlg : longP l0 x1.f1 with
  | true => exact Ev.ifp rfl known_bind
  | false =>
    have hl := long_no hlg
    refine Ev.ifn (by decide) ?_
    by_cases H : okP l0 x1.f0 x1.f1 = true
    · obtain ⟨r, hr, _, hc⟩ := CheckCore_ev H
      obtain ⟨q, hq, _, hd⟩ := rCheckCore_ev H
      have e : r = q := by
        rename_i a b
        by_cases hC : Core l0 x1.f0 x1.f1 0
        · rw [hc.2 hC, hd.2 hC]
        · rcases a with a | a
          · exact absurd (hc.1 a) hC
          · rcases b with b | b
            · exact absurd (hd.1 b) hC
            · rw [a, b]
      refine Ev.bind (Excess_ev H) (Ev.bind (rExcess_ev H) (Ev.bind hr (Ev.bind hq ?_)))
      exact Ev.ifp e (Ev.ifp rfl (Ev.ifp rfl (Ev.ifp rfl known_bind)))
    · refine Ev.bind (Excess_bad (by omega) H) (Ev.bind (rExcess_bad (by omega) (by omega) H) (Ev.bind (CheckCore_bad (by omega) H) (Ev.bind (rCheckCore_bad (by omega) (by omega) H) ?_)))
      exact Ev.ifp rfl (Ev.ifp rfl (Ev.ifp rfl (Ev.ifp rfl known_bind)))
end Go.Proofs.YtjphklemnhgkiaaDoor.Pure
