/- The law PurseWeighs, as a statement on lists alone: a pay in the core and a balance against the purse exclude each other. For all purses, pays and balances. -/
import Derived.Test.YtjphklemnhgkiaaDoorQx0
import Derived.Test.YtjphklemnhgkiaaDoorQx32
import Derived.Test.YtjphklemnhgkiaaDoorLibE
namespace Go.Proofs.YtjphklemnhgkiaaDoor.Pure
open Go.RowKit Go.Proofs.YtjphklemnhgkiaaDoor.Q Go.Proofs.YtjphklemnhgkiaaDoorW.PrintWords Go.Proofs.YtjphklemnhgkiaaDoorW.PrintLast
set_option linter.unusedVariables false

theorem weighs_j0 (v : List Int) (d : Int) (num : List Int) (e : Int) (ps : List S59) (b : Bool) (hn : v.length < 1000000000000000000) : Ev (fun k => wigeonlaw08_PurseWeighs.j0 k v b d num e ps) true := by
  cases b with
  | true => exact Ev.step (fun k => by rw [wigeonlaw08_PurseWeighs.j0]) (Ev.ifp rfl known_bind)
  | false =>
    refine Ev.step (fun k => by rw [wigeonlaw08_PurseWeighs.j0]) (Ev.ifn (by decide) ?_)
    by_cases H : okP v d num = true
    · obtain ⟨r, hr, _, hc⟩ := CheckCore_ev H
      refine Ev.bind hr ?_
      by_cases h0 : r = 0
      · obtain ⟨q, hq, hb⟩ := CheckBalance_ev v e ps hn
        refine Ev.ifp h0 (Ev.bind hq (Ev.ifn ?_ known_bind))
        intro hz
        obtain ⟨_, h1, h2⟩ := hb hz
        exact exclude (paid_of H) (hc.1 h0) h1 h2
      · exact Ev.ifn h0 known_bind
    · exact Ev.bind (CheckCore_bad hn H) (Ev.ifn (by decide) known_bind)
theorem PurseWeighs (l0 : List Int) (x1 : S31) (x2 : S25) (h0 : (l0.length ≤ maxLen ∧ l0.length * 8 ≤ 140737488351232 ∧ ∀ y ∈ l0, (Lit.int .i64 y).wf = true)) (h1 : g31 x1) (h2 : g25 x2) : ∃ k, wigeonlaw08_PurseWeighs.f k l0 x1.f0 x1.f1 x2.f0 x2.f1 = some true := by
  refine Ev.rounds (?_ : Ev (fun k => wigeonlaw08_PurseWeighs.f k l0 x1.f0 x1.f1 x2.f0 x2.f1) true)
  unfold wigeonlaw08_PurseWeighs.f
  refine Ev.bindc (long_eq l0 x1.f1) ?_
  have hn : l0.length < 1000000000000000000 := by omega
  cases hlg : longP l0 x1.f1 with
  | true => exact Ev.ifp rfl (weighs_j0 _ _ _ _ _ _ hn)
  | false => exact Ev.ifn (by decide) (weighs_j0 _ _ _ _ _ _ hn)
end Go.Proofs.YtjphklemnhgkiaaDoor.Pure
