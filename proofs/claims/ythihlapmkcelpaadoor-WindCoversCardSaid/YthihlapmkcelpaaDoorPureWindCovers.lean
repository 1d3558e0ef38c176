/- The law WindCovers, as a statement on lists alone: which chosen pipes cover all points is the reference's. For all lists of 64 bits. -/
import Derived.Test.YthihlapmkcelpaaDoorQx0
import Derived.Test.YthihlapmkcelpaaDoorQx7
import Derived.Test.YthihlapmkcelpaaDoorQx9
import Derived.Test.YthihlapmkcelpaaDoorLibQ
namespace Go.Proofs.YthihlapmkcelpaaDoor.Pure
open Go.RowKit Go.Proofs.YthihlapmkcelpaaDoor.Q Go.Proofs.YthihlapmkcelpaaDoorW.PrintWords Go.Proofs.YthihlapmkcelpaaDoorW.PrintLast

theorem WindCovers (l0 : List S33) (l1 : List Int) (_ : (l0.length ≤ maxLen ∧ l0.length * 16 ≤ 140737488351232 ∧ ∀ y ∈ l0, g33 y)) (_ : (l1.length ≤ maxLen ∧ l1.length * 8 ≤ 140737488351232 ∧ ∀ y ∈ l1, (Lit.int .i64 y).wf = true)) : ∃ k, wigeonlaw03_WindCovers.f k l0 l1 = some true := by
  refine Ev.rounds (?_ : Ev (fun k => wigeonlaw03_WindCovers.f k l0 l1) true)
  unfold wigeonlaw03_WindCovers.f
  refine Ev.bindc (show wigeonlaw03_Many.f l0 = some (decide ((l0.length : Int) > 60)) from rfl) ?_
  have known : Ev (fun k => wigeonlaw03_WindCovers.j0 k l0 l1 true) true := Ev.step (fun k => by rw [wigeonlaw03_WindCovers.j0]) (Ev.ifp rfl known_bind)
  by_cases h1 : decide ((l0.length : Int) > 60) = true
  · exact Ev.ifp h1 known
  refine Ev.ifn h1 ?_
  by_cases h2 : (l1.length : Int) > 60
  · rw [decide_eq_true h2]
    exact known
  rw [decide_eq_false h2]
  refine Ev.step (fun k => by rw [wigeonlaw03_WindCovers.j0]) ?_
  refine Ev.ifn (by decide) (Ev.bind (covers_ev l0 l1 (by omega)) (Ev.bind (ref_covers_ev l0 l1 (by omega)) ?_))
  exact Ev.ifp (by simp) (Ev.ifp rfl known_bind)

end Go.Proofs.YthihlapmkcelpaaDoor.Pure
