/- The law WindApart, as a statement on lists alone: which winds are apart is the document's answer, and those that are returned are apart and as many as can be. For all lists of 64 bits. -/
import Derived.Test.YthihlapmkcelpaaDoorQx0
import Derived.Test.YthihlapmkcelpaaDoorQx7
import Derived.Test.YthihlapmkcelpaaDoorQx23
import Derived.Test.YthihlapmkcelpaaDoorLibX
namespace Go.Proofs.YthihlapmkcelpaaDoor.Pure
open Go.RowKit Go.Proofs.YthihlapmkcelpaaDoor.Q Go.Proofs.YthihlapmkcelpaaDoorW.PrintWords Go.Proofs.YthihlapmkcelpaaDoorW.PrintLast

theorem WindApart (l0 : List S33) (l1 : List Int) (_ : (l0.length ≤ maxLen ∧ l0.length * 16 ≤ 140737488351232 ∧ ∀ y ∈ l0, g33 y)) (_ : (l1.length ≤ maxLen ∧ l1.length * 8 ≤ 140737488351232 ∧ ∀ y ∈ l1, (Lit.int .i64 y).wf = true)) : ∃ k, wigeonlaw03_WindApart.f k l0 l1 = some true := by
  refine Ev.rounds (?_ : Ev (fun k => wigeonlaw03_WindApart.f k l0 l1) true)
  unfold wigeonlaw03_WindApart.f
  refine Ev.bindc (show wigeonlaw03_Many.f l0 = some (decide ((l0.length : Int) > 60)) from rfl) ?_
  have known : Ev (fun k => wigeonlaw03_WindApart.j0 k l0 l1 true) true := Ev.step (fun k => by rw [wigeonlaw03_WindApart.j0]) (Ev.ifp rfl known_bind)
  by_cases h1 : decide ((l0.length : Int) > 60) = true
  · exact Ev.ifp h1 known
  refine Ev.ifn h1 ?_
  by_cases h2 : (l1.length : Int) > 60
  · rw [decide_eq_true h2]
    exact known
  rw [decide_eq_false h2]
  refine Ev.step (fun k => by rw [wigeonlaw03_WindApart.j0]) ?_
  refine Ev.ifn (by decide) (Ev.bind (check_ev l0 l1 (by omega)) (Ev.bind (ref_check_ev l0 l1 (by omega)) (Ev.ifp rfl (Ev.bind (apart_ev l0) (Ev.bind (most_ev l0) ?_)))))
  by_cases h0 : pipesErr l0 = 0
  · rw [show apartR l0 = (apartL l0, 0) from if_pos h0, show mostP l0 = (((apartL l0).length : Int), 0) from if_pos h0]
    exact Ev.ifp rfl (Ev.ifp rfl (Ev.bind (isApart_ev l0 h0) (Ev.ifp rfl known_bind)))
  · rw [show apartR l0 = ([], pipesErr l0) from if_neg h0, show mostP l0 = (0, pipesErr l0) from if_neg h0]
    exact Ev.ifp rfl (Ev.ifn h0 (Ev.ifp rfl known_bind))

end Go.Proofs.YthihlapmkcelpaaDoor.Pure
