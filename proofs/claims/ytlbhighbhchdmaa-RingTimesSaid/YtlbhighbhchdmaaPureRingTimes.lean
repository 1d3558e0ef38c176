/- The law RingTimes, as a statement on numbers alone: products, inverses and turns of digits are the reference's. For all x, y, n of 64 bits. -/
import Derived.Test.YtlbhighbhchdmaaQx5
import Derived.Test.YtlbhighbhchdmaaLibC
namespace Go.Proofs.Ytlbhighbhchdmaa.Pure
open Go.RowKit Go.Proofs.Ytlbhighbhchdmaa.Q Go.Proofs.YtlbhighbhchdmaaW.PrintWords Go.Proofs.YtlbhighbhchdmaaW.PrintLast

theorem RingTimes : wigeonlaw01_RingTimes.Pure := by
  intro x y n _ _ _
  refine Ev.rounds (?_ : Ev (fun k => wigeonlaw01_RingTimes.f k x y n) true)
  unfold wigeonlaw01_RingTimes.f
  refine Ev.bind (Times_ev x y) (Ev.bindc (rTimes_eq x y) (Ev.bindc (Undo_eq x) (Ev.bind (rUndo_ev x) (Ev.bind (Turn_ev x n) (Ev.bind (rTurn_ev x n) ?_)))))
  exact Ev.ifp rfl (Ev.ifp rfl (Ev.ifp rfl (Ev.ifp rfl (Ev.ifp rfl (Ev.ifp rfl known_bind)))))

end Go.Proofs.Ytlbhighbhchdmaa.Pure
