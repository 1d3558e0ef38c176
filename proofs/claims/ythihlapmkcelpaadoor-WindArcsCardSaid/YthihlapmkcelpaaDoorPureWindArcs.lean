/- The law WindArcs, as a statement on numbers alone: the points of an arc are the reference's, and they are this arc again. For all arcs of 64 bits. -/
import Derived.Test.YthihlapmkcelpaaDoorQx0
import Derived.Test.YthihlapmkcelpaaDoorQx2
import Derived.Test.YthihlapmkcelpaaDoorQx12
import Derived.Test.YthihlapmkcelpaaDoorQx13
import Derived.Test.YthihlapmkcelpaaDoorQx14
import Derived.Test.YthihlapmkcelpaaDoorLibS
namespace Go.Proofs.YthihlapmkcelpaaDoor.Pure
open Go.RowKit Go.Proofs.YthihlapmkcelpaaDoor.Q Go.Proofs.YthihlapmkcelpaaDoorW.PrintWords Go.Proofs.YthihlapmkcelpaaDoorW.PrintLast

theorem WindArcs_at (f wd : Int) : ∃ k, wigeonlaw03_WindArcs.f k f wd = some true := by
  refine Ev.rounds (?_ : Ev (fun k => wigeonlaw03_WindArcs.f k f wd) true)
  unfold wigeonlaw03_WindArcs.f
  refine Ev.bindc (show wind_Points.f f wd = some (pointsP f wd) from rfl) (Ev.bindc (show wigeonref03_Points.f f wd = some (pointsP f wd) from rfl) (Ev.bindc (validateArc_eq f wd) (Ev.bindc (ref_arc_val f wd) ?_)))
  refine Ev.ifp rfl (Ev.ifp rfl ?_)
  rw [show ((pointsP f wd).2 != (pointsP f wd).2) = false by simp]
  refine Ev.step (fun k => by rw [wigeonlaw03_WindArcs.j0]) ?_
  refine Ev.ifn (by decide) (Ev.bind (arcs_ev _) ?_)
  by_cases h : arcOk f wd = true
  · have hr := of_decide_eq_true h
    obtain ⟨p, rfl⟩ := Int.eq_ofNat_of_zero_le hr.1.1
    obtain ⟨r, rfl⟩ := Int.eq_ofNat_of_zero_le (show 0 ≤ wd by omega)
    have e : pointsP (p : Int) (r : Int) = (((maskN (inArc p (r : Int)) 32 : Nat) : Int), 0) := by unfold pointsP; rw [if_pos h, Int.toNat_natCast]
    rw [e]
    refine Ev.ifp rfl ?_
    by_cases h32 : (r : Int) = 32
    · rw [h32, arc_full]
      have e2 : arcsP ((4294967295 : Nat) : Int) = ([⟨0, 32⟩], 0) := by unfold arcsP; rw [if_pos (by decide), if_pos (by decide)]
      rw [e2]
      exact Ev.ifp rfl (Ev.ifp rfl (Ev.bind (sameA_ev _ (by show 1 ≤ 1000; omega)) (Ev.ifp rfl known_bind)))
    · rw [arc_again (by omega) (by omega) (by omega)]
      exact Ev.ifn h32 (Ev.ifp rfl (Ev.bind (sameA_ev _ (by show 1 ≤ 1000; omega)) (Ev.ifp rfl known_bind)))
  · have e : (pointsP f wd).2 = 1 := by unfold pointsP; rw [if_neg h]
    exact Ev.ifn (by rw [e]; decide) known_bind
theorem WindArcs (x0 : S33) (_ : g33 x0) : ∃ k, wigeonlaw03_WindArcs.f k x0.f0 x0.f1 = some true := WindArcs_at x0.f0 x0.f1

end Go.Proofs.YthihlapmkcelpaaDoor.Pure
