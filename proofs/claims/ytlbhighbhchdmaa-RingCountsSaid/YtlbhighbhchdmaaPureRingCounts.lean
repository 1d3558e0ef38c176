/- The law RingCounts, as a statement on texts alone: how many rings fit a worn one, and the first of them, are the reference's answers, and the first one fits. For all texts. -/
import Derived.Test.YtlbhighbhchdmaaQx8
import Derived.Test.YtlbhighbhchdmaaQx20
import Derived.Test.YtlbhighbhchdmaaQx21
import Derived.Test.YtlbhighbhchdmaaQx23
import Derived.Test.YtlbhighbhchdmaaLibH
namespace Go.Proofs.Ytlbhighbhchdmaa.Pure
open Go.RowKit Go.Proofs.Ytlbhighbhchdmaa.Q Go.Proofs.YtlbhighbhchdmaaW.PrintWords Go.Proofs.YtlbhighbhchdmaaW.PrintLast

theorem RingCounts : wigeonlaw01_RingCounts.Pure := by
  intro s hs
  refine Ev.rounds (?_ : Ev (fun k => wigeonlaw01_RingCounts.f k s) true)
  unfold wigeonlaw01_RingCounts.f wigeonlaw01_long.f
  refine Ev.some_bind ?_
  by_cases h : decide ((s.size : Int) > 200) = true
  · exact Ev.ifp h known_bind
  · refine Ev.ifn h (Ev.bindc (Count_eq hs) (Ev.bind (rCount_ev s) (Ev.bindc (First_eq hs) (Ev.bind (rFirst_ev s) ?_))))
    refine Ev.ifp rfl (Ev.ifp rfl (Ev.ifp rfl (Ev.ifn (by simp) ?_)))
    refine Ev.step (fun k => by rw [wigeonlaw01_RingCounts.j0]) (Ev.ifn (by simp) ?_)
    by_cases hf : (formP s true).2 = true
    · obtain ⟨h7, h8, _, hok⟩ := formP_true hf
      by_cases hz : gN (waysT s 6) 0 = 0
      · have e1 : firstP s = (⟨#[]⟩, false, 0) := by unfold firstP; rw [if_pos hf, if_pos hz]
        have e2 : countP s = (0, 0) := by unfold countP; rw [if_pos hf, (mulQ_zero _ _ _).2 hz]; rfl
        rw [e1, e2]
        exact Ev.ifn (by decide) (Ev.ifp rfl (Ev.ifp rfl known_bind))
      · have hg : goodB s = true := decide_eq_true hz
        have e1 : firstP s = (fstB (s.size - 6) s s.size, true, 0) := by unfold firstP; rw [if_pos hf, if_neg hz]
        have e2 : countP s = (((mulQ s (gN (waysT s 6) 0) (s.size - 6) : Nat) : Int), 0) := by unfold countP; rw [if_pos hf]
        have hm : mulQ s (gN (waysT s 6) 0) (s.size - 6) ≠ 0 := fun q => hz ((mulQ_zero _ _ _).1 q)
        have e3 : FitsH s (fstB (s.size - 6) s s.size) = (true, 0) := by unfold FitsH; rw [if_pos hf, if_pos (First_valid h7 h8 hok hg), First_fits]
        rw [e1, e2]
        refine Ev.ifp rfl (Ev.bind (FitsH_ev s _ hs (by rw [fstB_size]; exact hs)) ?_)
        rw [e3]
        generalize mulQ s (gN (waysT s 6) 0) (s.size - 6) = m at *
        exact Ev.ifp (show (m : Int) > 0 by omega) (Ev.ifp rfl (Ev.ifp rfl known_bind))
    · have e1 : firstP s = (⟨#[]⟩, false, 2) := by unfold firstP; rw [if_neg hf]
      have e2 : countP s = (0, 2) := by unfold countP; rw [if_neg hf]
      rw [e1, e2]
      exact Ev.ifn (by decide) (Ev.ifn (by decide) known_bind)

end Go.Proofs.Ytlbhighbhchdmaa.Pure
