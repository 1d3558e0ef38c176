/- The law RingMakes, as a statement on texts and numbers alone: the ring of a series with a number is the reference's, and it is read back. For all texts and numbers. -/
import Derived.Test.YtlbhighbhchdmaaQx10
import Derived.Test.YtlbhighbhchdmaaLibF
namespace Go.Proofs.Ytlbhighbhchdmaa.Pure
open Go.RowKit Go.Proofs.Ytlbhighbhchdmaa.Q Go.Proofs.YtlbhighbhchdmaaW.PrintWords Go.Proofs.YtlbhighbhchdmaaW.PrintLast

theorem RingMakes : wigeonlaw01_RingMakes.Pure := by
  intro s n hs _
  refine Ev.rounds (?_ : Ev (fun k => wigeonlaw01_RingMakes.f k s n) true)
  unfold wigeonlaw01_RingMakes.f wigeonlaw01_long.f
  refine Ev.some_bind ?_
  by_cases h : decide ((s.size : Int) > 200) = true
  · exact Ev.ifp h known_bind
  · have hs2 : s.size ≤ 200 := by simp at h; omega
    refine Ev.ifn h (Ev.bind (Make_ev s n (by omega)) (Ev.bind (rMake_ev s n (by omega)) ?_))
    refine Ev.ifp rfl (Ev.step (fun k => by rw [wigeonlaw01_RingMakes.j0]) (Ev.ifn (by simp) ?_))
    by_cases he : (MakeP s n).2 = 0
    · refine Ev.ifp he ?_
      have hm : serP s = true ∧ 0 ≤ n ∧ n ≤ 99999 ∧ MakeP s n = (makeP s n, 0) := by
        unfold MakeP at he ⊢
        by_cases h1 : serP s = true
        · rw [if_pos h1] at he ⊢
          by_cases h2 : n < 0
          · rw [if_pos h2] at he; exact absurd he (by decide)
          · rw [if_neg h2] at he ⊢
            by_cases h3 : n > 99999
            · rw [if_pos h3] at he; exact absurd he (by decide)
            · rw [if_neg h3]
              exact ⟨h1, by omega, by omega, rfl⟩
        · rw [if_neg h1] at he; exact absurd he (by decide)
      obtain ⟨h1, h2, h3, e⟩ := hm
      rw [e]
      refine Ev.bind (Split_ev (makeP s n) (by rw [make_size]; omega)) ?_
      rw [make_split s n h1 h2 h3]
      exact Ev.ifp rfl (Ev.ifp rfl (Ev.ifp rfl known_bind))
    · exact Ev.ifn he known_bind

end Go.Proofs.Ytlbhighbhchdmaa.Pure
