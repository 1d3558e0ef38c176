/- The law RingGroups, as a statement on numbers alone: products of digits are associative and inverses undo them. For all x, y, z of 64 bits. -/
import Derived.Test.YtlbhighbhchdmaaQx2
import Derived.Test.YtlbhighbhchdmaaLibB
namespace Go.Proofs.Ytlbhighbhchdmaa.Pure
open Go.RowKit Go.Proofs.Ytlbhighbhchdmaa.Q Go.Proofs.YtlbhighbhchdmaaW.PrintWords Go.Proofs.YtlbhighbhchdmaaW.PrintLast

theorem TimesP_nat {n m : Nat} (hn : n < 10) (hm : m < 10) : TimesP (n : Int) (m : Int) = (((tm n m : Nat) : Int), 0) := by
  unfold TimesP
  rw [if_pos (by omega)]
  simp
theorem groups_true (x y z : Int) (b : Bool) (h : b = false → ∃ n m p : Nat, n < 10 ∧ m < 10 ∧ p < 10 ∧ x = n ∧ y = m ∧ z = p) :
    Ev (fun k => wigeonlaw01_RingGroups.j0 k x y z (TimesP x y).1 (TimesP y z).1 b) true := by
  refine Ev.step (fun k => by rw [wigeonlaw01_RingGroups.j0]) ?_
  cases b with
  | true => exact Ev.ifp rfl known_bind
  | false =>
    obtain ⟨n, m, p, hn, hm, hp, rfl, rfl, rfl⟩ := h rfl
    refine Ev.ifn (by decide) ?_
    rw [TimesP_nat hn hm, TimesP_nat hm hp]
    refine Ev.bind (Times_ev _ _) (Ev.bind (Times_ev _ _) (Ev.bindc (Undo_eq _) ?_))
    have hu : UndoP (n : Int) = (((ud n : Nat) : Int), 0) := by
      unfold UndoP
      rw [if_pos (by omega)]
      simp
    simp only [hu]
    refine Ev.bind (Times_ev _ _) (Ev.bind (Times_ev _ _) ?_)
    rw [TimesP_nat (tm_lt hn hm) hp, TimesP_nat hn (tm_lt hm hp), TimesP_nat (ud_lt hn) (tm_lt hn hm), TimesP_nat hn (ud_lt hn)]
    refine Ev.ifp rfl (Ev.ifp rfl (Ev.ifp (by rw [tm_assoc hn hm hp]) (Ev.ifp trivial (Ev.ifp rfl (Ev.ifp ?_ (Ev.ifp rfl (Ev.ifp ?_ known_bind)))))))
    · show ((tm (ud n) (tm n m) : Nat) : Int) = m
      rw [← tm_assoc (ud_lt hn) hn hm, ud_tm hn, tm_zero hm]
    · show ((tm n (ud n) : Nat) : Int) = 0
      rw [tm_ud hn]; rfl
theorem RingGroups : wigeonlaw01_RingGroups.Pure := by
  intro x y z _ _ _
  refine Ev.rounds (?_ : Ev (fun k => wigeonlaw01_RingGroups.f k x y z) true)
  unfold wigeonlaw01_RingGroups.f
  refine Ev.bind (Times_ev x y) (Ev.bind (Times_ev y z) ?_)
  by_cases h1 : (TimesP x y).2 = 0
  · refine Ev.ifp h1 (groups_true x y z _ fun hb => ?_)
    have h2 : (TimesP y z).2 = 0 := by simpa using hb
    have d1 : (0 ≤ x ∧ x ≤ 9) ∧ (0 ≤ y ∧ y ≤ 9) := by
      unfold TimesP at h1
      split at h1
      · assumption
      · exact absurd h1 (by decide)
    have d2 : (0 ≤ y ∧ y ≤ 9) ∧ (0 ≤ z ∧ z ≤ 9) := by
      unfold TimesP at h2
      split at h2
      · assumption
      · exact absurd h2 (by decide)
    exact ⟨x.toNat, y.toNat, z.toNat, by omega, by omega, by omega, by omega, by omega, by omega⟩
  · exact Ev.ifn h1 (groups_true x y z _ fun hb => by simp at hb)

end Go.Proofs.Ytlbhighbhchdmaa.Pure
