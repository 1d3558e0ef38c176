/- The law RingNears, as a statement on texts alone: the rings near to a text are the reference's, and none is near to a ring. For all texts. -/
import Derived.Test.YtlbhighbhchdmaaQx9
import Derived.Test.YtlbhighbhchdmaaQx35
import Derived.Test.YtlbhighbhchdmaaLibNearR
namespace Go.Proofs.Ytlbhighbhchdmaa.Pure
open Go.RowKit Go.Proofs.Ytlbhighbhchdmaa.Q Go.Proofs.YtlbhighbhchdmaaW.PrintWords Go.Proofs.YtlbhighbhchdmaaW.PrintLast

theorem flat_len {α β : Type} (f : α → List β) (c : Nat) (h : ∀ x, (f x).length ≤ c) : ∀ l : List α, (l.flatMap f).length ≤ c * l.length
  | [] => by simp
  | x :: l => by
    rw [List.flatMap_cons, List.length_append, List.length_cons, Nat.mul_succ]
    have h1 := h x
    have h2 := flat_len f c h l
    omega
theorem refC_len (s : ByteArray) (n : Nat) : (refC s n).length ≤ 66 := by
  refine flat_len _ 11 (fun i => ?_) (List.range 6)
  have h2 : (tryA s n i).length = 10 := by simp [tryA]
  have h3 : (swpA s n i).length ≤ 1 := by unfold swpA; split <;> simp
  rw [List.length_append]
  omega
theorem RingNears : wigeonlaw01_RingNears.Pure := by
  intro s hs
  refine Ev.rounds (?_ : Ev (fun k => wigeonlaw01_RingNears.f k s) true)
  unfold wigeonlaw01_RingNears.f wigeonlaw01_long.f
  refine Ev.some_bind ?_
  by_cases h : decide ((s.size : Int) > 200) = true
  · exact Ev.ifp h known_bind
  · refine Ev.ifn h (Ev.bind (Near_ev s hs) (Ev.bind (rNear_ev s hs) ?_))
    have hlen : (if (formP s false).2 = true then ((goT s [] (refC s (s.size - 6))).map backT, (0 : Int)) else ([], 2)).1.length ≤ 100000 := by
      split
      · have h1 := goT_len s (refC s (s.size - 6)) []
        have h2 := refC_len s (s.size - 6)
        rw [List.length_map]
        simp at h1 ⊢
        omega
      · simp
    refine Ev.bind (same_ev _ hlen) (Ev.ifp rfl (Ev.ifp rfl (Ev.bind (Valid_ev s hs) ?_)))
    by_cases hv : ValidP s = 0
    · have hf := (ValidP_ok hv).1
      refine Ev.ifp hv (Ev.ifp ?_ known_bind)
      rw [if_pos hf, near_none hv]
      rfl
    · exact Ev.ifn hv known_bind

end Go.Proofs.Ytlbhighbhchdmaa.Pure
