/- The law WindFewest, as a statement on lists alone: the fewest pipes that cover all points are the reference's, and there are some exactly if no wind is in the lee. For all lists of 64 bits. -/
import Derived.Test.YthihlapmkcelpaaDoorQx0
import Derived.Test.YthihlapmkcelpaaDoorQx7
import Derived.Test.YthihlapmkcelpaaDoorQx18
import Derived.Test.YthihlapmkcelpaaDoorLibT
namespace Go.Proofs.YthihlapmkcelpaaDoor.Pure
open Go.RowKit Go.Proofs.YthihlapmkcelpaaDoor.Q Go.Proofs.YthihlapmkcelpaaDoorW.PrintWords Go.Proofs.YthihlapmkcelpaaDoorW.PrintLast Go.Proofs.YthihlapmkcelpaaDoorW.PrintMore

theorem WindFewest (l0 : List S33) (_ : (l0.length ≤ maxLen ∧ l0.length * 16 ≤ 140737488351232 ∧ ∀ y ∈ l0, g33 y)) : ∃ k, wigeonlaw03_WindFewest.f k l0 = some true := by
  refine Ev.rounds (?_ : Ev (fun k => wigeonlaw03_WindFewest.f k l0) true)
  unfold wigeonlaw03_WindFewest.f
  refine Ev.bindc (show wigeonlaw03_Many.f l0 = some (decide ((l0.length : Int) > 60)) from rfl) ?_
  by_cases h1 : decide ((l0.length : Int) > 60) = true
  · exact Ev.ifp h1 known_bind
  have h60 : ¬ ((l0.length : Int) > 60) := by simpa using h1
  have hlen : (fewestP l0 (foldB l0 (2 ^ l0.length))).1.length ≤ 1000 := by
    unfold fewestP
    split
    · have := foldB_length l0 (2 ^ l0.length)
      show (foldB l0 (2 ^ l0.length)).1.length ≤ 1000
      omega
    · exact Nat.zero_le _
  refine Ev.ifn h1 (Ev.bind (fewest_ev l0) (Ev.bind (ref_fewest_ev l0) (Ev.bind (same_ev _ hlen) (Ev.ifp rfl (Ev.ifn (by simp) ?_)))))
  rw [show ((fewestP l0 (foldB l0 (2 ^ l0.length))).2.2 != (fewestP l0 (foldB l0 (2 ^ l0.length))).2.2) = false by simp]
  refine Ev.step (fun k => by rw [wigeonlaw03_WindFewest.j0]) (Ev.ifn (by decide) (Ev.bind (lee_ev l0) ?_))
  by_cases h0 : pipesErr l0 = 0
  · have e1 : fewestP l0 (foldB l0 (2 ^ l0.length)) = fewP (foldB l0 (2 ^ l0.length)) := by unfold fewestP; rw [if_pos h0]
    have e2 : leeP l0 = (((leeN l0 : Nat) : Int), 0) := by unfold leeP; rw [if_pos h0]
    rw [e1, e2]
    refine Ev.ifp rfl (Ev.ifp rfl (Ev.ifp ?_ known_bind))
    show ((foldB l0 (2 ^ l0.length)).2 == (((leeN l0 : Nat) : Int) == 0)) = true
    rw [found_lee]
    exact beq_self_eq_true _
  · have e1 : (fewestP l0 (foldB l0 (2 ^ l0.length))).2.2 = pipesErr l0 := by unfold fewestP; rw [if_neg h0]
    exact Ev.ifn (by rw [e1]; exact h0) known_bind

end Go.Proofs.YthihlapmkcelpaaDoor.Pure
