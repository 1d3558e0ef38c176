/- The law RingBlocks, as a statement on lists and texts alone: which blocks are valid, how many rings they have, and which block has a ring, are the reference's answers. For all lists and texts. -/
import Derived.Test.YtlbhighbhchdmaaQx0
import Derived.Test.YtlbhighbhchdmaaQx8
import Derived.Test.YtlbhighbhchdmaaQx19
import Derived.Test.YtlbhighbhchdmaaLibG
namespace Go.Proofs.Ytlbhighbhchdmaa.Pure
open Go.RowKit Go.Proofs.Ytlbhighbhchdmaa.Q Go.Proofs.YtlbhighbhchdmaaW.PrintWords Go.Proofs.YtlbhighbhchdmaaW.PrintLast

theorem RingBlocks (l0 : List S79) (a1 : ByteArray) (h0 : (l0.length ≤ maxLen ∧ l0.length * 32 ≤ 140737488351232 ∧ ∀ y ∈ l0, g79 y)) (h1 : a1.size ≤ 140737488351232) : ∃ k, wigeonlaw01_RingBlocks.f k l0 a1 = some true := by
  refine Ev.rounds (?_ : Ev (fun k => wigeonlaw01_RingBlocks.f k l0 a1) true)
  have hj : ∀ b : Bool, Ev (fun k => wigeonlaw01_RingBlocks.j0 k l0 a1 b) true := by
    intro b
    refine Ev.step (fun k => by rw [wigeonlaw01_RingBlocks.j0]) ?_
    cases b with
    | true => exact Ev.ifp rfl known_bind
    | false =>
      refine Ev.ifn (by decide) (Ev.bind (Total_ev l0 h0.2.2) (Ev.bind (rTotal_ev l0) (Ev.bind (Owner_ev l0 h0.2.2 a1 h1) (Ev.bind (rOwner_ev l0 a1) (Ev.bind (blocks_ev l0 h0.2.2) (Ev.bind (rblocks_ev l0) ?_))))))
      exact Ev.ifp rfl (Ev.ifp rfl (Ev.ifp rfl (Ev.ifp rfl (Ev.ifp (by simp) (Ev.ifp rfl known_bind)))))
  unfold wigeonlaw01_RingBlocks.f
  by_cases h : (l0.length : Int) > 60
  · exact Ev.ifp h (hj _)
  · unfold wigeonlaw01_long.f
    exact Ev.ifn h (Ev.some_bind (hj _))

end Go.Proofs.Ytlbhighbhchdmaa.Pure
