/- The law WindTurns, as a statement on numbers alone: a set turned and mirrored is the reference's, and a mirrored turn is a turn the other way. For all numbers of 64 bits. -/
import Derived.Test.YthihlapmkcelpaaDoorQx2
import Derived.Test.YthihlapmkcelpaaDoorQx5
import Derived.Test.YthihlapmkcelpaaDoorQx6
import Derived.Test.YthihlapmkcelpaaDoorLibB
namespace Go.Proofs.YthihlapmkcelpaaDoor.Pure
open Go.RowKit Go.Proofs.YthihlapmkcelpaaDoor.Q Go.Proofs.YthihlapmkcelpaaDoorW.PrintWords Go.Proofs.YthihlapmkcelpaaDoorW.PrintLast

theorem turnA_neg (y : Int) : turnA (wrap64 (-y)) = (32 - turnA y) % 32 := by
  unfold turnA wrap64
  omega
theorem turns_bits {A : Nat} (hA : A < 32) {p : Nat} (hp : p < 32) : backS A (negS p) = negS (backS ((32 - A) % 32) p) := by
  unfold backS negS
  omega
theorem turns_home {A : Nat} (hA : A < 32) {p : Nat} (hp : p < 32) : backS A (backS ((32 - A) % 32) p) = p := by
  unfold backS
  omega
theorem mirror_turn {n A : Nat} (hA : A < 32) : maskN (fun p => (rotN n A).testBit (negS p)) 32 = rotN (maskN (fun p => n.testBit (negS p)) 32) ((32 - A) % 32) := by
  unfold rotN
  refine mask_congr fun p hp => ?_
  rw [mask_bit _ _ (negS_lt p), mask_bit _ _ (backS_lt _ p), turns_bits hA hp]
theorem turn_home {n A : Nat} (hn : n < 4294967296) (hA : A < 32) : rotN (rotN n A) ((32 - A) % 32) = n := by
  refine Eq.trans ?_ (mask_self hn)
  show maskN (fun p => (rotN n A).testBit (backS ((32 - A) % 32) p)) 32 = _
  refine mask_congr fun p hp => ?_
  unfold rotN
  rw [mask_bit _ _ (backS_lt _ p), turns_home hA hp]
theorem setOk_nat {m : Nat} (h : m < 4294967296) : setOk (m : Int) = true := decide_eq_true (by omega)
theorem mirrorP_nat {m : Nat} (h : m < 4294967296) : mirrorP (m : Int) = (((maskN (fun p => m.testBit (negS p)) 32 : Nat) : Int), 0) := by
  unfold mirrorP
  rw [if_pos (setOk_nat h), Int.toNat_natCast]
theorem turnP_nat {m : Nat} (h : m < 4294967296) (y : Int) : turnP (m : Int) y = (((rotN m (turnA y) : Nat) : Int), 0) := by
  unfold turnP
  rw [if_pos (setOk_nat h), Int.toNat_natCast]

theorem WindTurns : wigeonlaw03_WindTurns.Pure := by
  intro n y _ _
  refine Ev.rounds (?_ : Ev (fun k => wigeonlaw03_WindTurns.f k n y) true)
  unfold wigeonlaw03_WindTurns.f
  refine Ev.bindc (turn_at n y) (Ev.bindc (ref_turn_at n y) (Ev.bindc (show wind_Mirror.f n = some (mirrorP n) from rfl) (Ev.bindc (ref_mirror_at n) ?_)))
  refine Ev.ifp rfl (Ev.ifp rfl (Ev.ifp rfl ?_))
  rw [show ((mirrorP n).2 != (mirrorP n).2) = false by simp]
  refine Ev.step (fun k => by rw [wigeonlaw03_WindTurns.j0]) ?_
  refine Ev.ifn (by decide) ?_
  by_cases h : setOk n = true
  · have hr := of_decide_eq_true h
    obtain ⟨m, rfl⟩ := Int.eq_ofNat_of_zero_le hr.1
    have hm : m < 4294967296 := by omega
    have hA := turnA_lt y
    have hm2 : maskN (fun p => m.testBit (negS p)) 32 < 4294967296 := mask32_lt _
    rw [turnP_nat hm y, mirrorP_nat hm]
    refine Ev.ifp rfl (Ev.bindc (show wind_Mirror.f _ = some (mirrorP _) from rfl) (Ev.bindc (turn_at _ _) (Ev.bindc (turn_at _ _) ?_)))
    rw [mirrorP_nat (rotN_lt m _), turnP_nat hm2, turnP_nat (rotN_lt m _), turnA_neg, mirror_turn hA, turn_home hm hA]
    exact Ev.ifp rfl (Ev.ifp rfl (Ev.ifp rfl (Ev.ifp rfl (Ev.ifp rfl known_bind))))
  · have e : (turnP n y).2 = 1 := by unfold turnP; rw [if_neg h]
    exact Ev.ifn (by rw [e]; decide) known_bind

end Go.Proofs.YthihlapmkcelpaaDoor.Pure
