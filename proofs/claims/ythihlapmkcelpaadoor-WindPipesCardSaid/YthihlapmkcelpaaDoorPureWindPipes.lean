/- The law WindPipes, as a statement on lists and numbers alone: which pipes can be worked at a wind, and where none can, is the reference's, and these agree. For all lists and numbers of 64 bits. -/
import Derived.Test.YthihlapmkcelpaaDoorQx0
import Derived.Test.YthihlapmkcelpaaDoorQx2
import Derived.Test.YthihlapmkcelpaaDoorQx7
import Derived.Test.YthihlapmkcelpaaDoorQx11
import Derived.Test.YthihlapmkcelpaaDoorLibR
namespace Go.Proofs.YthihlapmkcelpaaDoor.Pure
open Go.RowKit Go.Proofs.YthihlapmkcelpaaDoor.Q Go.Proofs.YthihlapmkcelpaaDoorW.PrintWords Go.Proofs.YthihlapmkcelpaaDoorW.PrintLast Go.Proofs.YthihlapmkcelpaaDoorW.PrintMore

theorem i64_bit {s p : Nat} (hp : p < 32) : (bits .and .i64 (shr .i64 (s : Int) (IntKind.u64.wrap (p : Int))) 1 == 1) = s.testBit p := by
  have e0 : IntKind.u64.wrap (p : Int) = (p : Int) := by
    show (p : Int) % 18446744073709551616 = _
    omega
  have e : shr .i64 (s : Int) (p : Int) = ((s / 2 ^ p : Nat) : Int) := by
    unfold shr
    rw [Int.toNat_natCast, show min p IntKind.i64.bits = p from Nat.min_eq_left (show p ≤ 64 by omega), Int.natCast_ediv, Int.natCast_pow]
    rfl
  have e1 (y : Nat) : bits .and .i64 (y : Int) 1 = ((y % 2 : Nat) : Int) := by
    have h1 : (BitVec.ofInt 64 1).toNat = 2 ^ 1 - 1 := by decide
    have key : (BitVec.ofInt 64 (y : Int) &&& BitVec.ofInt 64 1).toNat = ((y : Int) % ((2 ^ 64 : Nat) : Int)).toNat % 2 ^ 1 := by
      rw [BitVec.toNat_and, BitVec.toNat_ofInt, h1, Nat.and_two_pow_sub_one_eq_mod]
    show IntKind.i64.wrap ((BitVec.ofInt 64 (y : Int) &&& BitVec.ofInt 64 1).toNat : Nat) = _
    rw [key, IntKind.wrap_i64]
    omega
  rw [e0, e, e1, Nat.testBit_eq_decide_div_mod_eq]
  by_cases h : s / 2 ^ p % 2 = 1
  · simp [h]
  · have : s / 2 ^ p % 2 = 0 := by omega
    simp [this]
theorem WindPipes (l0 : List S33) (a1 : Int) (_ : (l0.length ≤ maxLen ∧ l0.length * 16 ≤ 140737488351232 ∧ ∀ y ∈ l0, g33 y)) (_ : (Lit.int .i64 a1).wf = true) : ∃ k, wigeonlaw03_WindPipes.f k l0 a1 = some true := by
  refine Ev.rounds (?_ : Ev (fun k => wigeonlaw03_WindPipes.f k l0 a1) true)
  unfold wigeonlaw03_WindPipes.f
  refine Ev.bindc (show wigeonlaw03_Many.f l0 = some (decide ((l0.length : Int) > 60)) from rfl) ?_
  by_cases h1 : decide ((l0.length : Int) > 60) = true
  · exact Ev.ifp h1 known_bind
  refine Ev.ifn h1 (Ev.bind (work_ev l0 a1) (Ev.bind (ref_work_all l0 a1) (Ev.bind (lee_ev l0) (Ev.bind (ref_lee_ev l0) (Ev.bind (pipes_ev l0) (Ev.bind (ref_pipes_ev l0) ?_))))))
  have hw : (workP l0 a1).1.length ≤ 1000 := by
    have h60 : ¬ ((l0.length : Int) > 60) := by simpa using h1
    unfold workP
    split
    · split
      · have := workTo_length l0 a1.toNat l0.length
        show (workTo l0 a1.toNat l0.length).length ≤ 1000
        omega
      · exact Nat.zero_le _
    · exact Nat.zero_le _
  refine Ev.ifp rfl (Ev.bind (same_ev _ hw) (Ev.ifp rfl (Ev.ifp rfl (Ev.ifp rfl (Ev.ifp rfl ?_)))))
  by_cases he : (workP l0 a1).2 = 0
  · have h0 : pipesErr l0 = 0 := by
      unfold workP at he
      by_cases h0 : pipesErr l0 = 0
      · exact h0
      · rw [if_neg h0] at he; exact he
    have hq : 0 ≤ a1 ∧ a1 ≤ 31 := by
      unfold workP at he
      rw [if_pos h0] at he
      by_cases hq : 0 ≤ a1 ∧ a1 ≤ 31
      · exact hq
      · rw [if_neg hq] at he; exact absurd he (by decide)
    obtain ⟨p, rfl⟩ := Int.eq_ofNat_of_zero_le hq.1
    have hu : 0 ≤ IntKind.u64.wrap (p : Int) := by
      show 0 ≤ (p : Int) % 18446744073709551616
      omega
    refine Ev.ifp he (Ev.ifp hu (Ev.ifp ?_ known_bind))
    have e1 : (workP l0 (p : Int)).1 = workTo l0 p l0.length := by unfold workP; rw [if_pos h0, if_pos hq, Int.toNat_natCast]
    have e2 : (leeP l0).1 = ((leeN l0 : Nat) : Int) := by unfold leeP; rw [if_pos h0]
    rw [e1, e2, i64_bit (by omega)]
    unfold leeN
    rw [mask_bit _ p (by omega)]
    unfold leeF
    exact beq_self_eq_true _
  · exact Ev.ifn he known_bind

end Go.Proofs.YthihlapmkcelpaaDoor.Pure
