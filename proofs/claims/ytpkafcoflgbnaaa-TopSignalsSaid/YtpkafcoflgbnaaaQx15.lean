-- Written by a program of this session (wip/tools/gprint.py, over the kit's print); Lean checks it.
import Derived.Test.YtpkafcoflgbnaaaWh5
import Derived.Test.YtpkafcoflgbnaaaQx2
namespace Go.Proofs.Ytpkafcoflgbnaaa.Q
open Go.RowKit Go.Proofs.YtpkafcoflgbnaaaW.PrintWords Go.Proofs.YtpkafcoflgbnaaaW.PrintLast Go.Proofs.YtpkafcoflgbnaaaW.PrintMore
attribute [local go_sem] max2_int min2_int max_two min_two max_three min_three max_four min_four   -- for this text's walks alone
set_option linter.unusedVariables false
set_option linter.unusedSimpArgs false

/-! ### whistle_Back: function 22 -/
-- GIVEN wigeon/whistle.Back rounds=1 making=1
def backOK (C : List ByteArray) : Bool := decide (C.length ≤ 100) && C.all (fun s => decide (s.size ≤ 1000))
def whistle_Back.f (k : Nat) (l0 : List ByteArray) : Option (List ByteArray × Int) :=
 (whistle_Validate.f k l0).bind fun e0 => if e0 ≠ 0 then some ([], e0) else if backOK l0 = true then some (backA l0 l0.length, 0) else none
theorem whistle_Back.mono : ∀ a0 k, LeO (whistle_Back.f k a0) (whistle_Back.f (k + 1) a0) := by
 intro a0 k
 unfold whistle_Back.f
 exact LeO.bind (whistle_Validate.mono _ _) fun e0 => LeO.refl _
theorem whistle_Back.calls (k : Nat) (A0 : Option Addr) (c0 : Nat) (l0 : List ByteArray) (r1 : List ByteArray) (r2 : Int) (w : World) (hr0 : Kd.C Kd.string w A0 l0.length l0) (hc0 : l0.length ≤ c0) (h : whistle_Back.f k l0 = some (r1, r2)) :
  Calls Try.prog 22 #[.slice A0 l0.length c0] w fun e w' => ∃ v0_ : Value, e = .returned (.tuple #[v0_, .int .i64 r2]) ∧ Kd.R Kd.string 9 w' w.heap.size (fun _ => True) v0_ r1 ∧ Below w.heap.size w w' := by
 unfold whistle_Back.f at h
 obtain ⟨e0, h0, h⟩ := Option.bind_eq_some_iff.1 h
 have hv : RetI 32 #[.slice A0 l0.length c0] e0 w := whistle_Validate.calls k A0 c0 l0 e0 w hr0 hc0 h0
 split at h
 ·rename_i hne
  obtain ⟨rfl, rfl⟩ := Prod.mk.inj (Option.some.inj h)
  refine (back_e0 A0 l0.length c0 e0 w hne hv).mono ?_
  rintro e w' ⟨rfl, hb⟩
  exact ⟨_, rfl, Kd.R_nil _ _ _ _ _, hb⟩
 rename_i hz
 obtain rfl : e0 = 0 := by simpa using hz
 split at h
 ·rename_i hk
  obtain ⟨rfl, rfl⟩ := Prod.mk.inj (Option.some.inj h)
  unfold backOK at hk
  rw [Bool.and_eq_true, List.all_eq_true] at hk
  have hs : ∀ i, (l0.getD i ByteArray.empty).size ≤ 1000 := fun i => by
   by_cases hi : i < l0.length
   ·rw [List.getD_eq_getElem?_getD, List.getElem?_eq_getElem hi]; exact of_decide_eq_true (hk.2 _ (List.getElem_mem hi))
   ·rw [List.getD_eq_getElem?_getD, List.getElem?_eq_none (by omega)]; exact Nat.zero_le _
  refine (back_walk A0 c0 l0 w hr0 (of_decide_eq_true hk.1) hs hv).mono ?_
  rintro e w' ⟨v, rfl, ho, hb⟩
  exact ⟨v, rfl, Kd.R_of_own (show w'.ownsRow w.heap.size 9 1 v (backA l0 l0.length).length _ by rw [backA_len]; exact ho) (fun _ _ => trivial), hb⟩
 ·cases h

end Go.Proofs.Ytpkafcoflgbnaaa.Q
