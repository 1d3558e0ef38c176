-- Written by a program of this session (wip/tools/gprint.py, over the kit's print); Lean checks it.
import Derived.Test.YtpkafcoflgbnaaaWhR4
import Derived.Test.YtpkafcoflgbnaaaQx2
namespace Go.Proofs.Ytpkafcoflgbnaaa.Q
open Go.RowKit Go.Proofs.YtpkafcoflgbnaaaW.PrintWords Go.Proofs.YtpkafcoflgbnaaaW.PrintLast Go.Proofs.YtpkafcoflgbnaaaW.PrintMore
attribute [local go_sem] max2_int min2_int max_two min_two max_three min_three max_four min_four   -- for this text's walks alone
set_option linter.unusedVariables false
set_option linter.unusedSimpArgs false

-- NOT PRINTED: function 81 (slices_Clone_int_int)

/-! ### whistle_Alike: function 38 -/
-- GIVEN wigeon/whistle.Alike rounds=1 making=1
def whistle_Alike.f (k : Nat) (l0 : List ByteArray) : Option (List Int × List Int × Bool × Int) := (whistle_Validate.f k l0).bind fun e => if e = 0 then (if l0.length ≤ 60 ∧ (∀ j, j < l0.length → (sig l0 j).size ≤ 1000) then (followF l0 k 0 (startO l0 l0.length)).map (fun res => match res with
  | none => (([] : List Int), ([] : List Int), false, (0 : Int))
  | some r => (r.1.map (fun n : Nat => (n : Int)), r.2.map (fun n : Nat => (n : Int)), true, (0 : Int))) else none) else some ([], [], false, e)
theorem followF_mono (C : List ByteArray) : ∀ (k i : Nat) (qs : List PQ) (r : Option (List Nat × List Nat)), followF C k i qs = some r → followF C (k + 1) i qs = some r
 | 0, _, _, _, h => by cases h
 | k + 1, i, qs, r, h => by
  rw [followF] at h ⊢
  split at h
  ·rename_i h0
   rw [if_pos h0]; exact h
  ·rename_i h0
   rw [if_neg h0]
   split at h
   ·rename_i hc
    rw [if_pos hc]
    split at h
    ·rename_i n hn
     exact h
    ·rename_i hn
     exact followF_mono C k (i + 1) _ r h
   ·cases h
theorem whistle_Alike.mono : ∀ a0 k, LeO (whistle_Alike.f k a0) (whistle_Alike.f (k + 1) a0) := by
 intro a0 k r h
 unfold whistle_Alike.f at h ⊢
 obtain ⟨e, he, h⟩ := Option.bind_eq_some_iff.1 h
 rw [whistle_Validate.mono _ _ _ he]
 show (if e = 0 then _ else _) = _
 split at h
 ·rename_i h0
  rw [if_pos h0]
  split at h
  ·rename_i hc
   rw [if_pos hc]
   obtain ⟨q, hq, h⟩ := Option.map_eq_some_iff.1 h
   rw [followF_mono _ _ _ _ _ hq, ← h]; rfl
  ·cases h
 ·rename_i h0
  rw [if_neg h0]; exact h
theorem whistle_Alike.calls (k : Nat) (A0 : Option Addr) (c0 : Nat) (l0 : List ByteArray) (r1 r2 : List Int) (r3 : Bool) (r4 : Int) (w : World) (hr0 : Kd.C Kd.string w A0 l0.length l0) (hc0 : l0.length ≤ c0) (h : whistle_Alike.f k l0 = some (r1, r2, r3, r4)) :
  Calls Try.prog 38 #[.slice A0 l0.length c0] w fun e w' => ∃ v0_ v1_ : Value, e = .returned (.tuple #[v0_, v1_, .bool r3, .int .i64 r4]) ∧ Kd.R (Kd.int .i64) 3 w' w.heap.size (fun k_ => some k_ ≠ (v1_ : Value).ownBlock) v0_ r1 ∧ Kd.R (Kd.int .i64) 3 w' w.heap.size (fun k_ => some k_ ≠ (v0_ : Value).ownBlock) v1_ r2 ∧ Below w.heap.size w w' := by
 unfold whistle_Alike.f at h
 obtain ⟨e, he, h⟩ := Option.bind_eq_some_iff.1 h
 have hv : AtLater w (RetI 32 #[.slice A0 l0.length c0] e) := fun W hB => (whistle_Validate.calls k A0 c0 l0 e W (Kd.C_below hr0 hB) hc0 he).mono fun _ _ h => h
 split at h
 ·rename_i h0
  subst h0
  split at h
  ·rename_i hc
   obtain ⟨res, hq, h⟩ := Option.map_eq_some_iff.1 h
   have hsz : ∀ j, (sig l0 j).size ≤ 1000 := fun j => by
    by_cases hj : j < l0.length
    ·exact hc.2 j hj
    ·unfold sig
     rw [List.getD_eq_getElem?_getD, List.getElem?_eq_none (by omega)]
     exact Nat.zero_le _
   refine (alk_ok k A0 c0 l0 res w hr0 hv hc.1 hsz hq).mono ?_
   rintro e w' ⟨va, vb, rfl, hb, hres⟩
   cases res with
   | none =>
    obtain ⟨rfl, rfl⟩ := hres
    injection h with h1 h
    injection h with h2 h
    injection h with h3 h4
    subst h1 h2 h3 h4
    exact ⟨_, _, rfl, Kd.R_nil _ _ _ _ _, Kd.R_nil _ _ _ _ _, hb⟩
   | some r =>
    obtain ⟨o1, o2, hne⟩ := hres
    injection h with h1 h
    injection h with h2 h
    injection h with h3 h4
    subst h1 h2 h3 h4
    have e1 : (r.1.map fun n : Nat => (n : Int)).map (Value.int .i64) = numsV r.1 := by rw [List.map_map]; rfl
    have e2 : (r.2.map fun n : Nat => (n : Int)).map (Value.int .i64) = numsV r.2 := by rw [List.map_map]; rfl
    refine ⟨va, vb, rfl, Kd.R_of_own (xs := r.1.map fun n : Nat => (n : Int)) ?_ (fun k hk e => hne (hk.trans e)), Kd.R_of_own (xs := r.2.map fun n : Nat => (n : Int)) ?_ (fun k hk e => hne (hk.trans e).symm), hb⟩
    ·show w'.ownsRow w.heap.size 3 1 va (r.1.map fun n : Nat => (n : Int)).length ((r.1.map fun n : Nat => (n : Int)).map (Value.int .i64))
     rw [e1, List.length_map]; exact o1
    ·show w'.ownsRow w.heap.size 3 1 vb (r.2.map fun n : Nat => (n : Int)).length ((r.2.map fun n : Nat => (n : Int)).map (Value.int .i64))
     rw [e2, List.length_map]; exact o2
  ·cases h
 ·rename_i h0
  injection h with h
  injection h with h1 h
  injection h with h2 h
  injection h with h3 h4
  subst h1 h2 h3 h4
  refine (alike_bad A0 l0.length c0 e w h0 hv).mono ?_
  rintro e w' ⟨rfl, hb⟩
  exact ⟨_, _, rfl, Kd.R_nil _ _ _ _ _, Kd.R_nil _ _ _ _ _, hb⟩

end Go.Proofs.Ytpkafcoflgbnaaa.Q
