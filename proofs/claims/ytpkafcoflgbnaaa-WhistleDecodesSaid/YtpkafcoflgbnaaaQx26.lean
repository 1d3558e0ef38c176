-- Written by a program of this session (wip/tools/gprint.py, over the kit's print); Lean checks it.
import Derived.Test.YtpkafcoflgbnaaaWh6
import Derived.Test.YtpkafcoflgbnaaaQx0
import Derived.Test.YtpkafcoflgbnaaaQx2
import Derived.Test.YtpkafcoflgbnaaaQx10
import Derived.Test.YtpkafcoflgbnaaaQx11
namespace Go.Proofs.Ytpkafcoflgbnaaa.Q
open Go.RowKit Go.Proofs.YtpkafcoflgbnaaaW.PrintWords Go.Proofs.YtpkafcoflgbnaaaW.PrintLast Go.Proofs.YtpkafcoflgbnaaaW.PrintMore
attribute [local go_sem] max2_int min2_int max_two min_two max_three min_three max_four min_four   -- for this text's walks alone
set_option linter.unusedVariables false
set_option linter.unusedSimpArgs false

-- NOT PRINTED: function 81 (slices_Clone_int_int)

-- NOT PRINTED: function 38 (whistle_Alike)

-- NOT PRINTED: function 8 (wigeonlaw05_WhistleAlike)

/-! ### whistle_heard: function 83 -/
def whistle_heard.f (k : Nat) (l0 : List ByteArray) (a1 : ByteArray) : Option (Int) := (whistle_Validate.f k l0).bind fun t487 => (if t487 = 0 then (if (a1.size : Int) > 60 then (some 3) else ((whistle_notes.f a1).bind fun t488 => (if t488 = true then (some 0) else (some 1)))) else (some t487))
theorem whistle_heard.mono : ∀ a0 a1 k, LeO (whistle_heard.f k a0 a1) (whistle_heard.f (k + 1) a0 a1) := by
 intro a0 a1 k
 unfold whistle_heard.f
 repeat' first
   | (with_reducible exact whistle_Validate.mono _ _)
   | (with_reducible exact LeO.refl _)
   | (with_reducible exact LeO.none _)
   | (with_reducible refine LeO.ite ?_ ?_)
   | (with_reducible refine LeO.bind ?_ (fun _ => ?_))
   | exact whistle_Validate.mono _ _
   | exact LeO.none _
   | refine LeO.ite ?_ ?_
   | refine LeO.bind ?_ (fun _ => ?_)
set_option maxHeartbeats 8000000 in
set_option maxRecDepth 100000 in
theorem whistle_heard.calls (k : Nat) (A0 : Option Addr) (c0 : Nat) (l0 : List ByteArray) (a1 : ByteArray) (r : Int) (w : World) (hr0 : Kd.C Kd.string w A0 l0.length l0) (hc0 : l0.length ≤ c0) (h : whistle_heard.f k l0 a1 = some r) :
  Calls Try.prog 83 #[.slice A0 l0.length c0, .string a1] w fun e w' => e = .returned (.int .i64 r) ∧ Below w.heap.size w w' := by
 have HR0 := Aside0.mk hr0
 have HC0 := Aside0.mk hc0
 clear hr0 hc0
 have HB := Aside0.mk (Below.refl w.heap.size w)
 have H : ((whistle_Validate.f k l0).bind fun t487 => (if t487 = 0 then (if (a1.size : Int) > 60 then (some 3) else ((whistle_notes.f a1).bind fun t488 => (if t488 = true then (some 0) else (some 1)))) else (some t487))) = some r := h
 clear h
 replace H := Option.bind_eq_some_iff.mp H
 obtain ⟨t487, A30, H⟩ := H
 replace H : (if t487 = 0 then (if (a1.size : Int) > 60 then (some 3) else ((whistle_notes.f a1).bind fun t488 => (if t488 = true then (some 0) else (some 1)))) else (some t487)) = some r := H
 have A3 := Aside0.mk A30
 clear A30
 by_cases c4 : t487 = 0
 ·rw [if_pos c4] at H
  have c4b0 : (t487 == 0) = true := beq_iff_eq.mpr c4
  have c4b1 : (t487 != 0) = false := bne_eq_false_iff_eq.mpr c4
  clear c4
  by_cases c5 : (a1.size : Int) > 60
  ·rw [if_pos c5] at H
   have c5b0 : decide (60 < (a1.size : Int)) = true := decide_eq_true c5
   have c5b1 : decide (60 < a1.size) = true := decide_eq_true (by omega)
   clear c5
   obtain rfl := Option.some.inj H
   go_enter Try.func83, Try.ntmps83
   go_wp2_with (first | ((with_reducible refine gate_callee (f := 32) rfl ?_); refine goesL_ (some 7) rfl rfl Try.func32 (by kernel_rfl) rfl #[.slice A0 l0.length c0] rfl (by (try simp only [List.map_toArray, List.map_cons, List.map_nil]); first | done | rfl | (simp only [List.length_drop, List.length_take]; rfl)) ?_; (with_reducible refine (whistle_Validate.calls k _ _ l0 t487 _ ?side1 ?side2 A3.out).mono ?_); (case side1 => repeat (first | exact HR0.out | (with_reducible refine Kd.C_alloc ?_ _) | (with_reducible refine Kd.C_drewN ?_ _) | (with_reducible refine Kd.C_drew ?_))); (case side2 => exact HC0.out); rintro e w6 ⟨rfl, hb⟩; refine ⟨_, rfl, ?_⟩; have n0_ := Aside0.mk (below_step (by repeat (first | (with_reducible first | exact HB.out | apply below_alloc | apply pw_below_drewN | apply below_drew1) | exact HB.out)) hb); clear HB; have HB := n0_; clear n0_; (try clear hb); (try clear hb2); (try clear hk); (try clear hi)))
   go_ret
   exact ⟨by first | rfl | (simp [errW_none, errW_some] <;> rfl) | (simp [*, errW_none, errW_some] <;> rfl), by repeat (first | (with_reducible first | exact HB.out | apply below_alloc | apply pw_below_drewN | apply below_drew1) | exact HB.out)⟩
  ·rw [if_neg c5] at H
   have c5b0 : decide (60 < (a1.size : Int)) = false := decide_eq_false c5
   have c5b1 : decide (60 < a1.size) = false := decide_eq_false (by omega)
   clear c5
   replace H := Option.bind_eq_some_iff.mp H
   obtain ⟨t488, A70, H⟩ := H
   replace H : (if t488 = true then (some 0) else (some 1)) = some r := H
   have A7 := Aside0.mk A70
   clear A70
   by_cases c8 : t488 = true
   ·subst c8
    have H1 : (some 0) = some r := by rw [if_pos rfl] at H; exact H
    clear H
    have H := H1
    clear H1
    obtain rfl := Option.some.inj H
    go_enter Try.func83, Try.ntmps83
    go_wp2_with (first | ((with_reducible refine gate_callee (f := 32) rfl ?_); refine goesL_ (some 7) rfl rfl Try.func32 (by kernel_rfl) rfl #[.slice A0 l0.length c0] rfl (by (try simp only [List.map_toArray, List.map_cons, List.map_nil]); first | done | rfl | (simp only [List.length_drop, List.length_take]; rfl)) ?_; (with_reducible refine (whistle_Validate.calls k _ _ l0 t487 _ ?side1 ?side2 A3.out).mono ?_); (case side1 => repeat (first | exact HR0.out | (with_reducible refine Kd.C_alloc ?_ _) | (with_reducible refine Kd.C_drewN ?_ _) | (with_reducible refine Kd.C_drew ?_))); (case side2 => exact HC0.out); rintro e w9 ⟨rfl, hb⟩; refine ⟨_, rfl, ?_⟩; have n0_ := Aside0.mk (below_step (by repeat (first | (with_reducible first | exact HB.out | apply below_alloc | apply pw_below_drewN | apply below_drew1) | exact HB.out)) hb); clear HB; have HB := n0_; clear n0_; (try clear hb); (try clear hb2); (try clear hk); (try clear hi)) | ((with_reducible refine gate_callee (f := 68) rfl ?_); refine goesL_ (some 15) rfl rfl Try.func68 (by kernel_rfl) rfl #[.string a1] rfl (by (try simp only [List.map_toArray, List.map_cons, List.map_nil]); first | done | rfl | (simp only [List.length_drop, List.length_take]; rfl)) ?_; (with_reducible refine (whistle_notes.calls a1 true _ A7.out).mono ?_); rintro e w10 ⟨rfl, hb⟩; refine ⟨_, rfl, ?_⟩; have n0_ := Aside0.mk (below_step (by repeat (first | (with_reducible first | exact HB.out | apply below_alloc | apply pw_below_drewN | apply below_drew1) | exact HB.out)) hb); clear HB; have HB := n0_; clear n0_; (try clear hb); (try clear hb2); (try clear hk); (try clear hi)))
    go_ret
    exact ⟨by first | rfl | (simp [errW_none, errW_some] <;> rfl) | (simp [*, errW_none, errW_some] <;> rfl), by repeat (first | (with_reducible first | exact HB.out | apply below_alloc | apply pw_below_drewN | apply below_drew1) | exact HB.out)⟩
   ·replace c8 := Bool.eq_false_iff.mpr c8
    subst c8
    have H1 : (some 1) = some r := by rw [if_neg (show ¬ (false = true) by decide)] at H; exact H
    clear H
    have H := H1
    clear H1
    obtain rfl := Option.some.inj H
    go_enter Try.func83, Try.ntmps83
    go_wp2_with (first | ((with_reducible refine gate_callee (f := 32) rfl ?_); refine goesL_ (some 7) rfl rfl Try.func32 (by kernel_rfl) rfl #[.slice A0 l0.length c0] rfl (by (try simp only [List.map_toArray, List.map_cons, List.map_nil]); first | done | rfl | (simp only [List.length_drop, List.length_take]; rfl)) ?_; (with_reducible refine (whistle_Validate.calls k _ _ l0 t487 _ ?side1 ?side2 A3.out).mono ?_); (case side1 => repeat (first | exact HR0.out | (with_reducible refine Kd.C_alloc ?_ _) | (with_reducible refine Kd.C_drewN ?_ _) | (with_reducible refine Kd.C_drew ?_))); (case side2 => exact HC0.out); rintro e w11 ⟨rfl, hb⟩; refine ⟨_, rfl, ?_⟩; have n0_ := Aside0.mk (below_step (by repeat (first | (with_reducible first | exact HB.out | apply below_alloc | apply pw_below_drewN | apply below_drew1) | exact HB.out)) hb); clear HB; have HB := n0_; clear n0_; (try clear hb); (try clear hb2); (try clear hk); (try clear hi)) | ((with_reducible refine gate_callee (f := 68) rfl ?_); refine goesL_ (some 15) rfl rfl Try.func68 (by kernel_rfl) rfl #[.string a1] rfl (by (try simp only [List.map_toArray, List.map_cons, List.map_nil]); first | done | rfl | (simp only [List.length_drop, List.length_take]; rfl)) ?_; (with_reducible refine (whistle_notes.calls a1 false _ A7.out).mono ?_); rintro e w12 ⟨rfl, hb⟩; refine ⟨_, rfl, ?_⟩; have n0_ := Aside0.mk (below_step (by repeat (first | (with_reducible first | exact HB.out | apply below_alloc | apply pw_below_drewN | apply below_drew1) | exact HB.out)) hb); clear HB; have HB := n0_; clear n0_; (try clear hb); (try clear hb2); (try clear hk); (try clear hi)))
    go_ret
    exact ⟨by first | rfl | (simp [errW_none, errW_some] <;> rfl) | (simp [*, errW_none, errW_some] <;> rfl), by repeat (first | (with_reducible first | exact HB.out | apply below_alloc | apply pw_below_drewN | apply below_drew1) | exact HB.out)⟩
 ·rw [if_neg c4] at H
  have c4b0 : (t487 == 0) = false := beq_eq_false_iff_ne.mpr c4
  have c4b1 : (t487 != 0) = true := bne_iff_ne.mpr c4
  obtain rfl := Option.some.inj H
  go_enter Try.func83, Try.ntmps83
  go_wp2_with (first | ((with_reducible refine gate_callee (f := 32) rfl ?_); refine goesL_ (some 7) rfl rfl Try.func32 (by kernel_rfl) rfl #[.slice A0 l0.length c0] rfl (by (try simp only [List.map_toArray, List.map_cons, List.map_nil]); first | done | rfl | (simp only [List.length_drop, List.length_take]; rfl)) ?_; (with_reducible refine (whistle_Validate.calls k _ _ l0 t487 _ ?side1 ?side2 A3.out).mono ?_); (case side1 => repeat (first | exact HR0.out | (with_reducible refine Kd.C_alloc ?_ _) | (with_reducible refine Kd.C_drewN ?_ _) | (with_reducible refine Kd.C_drew ?_))); (case side2 => exact HC0.out); rintro e w13 ⟨rfl, hb⟩; refine ⟨_, rfl, ?_⟩; have n0_ := Aside0.mk (below_step (by repeat (first | (with_reducible first | exact HB.out | apply below_alloc | apply pw_below_drewN | apply below_drew1) | exact HB.out)) hb); clear HB; have HB := n0_; clear n0_; (try clear hb); (try clear hb2); (try clear hk); (try clear hi)))
  go_ret
  exact ⟨by first | rfl | (simp [errW_none, errW_some] <;> rfl) | (simp [*, errW_none, errW_some] <;> rfl), by repeat (first | (with_reducible first | exact HB.out | apply below_alloc | apply pw_below_drewN | apply below_drew1) | exact HB.out)⟩

/-! ### whistle_Commands: function 41 -/
-- GIVEN wigeon/whistle.Commands rounds=1 making=1
def whistle_Commands.f (k : Nat) (l0 : List ByteArray) (a1 : ByteArray) : Option (List ByteArray × ByteArray × Int) :=
 (whistle_heard.f k l0 a1).bind fun e0 => if e0 ≠ 0 then some ([], ⟨#[]⟩, e0) else if 0 < l0.length ∧ l0.length ≤ 100 then (cmdF l0 k a1 []).bind fun r => some (r.1, r.2, 0) else none
theorem whistle_Commands.mono : ∀ a0 a1 k, LeO (whistle_Commands.f k a0 a1) (whistle_Commands.f (k + 1) a0 a1) := by
 intro a0 a1 k
 unfold whistle_Commands.f
 exact LeO.bind (whistle_heard.mono _ _ _) fun e0 => LeO.ite (LeO.refl _) (LeO.ite (LeO.bind (fun r h => cmdF_mono _ _ _ _ _ h) fun r => LeO.refl _) (LeO.refl _))
theorem whistle_Commands.calls (k : Nat) (A0 : Option Addr) (c0 : Nat) (l0 : List ByteArray) (a1 : ByteArray) (r1 : List ByteArray) (r2 : ByteArray) (r3 : Int) (w : World) (hr0 : Kd.C Kd.string w A0 l0.length l0) (hc0 : l0.length ≤ c0) (h : whistle_Commands.f k l0 a1 = some (r1, r2, r3)) :
  Calls Try.prog 41 #[.slice A0 l0.length c0, .string a1] w fun e w' => ∃ v0_ : Value, e = .returned (.tuple #[v0_, .string r2, .int .i64 r3]) ∧ Kd.R Kd.string 9 w' w.heap.size (fun _ => True) v0_ r1 ∧ Below w.heap.size w w' := by
 unfold whistle_Commands.f at h
 obtain ⟨e0, h0, h⟩ := Option.bind_eq_some_iff.1 h
 have hv : AtLater w (RetI 83 #[.slice A0 l0.length c0, .string a1] e0) := fun W hB => whistle_heard.calls k A0 c0 l0 a1 e0 W (Kd.C_below hr0 hB) hc0 h0
 split at h
 ·rename_i hne
  obtain ⟨rfl, h2⟩ := Prod.mk.inj (Option.some.inj h)
  obtain ⟨rfl, rfl⟩ := Prod.mk.inj h2
  refine (cmd_bad A0 l0.length c0 a1 e0 w hne hv).mono ?_
  rintro e w' ⟨rfl, hb⟩
  exact ⟨_, rfl, Kd.R_nil _ _ _ _ _, hb⟩
 rename_i hz
 obtain rfl : e0 = 0 := by simpa using hz
 split at h
 ·rename_i hk
  obtain ⟨⟨q1, q2⟩, hq, h⟩ := Option.bind_eq_some_iff.1 h
  obtain ⟨rfl, h2⟩ := Prod.mk.inj (Option.some.inj h)
  obtain ⟨rfl, rfl⟩ := Prod.mk.inj h2
  refine (cmd_ok k A0 c0 l0 a1 q1 q2 w hr0 hk.1 hk.2 hv hq).mono ?_
  rintro e w' ⟨v, rfl, ho, hb⟩
  exact ⟨v, rfl, Kd.R_of_own ho (fun _ _ => trivial), hb⟩
 ·cases h

/-! ### wigeonref05_textOK: function 86 -/
def wigeonref05_textOK.f (k : Nat) (l0 : List ByteArray) (a1 : ByteArray) : Option (Int) := (wigeonref05_Validate.f k l0).bind fun t489 => (if t489 = 0 then (if (a1.size : Int) > 60 then (some 3) else ((wigeonref05_isNotes.f k a1).bind fun t490 => (if t490 = true then (some 0) else (some 1)))) else (some t489))
theorem wigeonref05_textOK.mono : ∀ a0 a1 k, LeO (wigeonref05_textOK.f k a0 a1) (wigeonref05_textOK.f (k + 1) a0 a1) := by
 intro a0 a1 k
 unfold wigeonref05_textOK.f
 repeat' first
   | (with_reducible exact wigeonref05_Validate.mono _ _)
   | (with_reducible exact wigeonref05_isNotes.mono _ _)
   | (with_reducible exact LeO.refl _)
   | (with_reducible exact LeO.none _)
   | (with_reducible refine LeO.ite ?_ ?_)
   | (with_reducible refine LeO.bind ?_ (fun _ => ?_))
   | exact wigeonref05_Validate.mono _ _
   | exact wigeonref05_isNotes.mono _ _
   | exact LeO.none _
   | refine LeO.ite ?_ ?_
   | refine LeO.bind ?_ (fun _ => ?_)
set_option maxHeartbeats 8000000 in
set_option maxRecDepth 100000 in
theorem wigeonref05_textOK.calls (k : Nat) (A0 : Option Addr) (c0 : Nat) (l0 : List ByteArray) (a1 : ByteArray) (r : Int) (w : World) (hr0 : Kd.C Kd.string w A0 l0.length l0) (hc0 : l0.length ≤ c0) (h : wigeonref05_textOK.f k l0 a1 = some r) :
  Calls Try.prog 86 #[.slice A0 l0.length c0, .string a1] w fun e w' => e = .returned (.int .i64 r) ∧ Drawn0 w w' := by
 have HR0 := Aside0.mk hr0
 have HC0 := Aside0.mk hc0
 clear hr0 hc0
 have H : ((wigeonref05_Validate.f k l0).bind fun t489 => (if t489 = 0 then (if (a1.size : Int) > 60 then (some 3) else ((wigeonref05_isNotes.f k a1).bind fun t490 => (if t490 = true then (some 0) else (some 1)))) else (some t489))) = some r := h
 clear h
 replace H := Option.bind_eq_some_iff.mp H
 obtain ⟨t489, A30, H⟩ := H
 replace H : (if t489 = 0 then (if (a1.size : Int) > 60 then (some 3) else ((wigeonref05_isNotes.f k a1).bind fun t490 => (if t490 = true then (some 0) else (some 1)))) else (some t489)) = some r := H
 have A3 := Aside0.mk A30
 clear A30
 by_cases c4 : t489 = 0
 ·rw [if_pos c4] at H
  have c4b0 : (t489 == 0) = true := beq_iff_eq.mpr c4
  have c4b1 : (t489 != 0) = false := bne_eq_false_iff_eq.mpr c4
  clear c4
  by_cases c5 : (a1.size : Int) > 60
  ·rw [if_pos c5] at H
   have c5b0 : decide (60 < (a1.size : Int)) = true := decide_eq_true c5
   have c5b1 : decide (60 < a1.size) = true := decide_eq_true (by omega)
   clear c5
   obtain rfl := Option.some.inj H
   go_enter Try.func86, Try.ntmps86
   go_wp2_with (first | ((with_reducible refine gate_callee (f := 33) rfl ?_); refine goesL_ (some 7) rfl rfl Try.func33 (by kernel_rfl) rfl #[.slice A0 l0.length c0] rfl (by (try simp only [List.map_toArray, List.map_cons, List.map_nil]); first | done | rfl | (simp only [List.length_drop, List.length_take]; rfl)) ?_; (with_reducible refine (wigeonref05_Validate.calls k _ _ l0 t489 _ ?side1 ?side2 A3.out).mono ?_); (case side1 => repeat (first | exact HR0.out | (with_reducible refine Kd.C_alloc ?_ _) | (with_reducible refine Kd.C_drewN ?_ _) | (with_reducible refine Kd.C_drew ?_))); (case side2 => exact HC0.out); rintro e w' ⟨rfl, ⟨nd, rfl⟩⟩; refine ⟨_, rfl, ?_⟩))
   go_ret
   exact ⟨by first | rfl | (simp; done) | (simp [*]; done), by repeat (first | exact Drawn0.refl _ | apply Drawn0.step)⟩
  ·rw [if_neg c5] at H
   have c5b0 : decide (60 < (a1.size : Int)) = false := decide_eq_false c5
   have c5b1 : decide (60 < a1.size) = false := decide_eq_false (by omega)
   clear c5
   replace H := Option.bind_eq_some_iff.mp H
   obtain ⟨t490, A60, H⟩ := H
   replace H : (if t490 = true then (some 0) else (some 1)) = some r := H
   have A6 := Aside0.mk A60
   clear A60
   by_cases c7 : t490 = true
   ·subst c7
    have H1 : (some 0) = some r := by rw [if_pos rfl] at H; exact H
    clear H
    have H := H1
    clear H1
    obtain rfl := Option.some.inj H
    go_enter Try.func86, Try.ntmps86
    go_wp2_with (first | ((with_reducible refine gate_callee (f := 33) rfl ?_); refine goesL_ (some 7) rfl rfl Try.func33 (by kernel_rfl) rfl #[.slice A0 l0.length c0] rfl (by (try simp only [List.map_toArray, List.map_cons, List.map_nil]); first | done | rfl | (simp only [List.length_drop, List.length_take]; rfl)) ?_; (with_reducible refine (wigeonref05_Validate.calls k _ _ l0 t489 _ ?side1 ?side2 A3.out).mono ?_); (case side1 => repeat (first | exact HR0.out | (with_reducible refine Kd.C_alloc ?_ _) | (with_reducible refine Kd.C_drewN ?_ _) | (with_reducible refine Kd.C_drew ?_))); (case side2 => exact HC0.out); rintro e w' ⟨rfl, ⟨nd, rfl⟩⟩; refine ⟨_, rfl, ?_⟩) | ((with_reducible refine gate_callee (f := 69) rfl ?_); refine goesL_ (some 15) rfl rfl Try.func69 (by kernel_rfl) rfl #[.string a1] rfl (by (try simp only [List.map_toArray, List.map_cons, List.map_nil]); first | done | rfl | (simp only [List.length_drop, List.length_take]; rfl)) ?_; (with_reducible refine (wigeonref05_isNotes.calls k a1 true _ A6.out).mono ?_); rintro e w' ⟨rfl, ⟨nd, rfl⟩⟩; refine ⟨_, rfl, ?_⟩))
    go_ret
    exact ⟨by first | rfl | (simp; done) | (simp [*]; done), by repeat (first | exact Drawn0.refl _ | apply Drawn0.step)⟩
   ·replace c7 := Bool.eq_false_iff.mpr c7
    subst c7
    have H1 : (some 1) = some r := by rw [if_neg (show ¬ (false = true) by decide)] at H; exact H
    clear H
    have H := H1
    clear H1
    obtain rfl := Option.some.inj H
    go_enter Try.func86, Try.ntmps86
    go_wp2_with (first | ((with_reducible refine gate_callee (f := 33) rfl ?_); refine goesL_ (some 7) rfl rfl Try.func33 (by kernel_rfl) rfl #[.slice A0 l0.length c0] rfl (by (try simp only [List.map_toArray, List.map_cons, List.map_nil]); first | done | rfl | (simp only [List.length_drop, List.length_take]; rfl)) ?_; (with_reducible refine (wigeonref05_Validate.calls k _ _ l0 t489 _ ?side1 ?side2 A3.out).mono ?_); (case side1 => repeat (first | exact HR0.out | (with_reducible refine Kd.C_alloc ?_ _) | (with_reducible refine Kd.C_drewN ?_ _) | (with_reducible refine Kd.C_drew ?_))); (case side2 => exact HC0.out); rintro e w' ⟨rfl, ⟨nd, rfl⟩⟩; refine ⟨_, rfl, ?_⟩) | ((with_reducible refine gate_callee (f := 69) rfl ?_); refine goesL_ (some 15) rfl rfl Try.func69 (by kernel_rfl) rfl #[.string a1] rfl (by (try simp only [List.map_toArray, List.map_cons, List.map_nil]); first | done | rfl | (simp only [List.length_drop, List.length_take]; rfl)) ?_; (with_reducible refine (wigeonref05_isNotes.calls k a1 false _ A6.out).mono ?_); rintro e w' ⟨rfl, ⟨nd, rfl⟩⟩; refine ⟨_, rfl, ?_⟩))
    go_ret
    exact ⟨by first | rfl | (simp; done) | (simp [*]; done), by repeat (first | exact Drawn0.refl _ | apply Drawn0.step)⟩
 ·rw [if_neg c4] at H
  have c4b0 : (t489 == 0) = false := beq_eq_false_iff_ne.mpr c4
  have c4b1 : (t489 != 0) = true := bne_iff_ne.mpr c4
  obtain rfl := Option.some.inj H
  go_enter Try.func86, Try.ntmps86
  go_wp2_with (first | ((with_reducible refine gate_callee (f := 33) rfl ?_); refine goesL_ (some 7) rfl rfl Try.func33 (by kernel_rfl) rfl #[.slice A0 l0.length c0] rfl (by (try simp only [List.map_toArray, List.map_cons, List.map_nil]); first | done | rfl | (simp only [List.length_drop, List.length_take]; rfl)) ?_; (with_reducible refine (wigeonref05_Validate.calls k _ _ l0 t489 _ ?side1 ?side2 A3.out).mono ?_); (case side1 => repeat (first | exact HR0.out | (with_reducible refine Kd.C_alloc ?_ _) | (with_reducible refine Kd.C_drewN ?_ _) | (with_reducible refine Kd.C_drew ?_))); (case side2 => exact HC0.out); rintro e w' ⟨rfl, ⟨nd, rfl⟩⟩; refine ⟨_, rfl, ?_⟩))
  go_ret
  exact ⟨by first | rfl | (simp; done) | (simp [*]; done), by repeat (first | exact Drawn0.refl _ | apply Drawn0.step)⟩

/-! ### wigeonref05_Commands: function 42 -/
mutual
def wigeonref05_Commands.l0 : Nat → List ByteArray → ByteArray → List ByteArray → Bool → Option (List ByteArray × ByteArray × Int)
 | 0, _, _, _, _ => none
 | k + 1, x0, x1, x8, x9 => if x9 = true then (wigeonref05_Commands.l1 k x0 x1 x8 false 0) else (some (x8, x1, 0))
def wigeonref05_Commands.l1 : Nat → List ByteArray → ByteArray → List ByteArray → Bool → Int → Option (List ByteArray × ByteArray × Int)
 | 0, _, _, _, _, _ => none
 | k + 1, x0, x1, x8, x9, x10 => if x10 < (x0.length : Int) then (wigeonref05_Commands.j2 k x0 x1 x8 x9 x10 (!x9)) else (wigeonref05_Commands.j2 k x0 x1 x8 x9 x10 false)
def wigeonref05_Commands.j2 : Nat → List ByteArray → ByteArray → List ByteArray → Bool → Int → Bool → Option (List ByteArray × ByteArray × Int)
 | 0, _, _, _, _, _, _ => none
 | k + 1, x0, x1, x8, x9, x10, x25 => if x25 = true then (if 0 ≤ x10 then (if x10 < (x0.length : Int) then ((wigeonref05_begins.f x1 (rdOf ByteArray.empty x0 x10)).bind fun t493 => (if t493 = true then (if x8.length < 8796093022208 then (if 0 ≤ ((rdOf ByteArray.empty x0 x10).size : Int) then (if ((rdOf ByteArray.empty x0 x10).size : Int) ≤ (x1.size : Int) then (wigeonref05_Commands.l1 k x0 (x1.extract (((rdOf ByteArray.empty x0 x10).size : Int) : Int).toNat x1.size) (x8 ++ [rdOf ByteArray.empty x0 x10]) true (wrap64 (x10 + 1))) else (none)) else (none)) else (none)) else (wigeonref05_Commands.l1 k x0 x1 x8 x9 (wrap64 (x10 + 1))))) else (none)) else (none)) else (wigeonref05_Commands.l0 k x0 x1 x8 x9)
end
def wigeonref05_Commands.f (k : Nat) (l0 : List ByteArray) (a1 : ByteArray) : Option (List ByteArray × ByteArray × Int) := (wigeonref05_textOK.f k l0 a1).bind fun t491 => (if t491 = 0 then (wigeonref05_Commands.l0 k l0 a1 ([] : List ByteArray) true) else (some (([] : List ByteArray), (⟨#[]⟩ : ByteArray), t491)))
theorem wigeonref05_Commands.mono_l : ∀ k, (∀ y0 y1 y2 y3, LeO (wigeonref05_Commands.l0 k y0 y1 y2 y3) (wigeonref05_Commands.l0 (k + 1) y0 y1 y2 y3)) ∧ (∀ y0 y1 y2 y3 y4, LeO (wigeonref05_Commands.l1 k y0 y1 y2 y3 y4) (wigeonref05_Commands.l1 (k + 1) y0 y1 y2 y3 y4)) ∧ (∀ y0 y1 y2 y3 y4 y5, LeO (wigeonref05_Commands.j2 k y0 y1 y2 y3 y4 y5) (wigeonref05_Commands.j2 (k + 1) y0 y1 y2 y3 y4 y5))
 | 0 => ⟨fun _ _ _ _ r h => by simp [wigeonref05_Commands.l0] at h, fun _ _ _ _ _ r h => by simp [wigeonref05_Commands.l1] at h, fun _ _ _ _ _ _ r h => by simp [wigeonref05_Commands.j2] at h⟩
 | k + 1 => by
  obtain ⟨ih0, ih1, ih2⟩ := wigeonref05_Commands.mono_l k
  refine ⟨?_, ?_, ?_⟩
  ·intro y0 y1 y2 y3
   unfold wigeonref05_Commands.l0
   repeat' first
   | (with_reducible exact ih0 _ _ _ _)
   | (with_reducible exact ih1 _ _ _ _ _)
   | (with_reducible exact ih2 _ _ _ _ _ _)
   | (with_reducible exact wigeonref05_textOK.mono _ _ _)
   | (with_reducible exact LeO.refl _)
   | (with_reducible exact LeO.none _)
   | (with_reducible refine LeO.ite ?_ ?_)
   | (with_reducible refine LeO.bind ?_ (fun _ => ?_))
   | exact ih0 _ _ _ _
   | exact ih1 _ _ _ _ _
   | exact ih2 _ _ _ _ _ _
   | exact wigeonref05_textOK.mono _ _ _
   | exact LeO.none _
   | refine LeO.ite ?_ ?_
   | refine LeO.bind ?_ (fun _ => ?_)
  ·intro y0 y1 y2 y3 y4
   unfold wigeonref05_Commands.l1
   repeat' first
   | (with_reducible exact ih0 _ _ _ _)
   | (with_reducible exact ih1 _ _ _ _ _)
   | (with_reducible exact ih2 _ _ _ _ _ _)
   | (with_reducible exact wigeonref05_textOK.mono _ _ _)
   | (with_reducible exact LeO.refl _)
   | (with_reducible exact LeO.none _)
   | (with_reducible refine LeO.ite ?_ ?_)
   | (with_reducible refine LeO.bind ?_ (fun _ => ?_))
   | exact ih0 _ _ _ _
   | exact ih1 _ _ _ _ _
   | exact ih2 _ _ _ _ _ _
   | exact wigeonref05_textOK.mono _ _ _
   | exact LeO.none _
   | refine LeO.ite ?_ ?_
   | refine LeO.bind ?_ (fun _ => ?_)
  ·intro y0 y1 y2 y3 y4 y5
   unfold wigeonref05_Commands.j2
   repeat' first
   | (with_reducible exact ih0 _ _ _ _)
   | (with_reducible exact ih1 _ _ _ _ _)
   | (with_reducible exact ih2 _ _ _ _ _ _)
   | (with_reducible exact wigeonref05_textOK.mono _ _ _)
   | (with_reducible exact LeO.refl _)
   | (with_reducible exact LeO.none _)
   | (with_reducible refine LeO.ite ?_ ?_)
   | (with_reducible refine LeO.bind ?_ (fun _ => ?_))
   | exact ih0 _ _ _ _
   | exact ih1 _ _ _ _ _
   | exact ih2 _ _ _ _ _ _
   | exact wigeonref05_textOK.mono _ _ _
   | exact LeO.none _
   | refine LeO.ite ?_ ?_
   | refine LeO.bind ?_ (fun _ => ?_)
theorem wigeonref05_Commands.mono : ∀ a0 a1 k, LeO (wigeonref05_Commands.f k a0 a1) (wigeonref05_Commands.f (k + 1) a0 a1) := by
 intro a0 a1 k
 obtain ⟨ih0, ih1, ih2⟩ := wigeonref05_Commands.mono_l k
 unfold wigeonref05_Commands.f
 repeat' first
   | (with_reducible exact ih0 _ _ _ _)
   | (with_reducible exact ih1 _ _ _ _ _)
   | (with_reducible exact ih2 _ _ _ _ _ _)
   | (with_reducible exact wigeonref05_textOK.mono _ _ _)
   | (with_reducible exact LeO.refl _)
   | (with_reducible exact LeO.none _)
   | (with_reducible refine LeO.ite ?_ ?_)
   | (with_reducible refine LeO.bind ?_ (fun _ => ?_))
   | exact ih0 _ _ _ _
   | exact ih1 _ _ _ _ _
   | exact ih2 _ _ _ _ _ _
   | exact wigeonref05_textOK.mono _ _ _
   | exact LeO.none _
   | refine LeO.ite ?_ ?_
   | refine LeO.bind ?_ (fun _ => ?_)
set_option maxHeartbeats 8000000 in
set_option maxRecDepth 100000 in
theorem wigeonref05_Commands.calls (k : Nat) (A0 : Option Addr) (c0 : Nat) (l0 : List ByteArray) (a1 : ByteArray) (r1 : List ByteArray) (r2 : ByteArray) (r3 : Int) (w : World) (hr0 : Kd.C Kd.string w A0 l0.length l0) (hc0 : l0.length ≤ c0) (h : wigeonref05_Commands.f k l0 a1 = some (r1, r2, r3)) :
  Calls Try.prog 42 #[.slice A0 l0.length c0, .string a1] w fun e w' => ∃ v0_ : Value, e = .returned (.tuple #[v0_, .string r2, .int .i64 r3]) ∧ Kd.R Kd.string 9 w' w.heap.size (fun _ => True) v0_ r1 ∧ Below w.heap.size w w' := by
 have HR0 := Aside0.mk hr0
 have HC0 := Aside0.mk hc0
 clear hr0 hc0
 have HB := Aside0.mk (Below.refl w.heap.size w)
 have H : ((wigeonref05_textOK.f k l0 a1).bind fun t491 => (if t491 = 0 then (wigeonref05_Commands.l0 k l0 a1 ([] : List ByteArray) true) else (some (([] : List ByteArray), (⟨#[]⟩ : ByteArray), t491)))) = some (r1, r2, r3) := h
 clear h
 replace H := Option.bind_eq_some_iff.mp H
 obtain ⟨t491, A30, H⟩ := H
 replace H : (if t491 = 0 then (wigeonref05_Commands.l0 k l0 a1 ([] : List ByteArray) true) else (some (([] : List ByteArray), (⟨#[]⟩ : ByteArray), t491))) = some (r1, r2, r3) := H
 have A3 := Aside0.mk A30
 clear A30
 by_cases c4 : t491 = 0
 ·rw [if_pos c4] at H
  have c4b0 : (t491 == 0) = true := beq_iff_eq.mpr c4
  have c4b1 : (t491 != 0) = false := bne_eq_false_iff_eq.mpr c4
  clear c4
  have H' := Aside0.mk H
  clear H
  go_enter Try.func42, Try.ntmps42
  go_wp2_with (first | ((with_reducible refine gate_callee (f := 86) rfl ?_); refine goesL_ (some 13) rfl rfl Try.func86 (by kernel_rfl) rfl #[.slice A0 l0.length c0, .string a1] rfl (by (try simp only [List.map_toArray, List.map_cons, List.map_nil]); first | done | rfl | (simp only [List.length_drop, List.length_take]; rfl)) ?_; (with_reducible refine (wigeonref05_textOK.calls k _ _ l0 a1 t491 _ ?side1 ?side2 A3.out).mono ?_); (case side1 => repeat (first | exact HR0.out | (with_reducible refine Kd.C_alloc ?_ _) | (with_reducible refine Kd.C_drewN ?_ _) | (with_reducible refine Kd.C_drew ?_))); (case side2 => exact HC0.out); rintro e w' ⟨rfl, ⟨nd, rfl⟩⟩; refine ⟨_, rfl, ?_⟩))
  go_loopg [1, 8, 9] k (fun kq v1 v8 v9 w' => ∃ (x1_1 : ByteArray) (x8_1 : List ByteArray) (x9_1 : Bool), v1 = .string x1_1 ∧ v9 = .bool x9_1 ∧ Aside0 (wigeonref05_Commands.l0 kq l0 x1_1 x8_1 x9_1 = some (r1, r2, r3)) ∧ Aside0 (kq ≤ k) ∧ Aside0 (Kd.R Kd.string 9 w' w.heap.size (fun _ => True) v8 x8_1) ∧ Aside0 (Below w.heap.size w w'))
  case atStart => exact ⟨(a1), (([] : List ByteArray)), (true), (by first | rfl | (simp; done) | (simp [*]; done)), (by first | rfl | (simp; done) | (simp [*]; done)), H', ⟨Nat.le_refl _⟩, ⟨by first | exact Kd.R_nil _ _ _ _ _ | exact Kd.N_nil _ _ _ _ _ | exact Kd.V_nil _ _ _ _ _ | exact Kd.Q_nil _ _ _ _ _ | exact Kd.S_nil _ _ _ _ _⟩, ⟨by repeat (first | (with_reducible first | exact HB.out | apply below_alloc | apply pw_below_drewN | apply below_drew1) | exact HB.out)⟩⟩
  case round =>
   clear H'
   try clear p2
   try clear c4
   try clear c4b0
   try clear c4b1
   obtain ⟨x1_1, x8_1, x9_1, rfl, rfl, HA, HK1, HO_8, HB⟩ := hrel
   cases gk with
   | zero => exact absurd HA.out (by simp [wigeonref05_Commands.l0])
   | succ k1 =>
    have H := HA.out
    clear HA
    simp only [wigeonref05_Commands.l0] at H
    by_cases c5 : x9_1 = true
    ·subst c5
     have H1 : (wigeonref05_Commands.l1 k1 l0 x1_1 x8_1 false 0) = some (r1, r2, r3) := by rw [if_pos rfl] at H; exact H
     clear H
     have H := H1
     clear H1
     have H' := Aside0.mk H
     clear H
     go_wp2
     go_loopg [1, 8, 9, 10] k1 (fun kq v1 v8 v9 v10 w' => ∃ (x1_2 : ByteArray) (x8_2 : List ByteArray) (x9_2 : Bool) (x10_2 : Int), v1 = .string x1_2 ∧ v9 = .bool x9_2 ∧ v10 = .int .i64 x10_2 ∧ Aside0 (wigeonref05_Commands.l1 kq l0 x1_2 x8_2 x9_2 x10_2 = some (r1, r2, r3)) ∧ Aside0 (kq ≤ k1) ∧ Aside0 (Kd.R Kd.string 9 w' w.heap.size (fun _ => True) v8 x8_2) ∧ Aside0 (Below w.heap.size w w'))
     case atStart => exact ⟨(x1_1), (x8_1), (false), (0), (by first | rfl | (simp; done) | (simp [*]; done)), (by first | rfl | (simp; done) | (simp [*]; done)), (by first | rfl | (simp; done) | (simp [*]; done)), H', ⟨Nat.le_refl _⟩, ⟨by (with_reducible repeat (first | apply Kd.R_alloc | apply Kd.R_drewN | apply Kd.R_drew)); exact HO_8.out⟩, ⟨by repeat (first | (with_reducible first | exact HB.out | apply below_alloc | apply pw_below_drewN | apply below_drew1) | exact HB.out)⟩⟩
     case round =>
      clear H'
      try clear p2
      try clear c4
      try clear c4b0
      try clear c4b1
      try clear c5
      try clear p2
      obtain ⟨x1_2, x8_2, x9_2, x10_2, rfl, rfl, rfl, HA, HK2, HO_8, HB⟩ := hrel
      cases gk with
      | zero => exact absurd HA.out (by simp [wigeonref05_Commands.l1])
      | succ k2 =>
       have H := HA.out
       clear HA
       simp only [wigeonref05_Commands.l1] at H
       have HC6 := Aside0.mk H
       clear H
       go_upto_region 9 with (fail)
       go_cut [25] (fun v25 wc => ∃ (kq : Nat) (x25_5 : Bool), v25 = .bool x25_5 ∧ Aside0 (wigeonref05_Commands.j2 kq l0 x1_2 x8_2 x9_2 x10_2 x25_5 = some (r1, r2, r3)) ∧ Aside0 (kq ≤ k2) ∧ Aside0 (Kd.R Kd.string 9 wc w.heap.size (fun _ => True) u8 x8_2) ∧ Aside0 (Below w.heap.size w wc))
       case first =>
        have H := HC6.out
        clear HC6
        by_cases c7 : x10_2 < (l0.length : Int)
        ·rw [if_pos c7] at H
         have c7b0 : decide (x10_2 < (l0.length : Int)) = true := decide_eq_true c7
         clear c7
         (first | rw [c7b0] | (simp only [i64_w, i32_w]; rw [c7b0]) | skip)
         have H' := Aside0.mk H
         clear H
         go_wp2
         go_meet
         case rel => exact ⟨_, (!x9_2), (by first | rfl | (simp; done) | (simp [*]; done)), H', ⟨by have := HK1.out; have := HK2.out; first | omega | exact Nat.le_refl _⟩, ⟨by (with_reducible repeat (first | apply Kd.R_alloc | apply Kd.R_drewN | apply Kd.R_drew)); exact HO_8.out⟩, ⟨by repeat (first | (with_reducible first | exact HB.out | apply below_alloc | apply pw_below_drewN | apply below_drew1) | exact HB.out)⟩⟩
        ·rw [if_neg c7] at H
         have c7b0 : decide (x10_2 < (l0.length : Int)) = false := decide_eq_false c7
         clear c7
         (first | rw [c7b0] | (simp only [i64_w, i32_w]; rw [c7b0]) | skip)
         have H' := Aside0.mk H
         clear H
         go_wp2
         go_meet
         case rel => exact ⟨_, (false), (by first | rfl | (simp; done) | (simp [*]; done)), H', ⟨by have := HK1.out; have := HK2.out; first | omega | exact Nat.le_refl _⟩, ⟨by (with_reducible repeat (first | apply Kd.R_alloc | apply Kd.R_drewN | apply Kd.R_drew)); exact HO_8.out⟩, ⟨by repeat (first | (with_reducible first | exact HB.out | apply below_alloc | apply pw_below_drewN | apply below_drew1) | exact HB.out)⟩⟩
       case rest =>
        clear HC6
        try clear p2
        try clear c4
        try clear c4b0
        try clear c4b1
        try clear c5
        try clear c7
        try clear c7b0
        try clear p2
        obtain ⟨kq, x25_5, rfl, HA, HJ5, HO_8, HB⟩ := hcut
        cases kq with
        | zero => exact absurd HA.out (by simp [wigeonref05_Commands.j2])
        | succ kj5 =>
         have H := HA.out
         clear HA
         simp only [wigeonref05_Commands.j2] at H
         by_cases c8 : x25_5 = true
         ·subst c8
          have H1 : (if 0 ≤ x10_2 then (if x10_2 < (l0.length : Int) then ((wigeonref05_begins.f x1_2 (rdOf ByteArray.empty l0 x10_2)).bind fun t493 => (if t493 = true then (if x8_2.length < 8796093022208 then (if 0 ≤ ((rdOf ByteArray.empty l0 x10_2).size : Int) then (if ((rdOf ByteArray.empty l0 x10_2).size : Int) ≤ (x1_2.size : Int) then (wigeonref05_Commands.l1 kj5 l0 (x1_2.extract (((rdOf ByteArray.empty l0 x10_2).size : Int) : Int).toNat x1_2.size) (x8_2 ++ [rdOf ByteArray.empty l0 x10_2]) true (wrap64 (x10_2 + 1))) else (none)) else (none)) else (none)) else (wigeonref05_Commands.l1 kj5 l0 x1_2 x8_2 x9_2 (wrap64 (x10_2 + 1))))) else (none)) else (none)) = some (r1, r2, r3) := by rw [if_pos rfl] at H; exact H
          clear H
          have H := H1
          clear H1
          by_cases c9 : 0 ≤ x10_2
          ·rw [if_pos c9] at H
           have c9b0 : decide (0 ≤ x10_2) = true := decide_eq_true c9
           clear c9
           by_cases c10 : x10_2 < (l0.length : Int)
           ·rw [if_pos c10] at H
            have c10b0 : decide (x10_2 < (l0.length : Int)) = true := decide_eq_true c10
            clear c10
            replace H := Option.bind_eq_some_iff.mp H
            obtain ⟨t493, A110, H⟩ := H
            replace H : (if t493 = true then (if x8_2.length < 8796093022208 then (if 0 ≤ ((rdOf ByteArray.empty l0 x10_2).size : Int) then (if ((rdOf ByteArray.empty l0 x10_2).size : Int) ≤ (x1_2.size : Int) then (wigeonref05_Commands.l1 kj5 l0 (x1_2.extract (((rdOf ByteArray.empty l0 x10_2).size : Int) : Int).toNat x1_2.size) (x8_2 ++ [rdOf ByteArray.empty l0 x10_2]) true (wrap64 (x10_2 + 1))) else (none)) else (none)) else (none)) else (wigeonref05_Commands.l1 kj5 l0 x1_2 x8_2 x9_2 (wrap64 (x10_2 + 1)))) = some (r1, r2, r3) := H
            have A11 := Aside0.mk A110
            clear A110
            by_cases c12 : t493 = true
            ·subst c12
             have H1 : (if x8_2.length < 8796093022208 then (if 0 ≤ ((rdOf ByteArray.empty l0 x10_2).size : Int) then (if ((rdOf ByteArray.empty l0 x10_2).size : Int) ≤ (x1_2.size : Int) then (wigeonref05_Commands.l1 kj5 l0 (x1_2.extract (((rdOf ByteArray.empty l0 x10_2).size : Int) : Int).toNat x1_2.size) (x8_2 ++ [rdOf ByteArray.empty l0 x10_2]) true (wrap64 (x10_2 + 1))) else (none)) else (none)) else (none)) = some (r1, r2, r3) := by rw [if_pos rfl] at H; exact H
             clear H
             have H := H1
             clear H1
             by_cases c13 : x8_2.length < 8796093022208
             ·rw [if_pos c13] at H
              have LMc13 := Aside0.mk c13
              clear c13
              obtain ⟨y495, hy495⟩ : ∃ y_ : List ByteArray, y_ = (x8_2 ++ [rdOf ByteArray.empty l0 x10_2]) := ⟨_, rfl⟩
              replace H : (if 0 ≤ ((rdOf ByteArray.empty l0 x10_2).size : Int) then (if ((rdOf ByteArray.empty l0 x10_2).size : Int) ≤ (x1_2.size : Int) then (wigeonref05_Commands.l1 kj5 l0 (x1_2.extract (((rdOf ByteArray.empty l0 x10_2).size : Int) : Int).toNat x1_2.size) y495 true (wrap64 (x10_2 + 1))) else (none)) else (none)) = some (r1, r2, r3) := by first | (rw [hy495]; with_reducible exact H) | (have H2_ := (Option.bind_some _ _).symm.trans H; rw [hy495]; with_reducible exact H2_) | (have H2_ := (Option.bind_some _ _).symm.trans H; with_reducible exact H2_) | with_reducible exact H | (rw [hy495]; exact H) | exact H
              have Ny495 := Aside0.mk hy495
              clear hy495
              by_cases c14 : 0 ≤ ((rdOf ByteArray.empty l0 x10_2).size : Int)
              ·rw [if_pos c14] at H
               have c14b0 := eq_true c14
               have c14b1 : decide (0 ≤ ((rdOf ByteArray.empty l0 x10_2).size : Int)) = true := decide_eq_true c14
               clear c14
               by_cases c15 : ((rdOf ByteArray.empty l0 x10_2).size : Int) ≤ (x1_2.size : Int)
               ·rw [if_pos c15] at H
                have c15b0 := eq_true c15
                have c15b1 : decide (((rdOf ByteArray.empty l0 x10_2).size : Int) ≤ (x1_2.size : Int)) = true := decide_eq_true c15
                clear c15
                have H' := Aside0.mk H
                clear H
                have p492 : 0 ≤ (x10_2 : Int) := of_decide_eq_true (by first | (with_reducible assumption) | assumption)
                have q492 : x10_2 < (l0.length : Int) := of_decide_eq_true (by first | (with_reducible assumption) | assumption)
                obtain ⟨ad492, e492, hx492_0⟩ := Kd.at_string HR0.out x10_2 p492 q492
                cases e492
                replace hx492_0 := (HB.out.cell (World.block_lt_of_cell? w _ hx492_0)).trans hx492_0
                replace p492 := eq_true p492
                replace q492 := eq_true q492
                go_wp2_with (first | ((with_reducible refine gate_callee (f := 59) rfl ?_); refine goesL_ (some 33) rfl rfl Try.func59 (by kernel_rfl) rfl #[.string x1_2, .string (rdOf ByteArray.empty l0 x10_2)] rfl (by (try simp only [List.map_toArray, List.map_cons, List.map_nil]); first | done | rfl | (simp only [List.length_drop, List.length_take]; rfl)) ?_; (with_reducible refine (wigeonref05_begins.calls x1_2 (rdOf ByteArray.empty l0 x10_2) true _ A11.out).mono ?_); rintro e w' ⟨rfl, ⟨nd, rfl⟩⟩; refine ⟨_, rfl, ?_⟩; have p494 : 0 ≤ (x10_2 : Int) := of_decide_eq_true (by first | (with_reducible assumption) | assumption); have q494 : x10_2 < (l0.length : Int) := of_decide_eq_true (by first | (with_reducible assumption) | assumption); obtain ⟨ad494, e494, hx494_0⟩ := Kd.at_string HR0.out x10_2 p494 q494; obtain rfl : ad492 = ad494 := (by injection e494); replace hx494_0 := (HB.out.cell (World.block_lt_of_cell? w _ hx494_0)).trans hx494_0; replace p494 := eq_true p494; replace q494 := eq_true q494) | ((with_reducible refine gate_builtin (b := .append) (xs := #[.tmp 34, .tmp 39]) rfl ?_); at_builtin; refine Kd.R_append Kd.string (w0 := w) w.heap.size rfl (.tmp 34) (.tmp 39) 22 9 (.string ⟨#[]⟩) 16 rfl Try.underlying22 info9 rfl (by decide) (by omega) u8 x8_2 (rdOf ByteArray.empty l0 x10_2) [.string (rdOf ByteArray.empty l0 x10_2)] (fun _ => True) (fun _ => False) rfl rfl ?aP (fun _ hk => hk.elim) ?aF ?aO ?aB ?aS ?aL ?_; (case aP => exact rfl); (case aB => exact (by repeat (first | (with_reducible first | exact HB.out | apply below_alloc | apply pw_below_drewN | apply below_drew1) | exact HB.out))); (case aF => exact (fun _ _ => trivial)); (case aO => exact (by (with_reducible repeat (first | apply Kd.R_alloc | apply Kd.R_drewN | apply Kd.R_drew)); exact HO_8.out)); (case aS => exact (below_size (by repeat (first | (with_reducible first | exact HB.out | apply below_alloc | apply pw_below_drewN | apply below_drew1) | exact HB.out)))); (case aL => have := LMc13.out; omega); intro v496 w16 ho hb hg hat; rw [← Ny495.out] at ho; have n0_ := Aside0.mk (hb); have n1_ := Aside0.mk (ho); clear HB; clear HO_8; have HB := n0_; have HO497 := n1_; clear n0_ n1_; clear ho hb hg hat; have p498 : 0 ≤ (x10_2 : Int) := of_decide_eq_true (by first | (with_reducible assumption) | assumption); have q498 : x10_2 < (l0.length : Int) := of_decide_eq_true (by first | (with_reducible assumption) | assumption); obtain ⟨ad498, e498, hx498_0⟩ := Kd.at_string HR0.out x10_2 p498 q498; obtain rfl : ad492 = ad498 := (by injection e498); replace hx498_0 := (HB.out.cell (World.block_lt_of_cell? w _ hx498_0)).trans hx498_0; replace p498 := eq_true p498; replace q498 := eq_true q498))
                go_roundg kj5
                case measure => have := HK1.out; have := HK2.out; have := HJ5.out; omega
                case rel => exact ⟨(x1_2.extract (((rdOf ByteArray.empty l0 x10_2).size : Int) : Int).toNat x1_2.size), (y495), (true), (wrap64 (x10_2 + 1)), (by first | rfl | (simp; done) | (simp [*]; done)), (by first | rfl | (simp; done) | (simp [*]; done)), (by first | rfl | (simp; done) | (simp [*]; done)), H', ⟨by have := HK1.out; have := HK2.out; have := HJ5.out; omega⟩, ⟨by (with_reducible repeat (first | apply Kd.R_alloc | apply Kd.R_drewN | apply Kd.R_drew)); exact HO497.out⟩, ⟨by repeat (first | (with_reducible first | exact HB.out | apply below_alloc | apply pw_below_drewN | apply below_drew1) | exact HB.out)⟩⟩
               ·rw [if_neg c15] at H
                exact absurd H (by simp)
              ·rw [if_neg c14] at H
               exact absurd H (by simp)
             ·rw [if_neg c13] at H
              exact absurd H (by simp)
            ·replace c12 := Bool.eq_false_iff.mpr c12
             subst c12
             have H1 : (wigeonref05_Commands.l1 kj5 l0 x1_2 x8_2 x9_2 (wrap64 (x10_2 + 1))) = some (r1, r2, r3) := by rw [if_neg (show ¬ (false = true) by decide)] at H; exact H
             clear H
             have H := H1
             clear H1
             have H' := Aside0.mk H
             clear H
             have p492 : 0 ≤ (x10_2 : Int) := of_decide_eq_true (by first | (with_reducible assumption) | assumption)
             have q492 : x10_2 < (l0.length : Int) := of_decide_eq_true (by first | (with_reducible assumption) | assumption)
             obtain ⟨ad492, e492, hx492_0⟩ := Kd.at_string HR0.out x10_2 p492 q492
             cases e492
             replace hx492_0 := (HB.out.cell (World.block_lt_of_cell? w _ hx492_0)).trans hx492_0
             replace p492 := eq_true p492
             replace q492 := eq_true q492
             go_wp2_with (first | ((with_reducible refine gate_callee (f := 59) rfl ?_); refine goesL_ (some 33) rfl rfl Try.func59 (by kernel_rfl) rfl #[.string x1_2, .string (rdOf ByteArray.empty l0 x10_2)] rfl (by (try simp only [List.map_toArray, List.map_cons, List.map_nil]); first | done | rfl | (simp only [List.length_drop, List.length_take]; rfl)) ?_; (with_reducible refine (wigeonref05_begins.calls x1_2 (rdOf ByteArray.empty l0 x10_2) false _ A11.out).mono ?_); rintro e w' ⟨rfl, ⟨nd, rfl⟩⟩; refine ⟨_, rfl, ?_⟩))
             go_roundg kj5
             case measure => have := HK1.out; have := HK2.out; have := HJ5.out; omega
             case rel => exact ⟨(x1_2), (x8_2), (x9_2), (wrap64 (x10_2 + 1)), (by first | rfl | (simp; done) | (simp [*]; done)), (by first | rfl | (simp; done) | (simp [*]; done)), (by first | rfl | (simp; done) | (simp [*]; done)), H', ⟨by have := HK1.out; have := HK2.out; have := HJ5.out; omega⟩, ⟨by (with_reducible repeat (first | apply Kd.R_alloc | apply Kd.R_drewN | apply Kd.R_drew)); exact HO_8.out⟩, ⟨by repeat (first | (with_reducible first | exact HB.out | apply below_alloc | apply pw_below_drewN | apply below_drew1) | exact HB.out)⟩⟩
           ·rw [if_neg c10] at H
            exact absurd H (by simp)
          ·rw [if_neg c9] at H
           exact absurd H (by simp)
         ·replace c8 := Bool.eq_false_iff.mpr c8
          subst c8
          have H1 : (wigeonref05_Commands.l0 kj5 l0 x1_2 x8_2 x9_2) = some (r1, r2, r3) := by rw [if_neg (show ¬ (false = true) by decide)] at H; exact H
          clear H
          have H := H1
          clear H1
          have H' := Aside0.mk H
          clear H
          go_wp2
          go_roundg kj5
          case measure => have := HK1.out; have := HK2.out; have := HJ5.out; omega
          case rel => exact ⟨(x1_2), (x8_2), (x9_2), (by first | rfl | (simp; done) | (simp [*]; done)), (by first | rfl | (simp; done) | (simp [*]; done)), H', ⟨by have := HK1.out; have := HK2.out; have := HJ5.out; omega⟩, ⟨by (with_reducible repeat (first | apply Kd.R_alloc | apply Kd.R_drewN | apply Kd.R_drew)); exact HO_8.out⟩, ⟨by repeat (first | (with_reducible first | exact HB.out | apply below_alloc | apply pw_below_drewN | apply below_drew1) | exact HB.out)⟩⟩
    ·replace c5 := Bool.eq_false_iff.mpr c5
     subst c5
     have H1 : (some (x8_1, x1_1, 0)) = some (r1, r2, r3) := by rw [if_neg (show ¬ (false = true) by decide)] at H; exact H
     clear H
     have H := H1
     clear H1
     simp only [Option.some.injEq, Prod.mk.injEq] at H
     obtain ⟨rfl, rfl, rfl⟩ := H
     go_wp2
     go_ret3
     exact ⟨_, by first | rfl | (simp [errW_none, errW_some] <;> rfl) | (simp [*, errW_none, errW_some] <;> rfl), by (with_reducible repeat (first | apply Kd.R_alloc | apply Kd.R_drewN | apply Kd.R_drew)); exact HO_8.out, by repeat (first | (with_reducible first | exact HB.out | apply below_alloc | apply pw_below_drewN | apply below_drew1) | exact HB.out)⟩
 ·rw [if_neg c4] at H
  have c4b0 : (t491 == 0) = false := beq_eq_false_iff_ne.mpr c4
  have c4b1 : (t491 != 0) = true := bne_iff_ne.mpr c4
  simp only [Option.some.injEq, Prod.mk.injEq] at H
  obtain ⟨rfl, rfl, rfl⟩ := H
  go_enter Try.func42, Try.ntmps42
  go_wp2_with (first | ((with_reducible refine gate_callee (f := 86) rfl ?_); refine goesL_ (some 13) rfl rfl Try.func86 (by kernel_rfl) rfl #[.slice A0 l0.length c0, .string a1] rfl (by (try simp only [List.map_toArray, List.map_cons, List.map_nil]); first | done | rfl | (simp only [List.length_drop, List.length_take]; rfl)) ?_; (with_reducible refine (wigeonref05_textOK.calls k _ _ l0 a1 t491 _ ?side1 ?side2 A3.out).mono ?_); (case side1 => repeat (first | exact HR0.out | (with_reducible refine Kd.C_alloc ?_ _) | (with_reducible refine Kd.C_drewN ?_ _) | (with_reducible refine Kd.C_drew ?_))); (case side2 => exact HC0.out); rintro e w' ⟨rfl, ⟨nd, rfl⟩⟩; refine ⟨_, rfl, ?_⟩))
  go_ret3
  exact ⟨_, by first | rfl | (simp [errW_none, errW_some] <;> rfl) | (simp [*, errW_none, errW_some] <;> rfl), by first | exact Kd.R_nil _ _ _ _ _ | exact Kd.N_nil _ _ _ _ _ | exact Kd.V_nil _ _ _ _ _ | exact Kd.Q_nil _ _ _ _ _ | exact Kd.S_nil _ _ _ _ _, by repeat (first | (with_reducible first | exact HB.out | apply below_alloc | apply pw_below_drewN | apply below_drew1) | exact HB.out)⟩

end Go.Proofs.Ytpkafcoflgbnaaa.Q
