-- Written by a program of this session (wip/tools/gprint.py, over the kit's print); Lean checks it.
import Derived.Test.YtpkafcoflgbnaaaWh3
import Derived.Test.YtpkafcoflgbnaaaQx0
import Derived.Test.YtpkafcoflgbnaaaQx2
import Derived.Test.YtpkafcoflgbnaaaQx11
namespace Go.Proofs.Ytpkafcoflgbnaaa.Q
open Go.RowKit Go.Proofs.YtpkafcoflgbnaaaW.PrintWords Go.Proofs.YtpkafcoflgbnaaaW.PrintLast Go.Proofs.YtpkafcoflgbnaaaW.PrintMore
attribute [local go_sem] max2_int min2_int max_two min_two max_three min_three max_four min_four   -- for this text's walks alone
set_option linter.unusedVariables false
set_option linter.unusedSimpArgs false

/-! ### wigeonlaw05_many: function 29 -/
def wigeonlaw05_many.f (l0 : List Int) : Option (Bool) := some (decide ((l0.length : Int) > 500))
set_option maxHeartbeats 8000000 in
set_option maxRecDepth 100000 in
theorem wigeonlaw05_many.calls (A0 : Option Addr) (c0 : Nat) (l0 : List Int) (r : Bool) (w : World) (hr0 : Kd.C (Kd.int .i64) w A0 l0.length l0) (hc0 : l0.length ≤ c0) (h : wigeonlaw05_many.f l0 = some r) :
  Calls Try.prog 29 #[.slice A0 l0.length c0] w fun e w' => e = .returned (.bool r) ∧ Drawn0 w w' := by
 have HR0 := Aside0.mk hr0
 have HC0 := Aside0.mk hc0
 clear hr0 hc0
 have H : (some (decide ((l0.length : Int) > 500))) = some r := h
 clear h
 obtain rfl := Option.some.inj H
 go_enter Try.func29, Try.ntmps29
 go_wp2
 go_ret
 exact ⟨by first | rfl | (simp; done) | (simp [*]; done), by repeat (first | exact Drawn0.refl _ | apply Drawn0.step)⟩

/-! ### whistle_isMessage: function 64 -/
def whistle_isMessage.l0 : Nat → List ByteArray → List Int → Int → Int → Option (Int)
 | 0, _, _, _, _ => none
 | k + 1, x0, x10, x11, x12 => if x12 < x11 then (if 0 ≤ x12 then (if x12 < (x10.length : Int) then (if (rd x10 x12) < 0 then (some 4) else (if (rd x10 x12) ≥ (x0.length : Int) then (some 4) else (whistle_isMessage.l0 k x0 x10 x11 (wrap64 (x12 + 1))))) else (none)) else (none)) else (some 0)
def whistle_isMessage.f (k : Nat) (l0 : List ByteArray) (l1 : List Int) : Option (Int) := if (l1.length : Int) > 400 then (some 3) else (whistle_isMessage.l0 k l0 l1 (l1.length : Int) 0)
theorem whistle_isMessage.mono_l : ∀ k, (∀ y0 y1 y2 y3, LeO (whistle_isMessage.l0 k y0 y1 y2 y3) (whistle_isMessage.l0 (k + 1) y0 y1 y2 y3))
 | 0 => fun _ _ _ _ r h => by simp [whistle_isMessage.l0] at h
 | k + 1 => by
  have ih0 := whistle_isMessage.mono_l k
  ·intro y0 y1 y2 y3
   unfold whistle_isMessage.l0
   repeat' first
   | (with_reducible exact ih0 _ _ _ _)
   | (with_reducible exact LeO.refl _)
   | (with_reducible exact LeO.none _)
   | (with_reducible refine LeO.ite ?_ ?_)
   | (with_reducible refine LeO.bind ?_ (fun _ => ?_))
   | exact ih0 _ _ _ _
   | exact LeO.none _
   | refine LeO.ite ?_ ?_
   | refine LeO.bind ?_ (fun _ => ?_)
theorem whistle_isMessage.mono : ∀ a0 a1 k, LeO (whistle_isMessage.f k a0 a1) (whistle_isMessage.f (k + 1) a0 a1) := by
 intro a0 a1 k
 have ih0 := whistle_isMessage.mono_l k
 unfold whistle_isMessage.f
 repeat' first
   | (with_reducible exact ih0 _ _ _ _)
   | (with_reducible exact LeO.refl _)
   | (with_reducible exact LeO.none _)
   | (with_reducible refine LeO.ite ?_ ?_)
   | (with_reducible refine LeO.bind ?_ (fun _ => ?_))
   | exact ih0 _ _ _ _
   | exact LeO.none _
   | refine LeO.ite ?_ ?_
   | refine LeO.bind ?_ (fun _ => ?_)
set_option maxHeartbeats 8000000 in
set_option maxRecDepth 100000 in
theorem whistle_isMessage.calls (k : Nat) (A0 : Option Addr) (c0 : Nat) (l0 : List ByteArray) (A1 : Option Addr) (c1 : Nat) (l1 : List Int) (r : Int) (w : World) (hr0 : Kd.C Kd.string w A0 l0.length l0) (hc0 : l0.length ≤ c0) (hr1 : Kd.C (Kd.int .i64) w A1 l1.length l1) (hc1 : l1.length ≤ c1) (h : whistle_isMessage.f k l0 l1 = some r) :
  Calls Try.prog 64 #[.slice A0 l0.length c0, .slice A1 l1.length c1] w fun e w' => e = .returned (.int .i64 r) ∧ Drawn0 w w' := by
 have HR0 := Aside0.mk hr0
 have HC0 := Aside0.mk hc0
 clear hr0 hc0
 have HR1 := Aside0.mk hr1
 have HC1 := Aside0.mk hc1
 clear hr1 hc1
 have H : (if (l1.length : Int) > 400 then (some 3) else (whistle_isMessage.l0 k l0 l1 (l1.length : Int) 0)) = some r := h
 clear h
 by_cases c3 : (l1.length : Int) > 400
 ·rw [if_pos c3] at H
  have c3b0 : decide (400 < (l1.length : Int)) = true := decide_eq_true c3
  have c3b1 : decide (400 < l1.length) = true := decide_eq_true (by omega)
  clear c3
  obtain rfl := Option.some.inj H
  go_enter Try.func64, Try.ntmps64
  go_wp2
  go_ret
  exact ⟨by first | rfl | (simp; done) | (simp [*]; done), by repeat (first | exact Drawn0.refl _ | apply Drawn0.step)⟩
 ·rw [if_neg c3] at H
  have c3b0 : decide (400 < (l1.length : Int)) = false := decide_eq_false c3
  have c3b1 : decide (400 < l1.length) = false := decide_eq_false (by omega)
  clear c3
  have H' := Aside0.mk H
  clear H
  go_enter Try.func64, Try.ntmps64
  go_wp2
  go_loopg [12] k (fun kq v12 w' => ∃ (x12_1 : Int), v12 = .int .i64 x12_1 ∧ Aside0 (whistle_isMessage.l0 kq l0 l1 (l1.length : Int) x12_1 = some r) ∧ Aside0 (kq ≤ k) ∧ Drawn0 w w')
  case atStart => exact ⟨(0), (by first | rfl | (simp; done) | (simp [*]; done)), H', ⟨Nat.le_refl _⟩, by repeat (first | exact Drawn0.refl _ | apply Drawn0.step)⟩
  case round =>
   clear H'
   try clear c1
   try clear p2
   try clear c3
   try clear c3b0
   try clear c3b1
   obtain ⟨x12_1, rfl, HA, HK1, ⟨m1, rfl⟩⟩ := hrel
   cases gk with
   | zero => exact absurd HA.out (by simp [whistle_isMessage.l0])
   | succ k1 =>
    have H := HA.out
    clear HA
    simp only [whistle_isMessage.l0] at H
    by_cases c4 : x12_1 < (l1.length : Int)
    ·rw [if_pos c4] at H
     have c4b0 : decide (x12_1 < (l1.length : Int)) = true := decide_eq_true c4
     clear c4
     by_cases c5 : 0 ≤ x12_1
     ·rw [if_pos c5] at H
      have c5b0 : decide (0 ≤ x12_1) = true := decide_eq_true c5
      clear c5
      by_cases c6 : x12_1 < (l1.length : Int)
      ·rw [if_pos c6] at H
       have c6b0 : decide (x12_1 < (l1.length : Int)) = true := decide_eq_true c6
       clear c6
       by_cases c7 : (rd l1 x12_1) < 0
       ·rw [if_pos c7] at H
        have c7b0 : decide ((rd l1 x12_1) < 0) = true := decide_eq_true c7
        clear c7
        obtain rfl := Option.some.inj H
        have p448 : 0 ≤ (x12_1 : Int) := of_decide_eq_true (by first | (with_reducible assumption) | assumption)
        have q448 : x12_1 < (l1.length : Int) := of_decide_eq_true (by first | (with_reducible assumption) | assumption)
        obtain ⟨ad448, e448, hx448_0⟩ := Kd.at_int HR1.out x12_1 p448 q448
        cases e448
        replace p448 := eq_true p448
        replace q448 := eq_true q448
        go_wp2
        go_ret
        exact ⟨by first | rfl | (simp; done) | (simp [*]; done), by repeat (first | exact Drawn0.refl _ | apply Drawn0.step)⟩
       ·rw [if_neg c7] at H
        have c7b0 : decide ((rd l1 x12_1) < 0) = false := decide_eq_false c7
        clear c7
        by_cases c8 : (rd l1 x12_1) ≥ (l0.length : Int)
        ·rw [if_pos c8] at H
         have c8b0 : decide ((l0.length : Int) ≤ (rd l1 x12_1)) = true := decide_eq_true c8
         clear c8
         obtain rfl := Option.some.inj H
         have p448 : 0 ≤ (x12_1 : Int) := of_decide_eq_true (by first | (with_reducible assumption) | assumption)
         have q448 : x12_1 < (l1.length : Int) := of_decide_eq_true (by first | (with_reducible assumption) | assumption)
         obtain ⟨ad448, e448, hx448_0⟩ := Kd.at_int HR1.out x12_1 p448 q448
         cases e448
         replace p448 := eq_true p448
         replace q448 := eq_true q448
         go_wp2
         go_ret
         exact ⟨by first | rfl | (simp; done) | (simp [*]; done), by repeat (first | exact Drawn0.refl _ | apply Drawn0.step)⟩
        ·rw [if_neg c8] at H
         have c8b0 : decide ((l0.length : Int) ≤ (rd l1 x12_1)) = false := decide_eq_false c8
         clear c8
         have H' := Aside0.mk H
         clear H
         have p448 : 0 ≤ (x12_1 : Int) := of_decide_eq_true (by first | (with_reducible assumption) | assumption)
         have q448 : x12_1 < (l1.length : Int) := of_decide_eq_true (by first | (with_reducible assumption) | assumption)
         obtain ⟨ad448, e448, hx448_0⟩ := Kd.at_int HR1.out x12_1 p448 q448
         cases e448
         replace p448 := eq_true p448
         replace q448 := eq_true q448
         go_wp2
         go_roundg k1
         case measure => have := HK1.out; omega
         case rel => exact ⟨(wrap64 (x12_1 + 1)), (by first | rfl | (simp; done) | (simp [*]; done)), H', ⟨by have := HK1.out; omega⟩, by repeat (first | exact Drawn0.refl _ | apply Drawn0.step)⟩
      ·rw [if_neg c6] at H
       exact absurd H (by simp)
     ·rw [if_neg c5] at H
      exact absurd H (by simp)
    ·rw [if_neg c4] at H
     have c4b0 : decide (x12_1 < (l1.length : Int)) = false := decide_eq_false c4
     clear c4
     obtain rfl := Option.some.inj H
     go_wp2
     go_ret
     exact ⟨by first | rfl | (simp; done) | (simp [*]; done), by repeat (first | exact Drawn0.refl _ | apply Drawn0.step)⟩

-- NOT PRINTED: function 102 (strings_Builder_WriteString)

/-! ### whistle_sound: function 65 -/
-- GIVEN wigeon/whistle.sound rounds=0 making=1
def whistle_sound.f (l0 : List ByteArray) (l1 : List Int) : Option ByteArray := if okM l0 l1 = true then some (soundB l0 l1) else none
theorem whistle_sound.calls (A0 : Option Addr) (c0 : Nat) (l0 : List ByteArray) (A1 : Option Addr) (c1 : Nat) (l1 : List Int) (r : ByteArray) (w : World) (hr0 : Kd.C Kd.string w A0 l0.length l0) (hc0 : l0.length ≤ c0) (hr1 : Kd.C (Kd.int .i64) w A1 l1.length l1) (hc1 : l1.length ≤ c1) (h : whistle_sound.f l0 l1 = some r) :
  Calls Try.prog 65 #[.slice A0 l0.length c0, .slice A1 l1.length c1] w fun e w' => e = .returned (.string r) ∧ Below w.heap.size w w' := by
 unfold whistle_sound.f at h
 split at h
 ·rename_i hk
  obtain rfl := Option.some.inj h
  exact sound_walk A0 c0 l0 A1 c1 l1 w hr0 hr1 hk
 ·cases h

/-! ### whistle_Sound: function 30 -/
def whistle_Sound.f (k : Nat) (l0 : List ByteArray) (l1 : List Int) : Option (ByteArray × Int) := (whistle_Validate.f k l0).bind fun t449 => (if t449 = 0 then ((whistle_isMessage.f k l0 l1).bind fun t450 => (if t450 = 0 then ((whistle_sound.f l0 l1).bind fun t451 => (some (t451, 0))) else (some ((⟨#[]⟩ : ByteArray), t450)))) else (some ((⟨#[]⟩ : ByteArray), t449)))
theorem whistle_Sound.mono : ∀ a0 a1 k, LeO (whistle_Sound.f k a0 a1) (whistle_Sound.f (k + 1) a0 a1) := by
 intro a0 a1 k
 unfold whistle_Sound.f
 repeat' first
   | (with_reducible exact whistle_Validate.mono _ _)
   | (with_reducible exact whistle_isMessage.mono _ _ _)
   | (with_reducible exact LeO.refl _)
   | (with_reducible exact LeO.none _)
   | (with_reducible refine LeO.ite ?_ ?_)
   | (with_reducible refine LeO.bind ?_ (fun _ => ?_))
   | exact whistle_Validate.mono _ _
   | exact whistle_isMessage.mono _ _ _
   | exact LeO.none _
   | refine LeO.ite ?_ ?_
   | refine LeO.bind ?_ (fun _ => ?_)
set_option maxHeartbeats 8000000 in
set_option maxRecDepth 100000 in
theorem whistle_Sound.calls (k : Nat) (A0 : Option Addr) (c0 : Nat) (l0 : List ByteArray) (A1 : Option Addr) (c1 : Nat) (l1 : List Int) (r1 : ByteArray) (r2 : Int) (w : World) (hr0 : Kd.C Kd.string w A0 l0.length l0) (hc0 : l0.length ≤ c0) (hr1 : Kd.C (Kd.int .i64) w A1 l1.length l1) (hc1 : l1.length ≤ c1) (h : whistle_Sound.f k l0 l1 = some (r1, r2)) :
  Calls Try.prog 30 #[.slice A0 l0.length c0, .slice A1 l1.length c1] w fun e w' => e = .returned (.tuple #[.string r1, .int .i64 r2]) ∧ Below w.heap.size w w' := by
 have HR0 := Aside0.mk hr0
 have HC0 := Aside0.mk hc0
 clear hr0 hc0
 have HR1 := Aside0.mk hr1
 have HC1 := Aside0.mk hc1
 clear hr1 hc1
 have HB := Aside0.mk (Below.refl w.heap.size w)
 have H : ((whistle_Validate.f k l0).bind fun t449 => (if t449 = 0 then ((whistle_isMessage.f k l0 l1).bind fun t450 => (if t450 = 0 then ((whistle_sound.f l0 l1).bind fun t451 => (some (t451, 0))) else (some ((⟨#[]⟩ : ByteArray), t450)))) else (some ((⟨#[]⟩ : ByteArray), t449)))) = some (r1, r2) := h
 clear h
 replace H := Option.bind_eq_some_iff.mp H
 obtain ⟨t449, A30, H⟩ := H
 replace H : (if t449 = 0 then ((whistle_isMessage.f k l0 l1).bind fun t450 => (if t450 = 0 then ((whistle_sound.f l0 l1).bind fun t451 => (some (t451, 0))) else (some ((⟨#[]⟩ : ByteArray), t450)))) else (some ((⟨#[]⟩ : ByteArray), t449))) = some (r1, r2) := H
 have A3 := Aside0.mk A30
 clear A30
 by_cases c4 : t449 = 0
 ·rw [if_pos c4] at H
  have c4b0 : (t449 == 0) = true := beq_iff_eq.mpr c4
  have c4b1 : (t449 != 0) = false := bne_eq_false_iff_eq.mpr c4
  clear c4
  replace H := Option.bind_eq_some_iff.mp H
  obtain ⟨t450, A50, H⟩ := H
  replace H : (if t450 = 0 then ((whistle_sound.f l0 l1).bind fun t451 => (some (t451, 0))) else (some ((⟨#[]⟩ : ByteArray), t450))) = some (r1, r2) := H
  have A5 := Aside0.mk A50
  clear A50
  by_cases c6 : t450 = 0
  ·rw [if_pos c6] at H
   have c6b0 : (t450 == 0) = true := beq_iff_eq.mpr c6
   have c6b1 : (t450 != 0) = false := bne_eq_false_iff_eq.mpr c6
   clear c6
   replace H := Option.bind_eq_some_iff.mp H
   obtain ⟨t451, A70, H⟩ := H
   replace H : (some (t451, 0)) = some (r1, r2) := H
   have A7 := Aside0.mk A70
   clear A70
   simp only [Option.some.injEq, Prod.mk.injEq] at H
   obtain ⟨rfl, rfl⟩ := H
   go_enter Try.func30, Try.ntmps30
   go_wp2_with (first | ((with_reducible refine gate_callee (f := 32) rfl ?_); refine goesL_ (some 9) rfl rfl Try.func32 (by kernel_rfl) rfl #[.slice A0 l0.length c0] rfl (by (try simp only [List.map_toArray, List.map_cons, List.map_nil]); first | done | rfl | (simp only [List.length_drop, List.length_take]; rfl)) ?_; (with_reducible refine (whistle_Validate.calls k _ _ l0 t449 _ ?side1 ?side2 A3.out).mono ?_); (case side1 => repeat (first | exact HR0.out | (with_reducible refine Kd.C_alloc ?_ _) | (with_reducible refine Kd.C_drewN ?_ _) | (with_reducible refine Kd.C_drew ?_))); (case side2 => exact HC0.out); rintro e w8 ⟨rfl, hb⟩; refine ⟨_, rfl, ?_⟩; have n0_ := Aside0.mk (below_step (by repeat (first | (with_reducible first | exact HB.out | apply below_alloc | apply pw_below_drewN | apply below_drew1) | exact HB.out)) hb); clear HB; have HB := n0_; clear n0_; (try clear hb); (try clear hb2); (try clear hk); (try clear hi)) | ((with_reducible refine gate_callee (f := 64) rfl ?_); refine goesL_ (some 15) rfl rfl Try.func64 (by kernel_rfl) rfl #[.slice A0 l0.length c0, .slice A1 l1.length c1] rfl (by (try simp only [List.map_toArray, List.map_cons, List.map_nil]); first | done | rfl | (simp only [List.length_drop, List.length_take]; rfl)) ?_; (with_reducible refine (whistle_isMessage.calls k _ _ l0 _ _ l1 t450 _ ?side1 ?side2 ?side3 ?side4 A5.out).mono ?_); (case side1 => repeat (first | exact (Kd.C_below HR0.out HB.out) | (with_reducible refine Kd.C_alloc ?_ _) | (with_reducible refine Kd.C_drewN ?_ _) | (with_reducible refine Kd.C_drew ?_))); (case side2 => exact HC0.out); (case side3 => repeat (first | exact (Kd.C_below HR1.out HB.out) | (with_reducible refine Kd.C_alloc ?_ _) | (with_reducible refine Kd.C_drewN ?_ _) | (with_reducible refine Kd.C_drew ?_))); (case side4 => exact HC1.out); rintro e w' ⟨rfl, ⟨nd, rfl⟩⟩; refine ⟨_, rfl, ?_⟩) | ((with_reducible refine gate_callee (f := 65) rfl ?_); refine goesL_ (some 21) rfl rfl Try.func65 (by kernel_rfl) rfl #[.slice A0 l0.length c0, .slice A1 l1.length c1] rfl (by (try simp only [List.map_toArray, List.map_cons, List.map_nil]); first | done | rfl | (simp only [List.length_drop, List.length_take]; rfl)) ?_; (with_reducible refine (whistle_sound.calls _ _ l0 _ _ l1 t451 _ ?side1 ?side2 ?side3 ?side4 A7.out).mono ?_); (case side1 => repeat (first | exact (Kd.C_below HR0.out (by repeat (first | (with_reducible first | exact HB.out | apply below_alloc | apply pw_below_drewN | apply below_drew1) | exact HB.out))) | (with_reducible refine Kd.C_alloc ?_ _) | (with_reducible refine Kd.C_drewN ?_ _) | (with_reducible refine Kd.C_drew ?_))); (case side2 => exact HC0.out); (case side3 => repeat (first | exact (Kd.C_below HR1.out (by repeat (first | (with_reducible first | exact HB.out | apply below_alloc | apply pw_below_drewN | apply below_drew1) | exact HB.out))) | (with_reducible refine Kd.C_alloc ?_ _) | (with_reducible refine Kd.C_drewN ?_ _) | (with_reducible refine Kd.C_drew ?_))); (case side4 => exact HC1.out); rintro e w9 ⟨rfl, hb⟩; refine ⟨_, rfl, ?_⟩; have n0_ := Aside0.mk (below_step (by repeat (first | (with_reducible first | exact HB.out | apply below_alloc | apply pw_below_drewN | apply below_drew1) | exact HB.out)) hb); clear HB; have HB := n0_; clear n0_; (try clear hb); (try clear hb2); (try clear hk); (try clear hi)))
   go_ret2
   exact ⟨by first | rfl | (simp [errW_none, errW_some] <;> rfl) | (simp [*, errW_none, errW_some] <;> rfl), by repeat (first | (with_reducible first | exact HB.out | apply below_alloc | apply pw_below_drewN | apply below_drew1) | exact HB.out)⟩
  ·rw [if_neg c6] at H
   have c6b0 : (t450 == 0) = false := beq_eq_false_iff_ne.mpr c6
   have c6b1 : (t450 != 0) = true := bne_iff_ne.mpr c6
   simp only [Option.some.injEq, Prod.mk.injEq] at H
   obtain ⟨rfl, rfl⟩ := H
   go_enter Try.func30, Try.ntmps30
   go_wp2_with (first | ((with_reducible refine gate_callee (f := 32) rfl ?_); refine goesL_ (some 9) rfl rfl Try.func32 (by kernel_rfl) rfl #[.slice A0 l0.length c0] rfl (by (try simp only [List.map_toArray, List.map_cons, List.map_nil]); first | done | rfl | (simp only [List.length_drop, List.length_take]; rfl)) ?_; (with_reducible refine (whistle_Validate.calls k _ _ l0 t449 _ ?side1 ?side2 A3.out).mono ?_); (case side1 => repeat (first | exact HR0.out | (with_reducible refine Kd.C_alloc ?_ _) | (with_reducible refine Kd.C_drewN ?_ _) | (with_reducible refine Kd.C_drew ?_))); (case side2 => exact HC0.out); rintro e w10 ⟨rfl, hb⟩; refine ⟨_, rfl, ?_⟩; have n0_ := Aside0.mk (below_step (by repeat (first | (with_reducible first | exact HB.out | apply below_alloc | apply pw_below_drewN | apply below_drew1) | exact HB.out)) hb); clear HB; have HB := n0_; clear n0_; (try clear hb); (try clear hb2); (try clear hk); (try clear hi)) | ((with_reducible refine gate_callee (f := 64) rfl ?_); refine goesL_ (some 15) rfl rfl Try.func64 (by kernel_rfl) rfl #[.slice A0 l0.length c0, .slice A1 l1.length c1] rfl (by (try simp only [List.map_toArray, List.map_cons, List.map_nil]); first | done | rfl | (simp only [List.length_drop, List.length_take]; rfl)) ?_; (with_reducible refine (whistle_isMessage.calls k _ _ l0 _ _ l1 t450 _ ?side1 ?side2 ?side3 ?side4 A5.out).mono ?_); (case side1 => repeat (first | exact (Kd.C_below HR0.out HB.out) | (with_reducible refine Kd.C_alloc ?_ _) | (with_reducible refine Kd.C_drewN ?_ _) | (with_reducible refine Kd.C_drew ?_))); (case side2 => exact HC0.out); (case side3 => repeat (first | exact (Kd.C_below HR1.out HB.out) | (with_reducible refine Kd.C_alloc ?_ _) | (with_reducible refine Kd.C_drewN ?_ _) | (with_reducible refine Kd.C_drew ?_))); (case side4 => exact HC1.out); rintro e w' ⟨rfl, ⟨nd, rfl⟩⟩; refine ⟨_, rfl, ?_⟩))
   go_ret2
   exact ⟨by first | rfl | (simp [errW_none, errW_some] <;> rfl) | (simp [*, errW_none, errW_some] <;> rfl), by repeat (first | (with_reducible first | exact HB.out | apply below_alloc | apply pw_below_drewN | apply below_drew1) | exact HB.out)⟩
 ·rw [if_neg c4] at H
  have c4b0 : (t449 == 0) = false := beq_eq_false_iff_ne.mpr c4
  have c4b1 : (t449 != 0) = true := bne_iff_ne.mpr c4
  simp only [Option.some.injEq, Prod.mk.injEq] at H
  obtain ⟨rfl, rfl⟩ := H
  go_enter Try.func30, Try.ntmps30
  go_wp2_with (first | ((with_reducible refine gate_callee (f := 32) rfl ?_); refine goesL_ (some 9) rfl rfl Try.func32 (by kernel_rfl) rfl #[.slice A0 l0.length c0] rfl (by (try simp only [List.map_toArray, List.map_cons, List.map_nil]); first | done | rfl | (simp only [List.length_drop, List.length_take]; rfl)) ?_; (with_reducible refine (whistle_Validate.calls k _ _ l0 t449 _ ?side1 ?side2 A3.out).mono ?_); (case side1 => repeat (first | exact HR0.out | (with_reducible refine Kd.C_alloc ?_ _) | (with_reducible refine Kd.C_drewN ?_ _) | (with_reducible refine Kd.C_drew ?_))); (case side2 => exact HC0.out); rintro e w11 ⟨rfl, hb⟩; refine ⟨_, rfl, ?_⟩; have n0_ := Aside0.mk (below_step (by repeat (first | (with_reducible first | exact HB.out | apply below_alloc | apply pw_below_drewN | apply below_drew1) | exact HB.out)) hb); clear HB; have HB := n0_; clear n0_; (try clear hb); (try clear hb2); (try clear hk); (try clear hi)))
  go_ret2
  exact ⟨by first | rfl | (simp [errW_none, errW_some] <;> rfl) | (simp [*, errW_none, errW_some] <;> rfl), by repeat (first | (with_reducible first | exact HB.out | apply below_alloc | apply pw_below_drewN | apply below_drew1) | exact HB.out)⟩

/-! ### wigeonref05_messageOK: function 66 -/
mutual
def wigeonref05_messageOK.l0 : Nat → List ByteArray → List (List Int) → Int → Option (Int)
 | 0, _, _, _ => none
 | k + 1, x0, x1, x5 => if x5 < (x1.length : Int) then (if 0 ≤ x5 then (if ((rd_L4 x1 x5).length : Int) > 400 then (some 3) else (wigeonref05_messageOK.l0 k x0 x1 (wrap64 (x5 + 1)))) else (none)) else (wigeonref05_messageOK.l1 k x0 x1 0)
def wigeonref05_messageOK.l1 : Nat → List ByteArray → List (List Int) → Int → Option (Int)
 | 0, _, _, _ => none
 | k + 1, x0, x1, x6 => if x6 < (x1.length : Int) then (wigeonref05_messageOK.l2 k x0 x1 x6 0) else (some 0)
def wigeonref05_messageOK.l2 : Nat → List ByteArray → List (List Int) → Int → Int → Option (Int)
 | 0, _, _, _, _ => none
 | k + 1, x0, x1, x6, x7 => if 0 ≤ x6 then (if x6 < (x1.length : Int) then (if x7 < ((rd_L4 x1 x6).length : Int) then (if 0 ≤ x7 then (if (rd (rd_L4 x1 x6) x7) < 0 then (some 4) else (if (rd (rd_L4 x1 x6) x7) ≥ (x0.length : Int) then (some 4) else (wigeonref05_messageOK.l2 k x0 x1 x6 (wrap64 (x7 + 1))))) else (none)) else (wigeonref05_messageOK.l1 k x0 x1 (wrap64 (x6 + 1)))) else (none)) else (none)
end
def wigeonref05_messageOK.f (k : Nat) (l0 : List ByteArray) (l1 : List (List Int)) : Option (Int) := wigeonref05_messageOK.l0 k l0 l1 0
theorem wigeonref05_messageOK.mono_l : ∀ k, (∀ y0 y1 y2, LeO (wigeonref05_messageOK.l0 k y0 y1 y2) (wigeonref05_messageOK.l0 (k + 1) y0 y1 y2)) ∧ (∀ y0 y1 y2, LeO (wigeonref05_messageOK.l1 k y0 y1 y2) (wigeonref05_messageOK.l1 (k + 1) y0 y1 y2)) ∧ (∀ y0 y1 y2 y3, LeO (wigeonref05_messageOK.l2 k y0 y1 y2 y3) (wigeonref05_messageOK.l2 (k + 1) y0 y1 y2 y3))
 | 0 => ⟨fun _ _ _ r h => by simp [wigeonref05_messageOK.l0] at h, fun _ _ _ r h => by simp [wigeonref05_messageOK.l1] at h, fun _ _ _ _ r h => by simp [wigeonref05_messageOK.l2] at h⟩
 | k + 1 => by
  obtain ⟨ih0, ih1, ih2⟩ := wigeonref05_messageOK.mono_l k
  refine ⟨?_, ?_, ?_⟩
  ·intro y0 y1 y2
   unfold wigeonref05_messageOK.l0
   repeat' first
   | (with_reducible exact ih0 _ _ _)
   | (with_reducible exact ih1 _ _ _)
   | (with_reducible exact ih2 _ _ _ _)
   | (with_reducible exact LeO.refl _)
   | (with_reducible exact LeO.none _)
   | (with_reducible refine LeO.ite ?_ ?_)
   | (with_reducible refine LeO.bind ?_ (fun _ => ?_))
   | exact ih0 _ _ _
   | exact ih1 _ _ _
   | exact ih2 _ _ _ _
   | exact LeO.none _
   | refine LeO.ite ?_ ?_
   | refine LeO.bind ?_ (fun _ => ?_)
  ·intro y0 y1 y2
   unfold wigeonref05_messageOK.l1
   repeat' first
   | (with_reducible exact ih0 _ _ _)
   | (with_reducible exact ih1 _ _ _)
   | (with_reducible exact ih2 _ _ _ _)
   | (with_reducible exact LeO.refl _)
   | (with_reducible exact LeO.none _)
   | (with_reducible refine LeO.ite ?_ ?_)
   | (with_reducible refine LeO.bind ?_ (fun _ => ?_))
   | exact ih0 _ _ _
   | exact ih1 _ _ _
   | exact ih2 _ _ _ _
   | exact LeO.none _
   | refine LeO.ite ?_ ?_
   | refine LeO.bind ?_ (fun _ => ?_)
  ·intro y0 y1 y2 y3
   unfold wigeonref05_messageOK.l2
   repeat' first
   | (with_reducible exact ih0 _ _ _)
   | (with_reducible exact ih1 _ _ _)
   | (with_reducible exact ih2 _ _ _ _)
   | (with_reducible exact LeO.refl _)
   | (with_reducible exact LeO.none _)
   | (with_reducible refine LeO.ite ?_ ?_)
   | (with_reducible refine LeO.bind ?_ (fun _ => ?_))
   | exact ih0 _ _ _
   | exact ih1 _ _ _
   | exact ih2 _ _ _ _
   | exact LeO.none _
   | refine LeO.ite ?_ ?_
   | refine LeO.bind ?_ (fun _ => ?_)
theorem wigeonref05_messageOK.mono : ∀ a0 a1 k, LeO (wigeonref05_messageOK.f k a0 a1) (wigeonref05_messageOK.f (k + 1) a0 a1) := by
 intro a0 a1 k
 obtain ⟨ih0, ih1, ih2⟩ := wigeonref05_messageOK.mono_l k
 unfold wigeonref05_messageOK.f
 repeat' first
   | (with_reducible exact ih0 _ _ _)
   | (with_reducible exact ih1 _ _ _)
   | (with_reducible exact ih2 _ _ _ _)
   | (with_reducible exact LeO.refl _)
   | (with_reducible exact LeO.none _)
   | (with_reducible refine LeO.ite ?_ ?_)
   | (with_reducible refine LeO.bind ?_ (fun _ => ?_))
   | exact ih0 _ _ _
   | exact ih1 _ _ _
   | exact ih2 _ _ _ _
   | exact LeO.none _
   | refine LeO.ite ?_ ?_
   | refine LeO.bind ?_ (fun _ => ?_)
set_option maxHeartbeats 8000000 in
set_option maxRecDepth 100000 in
theorem wigeonref05_messageOK.calls (k : Nat) (A0 : Option Addr) (c0 : Nat) (l0 : List ByteArray) (A1 : Option Addr) (c1 : Nat) (l1 : List (List Int)) (r : Int) (w : World) (hr0 : Kd.C Kd.string w A0 l0.length l0) (hc0 : l0.length ≤ c0) (hr1 : Kd.C (Kd.slice 3 (Kd.int .i64)) w A1 l1.length l1) (hc1 : l1.length ≤ c1) (h : wigeonref05_messageOK.f k l0 l1 = some r) :
  Calls Try.prog 66 #[.slice A0 l0.length c0, .slice A1 l1.length c1] w fun e w' => e = .returned (.int .i64 r) ∧ Drawn0 w w' := by
 have HR0 := Aside0.mk hr0
 have HC0 := Aside0.mk hc0
 clear hr0 hc0
 have HR1 := Aside0.mk hr1
 have HC1 := Aside0.mk hc1
 clear hr1 hc1
 have H : (wigeonref05_messageOK.l0 k l0 l1 0) = some r := h
 clear h
 have H' := Aside0.mk H
 clear H
 go_enter Try.func66, Try.ntmps66
 go_wp2
 go_loopg [5] k (fun kq v5 w' => ∃ (x5_1 : Int), v5 = .int .i64 x5_1 ∧ Aside0 (wigeonref05_messageOK.l0 kq l0 l1 x5_1 = some r) ∧ Aside0 (kq ≤ k) ∧ Drawn0 w w')
 case atStart => exact ⟨(0), (by first | rfl | (simp; done) | (simp [*]; done)), H', ⟨Nat.le_refl _⟩, by repeat (first | exact Drawn0.refl _ | apply Drawn0.step)⟩
 case round =>
  clear H'
  try clear c1
  try clear p2
  obtain ⟨x5_1, rfl, HA, HK1, ⟨m1, rfl⟩⟩ := hrel
  cases gk with
  | zero => exact absurd HA.out (by simp [wigeonref05_messageOK.l0])
  | succ k1 =>
   have H := HA.out
   clear HA
   simp only [wigeonref05_messageOK.l0] at H
   by_cases c3 : x5_1 < (l1.length : Int)
   ·rw [if_pos c3] at H
    have c3b0 : decide (x5_1 < (l1.length : Int)) = true := decide_eq_true c3
    clear c3
    by_cases c4 : 0 ≤ x5_1
    ·rw [if_pos c4] at H
     have c4b0 : decide (0 ≤ x5_1) = true := decide_eq_true c4
     clear c4
     by_cases c5 : ((rd_L4 l1 x5_1).length : Int) > 400
     ·rw [if_pos c5] at H
      have c5b0 : decide (400 < ((rd_L4 l1 x5_1).length : Int)) = true := decide_eq_true c5
      have c5b1 : decide (400 < (rd_L4 l1 x5_1).length) = true := decide_eq_true (by omega)
      clear c5
      obtain rfl := Option.some.inj H
      have p452 : 0 ≤ (x5_1 : Int) := of_decide_eq_true (by first | (with_reducible assumption) | assumption)
      have q452 : x5_1 < (l1.length : Int) := of_decide_eq_true (by first | (with_reducible assumption) | assumption)
      obtain ⟨ad452, A452_0, c452_0, e452, hx452_0, hl452_0, hi452_0⟩ := at_L4 HR1.out x5_1 p452 q452
      cases e452
      have HR452_0 := Aside0.mk hi452_0
      have HC452_0 := Aside0.mk hl452_0
      clear hi452_0 hl452_0
      replace p452 := eq_true p452
      replace q452 := eq_true q452
      go_wp2
      go_ret
      exact ⟨by first | rfl | (simp; done) | (simp [*]; done), by repeat (first | exact Drawn0.refl _ | apply Drawn0.step)⟩
     ·rw [if_neg c5] at H
      have c5b0 : decide (400 < ((rd_L4 l1 x5_1).length : Int)) = false := decide_eq_false c5
      have c5b1 : decide (400 < (rd_L4 l1 x5_1).length) = false := decide_eq_false (by omega)
      clear c5
      have H' := Aside0.mk H
      clear H
      have p452 : 0 ≤ (x5_1 : Int) := of_decide_eq_true (by first | (with_reducible assumption) | assumption)
      have q452 : x5_1 < (l1.length : Int) := of_decide_eq_true (by first | (with_reducible assumption) | assumption)
      obtain ⟨ad452, A452_0, c452_0, e452, hx452_0, hl452_0, hi452_0⟩ := at_L4 HR1.out x5_1 p452 q452
      cases e452
      have HR452_0 := Aside0.mk hi452_0
      have HC452_0 := Aside0.mk hl452_0
      clear hi452_0 hl452_0
      replace p452 := eq_true p452
      replace q452 := eq_true q452
      go_wp2
      go_roundg k1
      case measure => have := HK1.out; omega
      case rel => exact ⟨(wrap64 (x5_1 + 1)), (by first | rfl | (simp; done) | (simp [*]; done)), H', ⟨by have := HK1.out; omega⟩, by repeat (first | exact Drawn0.refl _ | apply Drawn0.step)⟩
    ·rw [if_neg c4] at H
     exact absurd H (by simp)
   ·rw [if_neg c3] at H
    have c3b0 : decide (x5_1 < (l1.length : Int)) = false := decide_eq_false c3
    clear c3
    have H' := Aside0.mk H
    clear H
    go_wp2
    go_loopg [6] k1 (fun kq v6 w' => ∃ (x6_2 : Int), v6 = .int .i64 x6_2 ∧ Aside0 (wigeonref05_messageOK.l1 kq l0 l1 x6_2 = some r) ∧ Aside0 (kq ≤ k1) ∧ Drawn0 w w')
    case atStart => exact ⟨(0), (by first | rfl | (simp; done) | (simp [*]; done)), H', ⟨Nat.le_refl _⟩, by repeat (first | exact Drawn0.refl _ | apply Drawn0.step)⟩
    case round =>
     clear H'
     try clear c1
     try clear p2
     try clear c3
     try clear c3b0
     try clear c4
     try clear c4b0
     try clear p4
     try clear q4
     try clear hx4
     try clear c5
     try clear c5b0
     try clear c5b1
     try clear hx452_0
     try clear p2
     try clear p452
     try clear q452
     obtain ⟨x6_2, rfl, HA, HK2, ⟨m2, rfl⟩⟩ := hrel
     cases gk with
     | zero => exact absurd HA.out (by simp [wigeonref05_messageOK.l1])
     | succ k2 =>
      have H := HA.out
      clear HA
      simp only [wigeonref05_messageOK.l1] at H
      by_cases c6 : x6_2 < (l1.length : Int)
      ·rw [if_pos c6] at H
       have c6b0 : decide (x6_2 < (l1.length : Int)) = true := decide_eq_true c6
       clear c6
       have H' := Aside0.mk H
       clear H
       go_wp2
       go_loopg [7] k2 (fun kq v7 w' => ∃ (x7_3 : Int), v7 = .int .i64 x7_3 ∧ Aside0 (wigeonref05_messageOK.l2 kq l0 l1 x6_2 x7_3 = some r) ∧ Aside0 (kq ≤ k2) ∧ Drawn0 w w')
       case atStart => exact ⟨(0), (by first | rfl | (simp; done) | (simp [*]; done)), H', ⟨Nat.le_refl _⟩, by repeat (first | exact Drawn0.refl _ | apply Drawn0.step)⟩
       case round =>
        clear H'
        try clear c1
        try clear p2
        try clear c3
        try clear c3b0
        try clear c4
        try clear c4b0
        try clear p4
        try clear q4
        try clear hx4
        try clear c5
        try clear c5b0
        try clear c5b1
        try clear c6
        try clear c6b0
        try clear p6
        try clear hx452_0
        try clear p2
        try clear p4
        try clear p452
        try clear q4
        try clear q452
        obtain ⟨x7_3, rfl, HA, HK3, ⟨m3, rfl⟩⟩ := hrel
        cases gk with
        | zero => exact absurd HA.out (by simp [wigeonref05_messageOK.l2])
        | succ k3 =>
         have H := HA.out
         clear HA
         simp only [wigeonref05_messageOK.l2] at H
         by_cases c7 : 0 ≤ x6_2
         ·rw [if_pos c7] at H
          have c7b0 : decide (0 ≤ x6_2) = true := decide_eq_true c7
          clear c7
          by_cases c8 : x6_2 < (l1.length : Int)
          ·rw [if_pos c8] at H
           have c8b0 : decide (x6_2 < (l1.length : Int)) = true := decide_eq_true c8
           clear c8
           by_cases c9 : x7_3 < ((rd_L4 l1 x6_2).length : Int)
           ·rw [if_pos c9] at H
            have c9b0 : decide (x7_3 < ((rd_L4 l1 x6_2).length : Int)) = true := decide_eq_true c9
            clear c9
            by_cases c10 : 0 ≤ x7_3
            ·rw [if_pos c10] at H
             have c10b0 : decide (0 ≤ x7_3) = true := decide_eq_true c10
             clear c10
             by_cases c11 : (rd (rd_L4 l1 x6_2) x7_3) < 0
             ·rw [if_pos c11] at H
              have c11b0 : decide ((rd (rd_L4 l1 x6_2) x7_3) < 0) = true := decide_eq_true c11
              clear c11
              obtain rfl := Option.some.inj H
              have p453 : 0 ≤ (x6_2 : Int) := of_decide_eq_true (by first | (with_reducible assumption) | assumption)
              have q453 : x6_2 < (l1.length : Int) := of_decide_eq_true (by first | (with_reducible assumption) | assumption)
              obtain ⟨ad453, A453_0, c453_0, e453, hx453_0, hl453_0, hi453_0⟩ := at_L4 HR1.out x6_2 p453 q453
              cases e453
              have HR453_0 := Aside0.mk hi453_0
              have HC453_0 := Aside0.mk hl453_0
              clear hi453_0 hl453_0
              replace p453 := eq_true p453
              replace q453 := eq_true q453
              have p454 : 0 ≤ (x6_2 : Int) := of_decide_eq_true (by first | (with_reducible assumption) | assumption)
              have q454 : x6_2 < (l1.length : Int) := of_decide_eq_true (by first | (with_reducible assumption) | assumption)
              obtain ⟨ad454, A454_0, c454_0, e454, hx454_0, hl454_0, hi454_0⟩ := at_L4 HR1.out x6_2 p454 q454
              obtain rfl : ad453 = ad454 := (by injection e454)
              have HR454_0 := Aside0.mk hi454_0
              have HC454_0 := Aside0.mk hl454_0
              clear hi454_0 hl454_0
              replace p454 := eq_true p454
              replace q454 := eq_true q454
              have ea_ := Option.some.inj (hx453_0.symm.trans hx454_0)
              injection ea_ with ea_ en_ ec_
              subst ea_
              subst ec_
              clear en_
              have p455 : 0 ≤ (x7_3 : Int) := of_decide_eq_true (by first | (with_reducible assumption) | assumption)
              have q455 : x7_3 < ((rd_L4 l1 x6_2).length : Int) := of_decide_eq_true (by first | (with_reducible assumption) | assumption)
              obtain ⟨ad455, e455, hx455_0⟩ := Kd.at_int HR454_0.out x7_3 p455 q455
              cases e455
              replace p455 := eq_true p455
              replace q455 := eq_true q455
              go_wp2
              go_ret
              exact ⟨by first | rfl | (simp; done) | (simp [*]; done), by repeat (first | exact Drawn0.refl _ | apply Drawn0.step)⟩
             ·rw [if_neg c11] at H
              have c11b0 : decide ((rd (rd_L4 l1 x6_2) x7_3) < 0) = false := decide_eq_false c11
              clear c11
              by_cases c12 : (rd (rd_L4 l1 x6_2) x7_3) ≥ (l0.length : Int)
              ·rw [if_pos c12] at H
               have c12b0 : decide ((l0.length : Int) ≤ (rd (rd_L4 l1 x6_2) x7_3)) = true := decide_eq_true c12
               clear c12
               obtain rfl := Option.some.inj H
               have p453 : 0 ≤ (x6_2 : Int) := of_decide_eq_true (by first | (with_reducible assumption) | assumption)
               have q453 : x6_2 < (l1.length : Int) := of_decide_eq_true (by first | (with_reducible assumption) | assumption)
               obtain ⟨ad453, A453_0, c453_0, e453, hx453_0, hl453_0, hi453_0⟩ := at_L4 HR1.out x6_2 p453 q453
               cases e453
               have HR453_0 := Aside0.mk hi453_0
               have HC453_0 := Aside0.mk hl453_0
               clear hi453_0 hl453_0
               replace p453 := eq_true p453
               replace q453 := eq_true q453
               have p454 : 0 ≤ (x6_2 : Int) := of_decide_eq_true (by first | (with_reducible assumption) | assumption)
               have q454 : x6_2 < (l1.length : Int) := of_decide_eq_true (by first | (with_reducible assumption) | assumption)
               obtain ⟨ad454, A454_0, c454_0, e454, hx454_0, hl454_0, hi454_0⟩ := at_L4 HR1.out x6_2 p454 q454
               obtain rfl : ad453 = ad454 := (by injection e454)
               have HR454_0 := Aside0.mk hi454_0
               have HC454_0 := Aside0.mk hl454_0
               clear hi454_0 hl454_0
               replace p454 := eq_true p454
               replace q454 := eq_true q454
               have ea_ := Option.some.inj (hx453_0.symm.trans hx454_0)
               injection ea_ with ea_ en_ ec_
               subst ea_
               subst ec_
               clear en_
               have p455 : 0 ≤ (x7_3 : Int) := of_decide_eq_true (by first | (with_reducible assumption) | assumption)
               have q455 : x7_3 < ((rd_L4 l1 x6_2).length : Int) := of_decide_eq_true (by first | (with_reducible assumption) | assumption)
               obtain ⟨ad455, e455, hx455_0⟩ := Kd.at_int HR454_0.out x7_3 p455 q455
               cases e455
               replace p455 := eq_true p455
               replace q455 := eq_true q455
               have p456 : 0 ≤ (x6_2 : Int) := of_decide_eq_true (by first | (with_reducible assumption) | assumption)
               have q456 : x6_2 < (l1.length : Int) := of_decide_eq_true (by first | (with_reducible assumption) | assumption)
               obtain ⟨ad456, A456_0, c456_0, e456, hx456_0, hl456_0, hi456_0⟩ := at_L4 HR1.out x6_2 p456 q456
               obtain rfl : ad453 = ad456 := (by injection e456)
               have HR456_0 := Aside0.mk hi456_0
               have HC456_0 := Aside0.mk hl456_0
               clear hi456_0 hl456_0
               replace p456 := eq_true p456
               replace q456 := eq_true q456
               have ea_ := Option.some.inj (hx453_0.symm.trans hx456_0)
               injection ea_ with ea_ en_ ec_
               subst ea_
               subst ec_
               clear en_
               have p457 : 0 ≤ (x7_3 : Int) := of_decide_eq_true (by first | (with_reducible assumption) | assumption)
               have q457 : x7_3 < ((rd_L4 l1 x6_2).length : Int) := of_decide_eq_true (by first | (with_reducible assumption) | assumption)
               obtain ⟨ad457, e457, hx457_0⟩ := Kd.at_int HR456_0.out x7_3 p457 q457
               cases e457
               replace p457 := eq_true p457
               replace q457 := eq_true q457
               go_wp2
               go_ret
               exact ⟨by first | rfl | (simp; done) | (simp [*]; done), by repeat (first | exact Drawn0.refl _ | apply Drawn0.step)⟩
              ·rw [if_neg c12] at H
               have c12b0 : decide ((l0.length : Int) ≤ (rd (rd_L4 l1 x6_2) x7_3)) = false := decide_eq_false c12
               clear c12
               have H' := Aside0.mk H
               clear H
               have p453 : 0 ≤ (x6_2 : Int) := of_decide_eq_true (by first | (with_reducible assumption) | assumption)
               have q453 : x6_2 < (l1.length : Int) := of_decide_eq_true (by first | (with_reducible assumption) | assumption)
               obtain ⟨ad453, A453_0, c453_0, e453, hx453_0, hl453_0, hi453_0⟩ := at_L4 HR1.out x6_2 p453 q453
               cases e453
               have HR453_0 := Aside0.mk hi453_0
               have HC453_0 := Aside0.mk hl453_0
               clear hi453_0 hl453_0
               replace p453 := eq_true p453
               replace q453 := eq_true q453
               have p454 : 0 ≤ (x6_2 : Int) := of_decide_eq_true (by first | (with_reducible assumption) | assumption)
               have q454 : x6_2 < (l1.length : Int) := of_decide_eq_true (by first | (with_reducible assumption) | assumption)
               obtain ⟨ad454, A454_0, c454_0, e454, hx454_0, hl454_0, hi454_0⟩ := at_L4 HR1.out x6_2 p454 q454
               obtain rfl : ad453 = ad454 := (by injection e454)
               have HR454_0 := Aside0.mk hi454_0
               have HC454_0 := Aside0.mk hl454_0
               clear hi454_0 hl454_0
               replace p454 := eq_true p454
               replace q454 := eq_true q454
               have ea_ := Option.some.inj (hx453_0.symm.trans hx454_0)
               injection ea_ with ea_ en_ ec_
               subst ea_
               subst ec_
               clear en_
               have p455 : 0 ≤ (x7_3 : Int) := of_decide_eq_true (by first | (with_reducible assumption) | assumption)
               have q455 : x7_3 < ((rd_L4 l1 x6_2).length : Int) := of_decide_eq_true (by first | (with_reducible assumption) | assumption)
               obtain ⟨ad455, e455, hx455_0⟩ := Kd.at_int HR454_0.out x7_3 p455 q455
               cases e455
               replace p455 := eq_true p455
               replace q455 := eq_true q455
               have p456 : 0 ≤ (x6_2 : Int) := of_decide_eq_true (by first | (with_reducible assumption) | assumption)
               have q456 : x6_2 < (l1.length : Int) := of_decide_eq_true (by first | (with_reducible assumption) | assumption)
               obtain ⟨ad456, A456_0, c456_0, e456, hx456_0, hl456_0, hi456_0⟩ := at_L4 HR1.out x6_2 p456 q456
               obtain rfl : ad453 = ad456 := (by injection e456)
               have HR456_0 := Aside0.mk hi456_0
               have HC456_0 := Aside0.mk hl456_0
               clear hi456_0 hl456_0
               replace p456 := eq_true p456
               replace q456 := eq_true q456
               have ea_ := Option.some.inj (hx453_0.symm.trans hx456_0)
               injection ea_ with ea_ en_ ec_
               subst ea_
               subst ec_
               clear en_
               have p457 : 0 ≤ (x7_3 : Int) := of_decide_eq_true (by first | (with_reducible assumption) | assumption)
               have q457 : x7_3 < ((rd_L4 l1 x6_2).length : Int) := of_decide_eq_true (by first | (with_reducible assumption) | assumption)
               obtain ⟨ad457, e457, hx457_0⟩ := Kd.at_int HR456_0.out x7_3 p457 q457
               cases e457
               replace p457 := eq_true p457
               replace q457 := eq_true q457
               go_wp2
               go_roundg k3
               case measure => have := HK1.out; have := HK2.out; have := HK3.out; omega
               case rel => exact ⟨(wrap64 (x7_3 + 1)), (by first | rfl | (simp; done) | (simp [*]; done)), H', ⟨by have := HK1.out; have := HK2.out; have := HK3.out; omega⟩, by repeat (first | exact Drawn0.refl _ | apply Drawn0.step)⟩
            ·rw [if_neg c10] at H
             exact absurd H (by simp)
           ·rw [if_neg c9] at H
            have c9b0 : decide (x7_3 < ((rd_L4 l1 x6_2).length : Int)) = false := decide_eq_false c9
            clear c9
            have H' := Aside0.mk H
            clear H
            have p453 : 0 ≤ (x6_2 : Int) := of_decide_eq_true (by first | (with_reducible assumption) | assumption)
            have q453 : x6_2 < (l1.length : Int) := of_decide_eq_true (by first | (with_reducible assumption) | assumption)
            obtain ⟨ad453, A453_0, c453_0, e453, hx453_0, hl453_0, hi453_0⟩ := at_L4 HR1.out x6_2 p453 q453
            cases e453
            have HR453_0 := Aside0.mk hi453_0
            have HC453_0 := Aside0.mk hl453_0
            clear hi453_0 hl453_0
            replace p453 := eq_true p453
            replace q453 := eq_true q453
            go_wp2
            go_roundg k3
            case measure => have := HK1.out; have := HK2.out; have := HK3.out; omega
            case rel => exact ⟨(wrap64 (x6_2 + 1)), (by first | rfl | (simp; done) | (simp [*]; done)), H', ⟨by have := HK1.out; have := HK2.out; have := HK3.out; omega⟩, by repeat (first | exact Drawn0.refl _ | apply Drawn0.step)⟩
          ·rw [if_neg c8] at H
           exact absurd H (by simp)
         ·rw [if_neg c7] at H
          exact absurd H (by simp)
      ·rw [if_neg c6] at H
       have c6b0 : decide (x6_2 < (l1.length : Int)) = false := decide_eq_false c6
       clear c6
       obtain rfl := Option.some.inj H
       go_wp2
       go_ret
       exact ⟨by first | rfl | (simp; done) | (simp [*]; done), by repeat (first | exact Drawn0.refl _ | apply Drawn0.step)⟩

/-! ### wigeonref05_sound: function 67 -/
def wigeonref05_sound.l0 : Nat → List ByteArray → List Int → ByteArray → Int → Option (ByteArray)
 | 0, _, _, _, _ => none
 | k + 1, x0, x1, x5, x6 => if x6 < (x1.length : Int) then (if 0 ≤ x6 then (if 0 ≤ (rd x1 x6) then (if (rd x1 x6) < (x0.length : Int) then (if x5.size + (rdOf ByteArray.empty x0 (rd x1 x6)).size ≤ 9223372036854775807 then (wigeonref05_sound.l0 k x0 x1 (x5 ++ (rdOf ByteArray.empty x0 (rd x1 x6))) (wrap64 (x6 + 1))) else (none)) else (none)) else (none)) else (none)) else (some x5)
def wigeonref05_sound.f (k : Nat) (l0 : List ByteArray) (l1 : List Int) : Option (ByteArray) := wigeonref05_sound.l0 k l0 l1 (⟨#[]⟩ : ByteArray) 0
theorem wigeonref05_sound.mono_l : ∀ k, (∀ y0 y1 y2 y3, LeO (wigeonref05_sound.l0 k y0 y1 y2 y3) (wigeonref05_sound.l0 (k + 1) y0 y1 y2 y3))
 | 0 => fun _ _ _ _ r h => by simp [wigeonref05_sound.l0] at h
 | k + 1 => by
  have ih0 := wigeonref05_sound.mono_l k
  ·intro y0 y1 y2 y3
   unfold wigeonref05_sound.l0
   repeat' first
   | (with_reducible exact ih0 _ _ _ _)
   | (with_reducible exact LeO.refl _)
   | (with_reducible exact LeO.none _)
   | (with_reducible refine LeO.ite ?_ ?_)
   | (with_reducible refine LeO.bind ?_ (fun _ => ?_))
   | exact ih0 _ _ _ _
   | exact LeO.none _
   | refine LeO.ite ?_ ?_
   | refine LeO.bind ?_ (fun _ => ?_)
theorem wigeonref05_sound.mono : ∀ a0 a1 k, LeO (wigeonref05_sound.f k a0 a1) (wigeonref05_sound.f (k + 1) a0 a1) := by
 intro a0 a1 k
 have ih0 := wigeonref05_sound.mono_l k
 unfold wigeonref05_sound.f
 repeat' first
   | (with_reducible exact ih0 _ _ _ _)
   | (with_reducible exact LeO.refl _)
   | (with_reducible exact LeO.none _)
   | (with_reducible refine LeO.ite ?_ ?_)
   | (with_reducible refine LeO.bind ?_ (fun _ => ?_))
   | exact ih0 _ _ _ _
   | exact LeO.none _
   | refine LeO.ite ?_ ?_
   | refine LeO.bind ?_ (fun _ => ?_)
set_option maxHeartbeats 8000000 in
set_option maxRecDepth 100000 in
theorem wigeonref05_sound.calls (k : Nat) (A0 : Option Addr) (c0 : Nat) (l0 : List ByteArray) (A1 : Option Addr) (c1 : Nat) (l1 : List Int) (r : ByteArray) (w : World) (hr0 : Kd.C Kd.string w A0 l0.length l0) (hc0 : l0.length ≤ c0) (hr1 : Kd.C (Kd.int .i64) w A1 l1.length l1) (hc1 : l1.length ≤ c1) (h : wigeonref05_sound.f k l0 l1 = some r) :
  Calls Try.prog 67 #[.slice A0 l0.length c0, .slice A1 l1.length c1] w fun e w' => e = .returned (.string r) ∧ Drawn0 w w' := by
 have HR0 := Aside0.mk hr0
 have HC0 := Aside0.mk hc0
 clear hr0 hc0
 have HR1 := Aside0.mk hr1
 have HC1 := Aside0.mk hc1
 clear hr1 hc1
 have H : (wigeonref05_sound.l0 k l0 l1 (⟨#[]⟩ : ByteArray) 0) = some r := h
 clear h
 have H' := Aside0.mk H
 clear H
 go_enter Try.func67, Try.ntmps67
 go_wp2
 go_loopg [5, 6] k (fun kq v5 v6 w' => ∃ (x5_1 : ByteArray) (x6_1 : Int), v5 = .string x5_1 ∧ v6 = .int .i64 x6_1 ∧ Aside0 (wigeonref05_sound.l0 kq l0 l1 x5_1 x6_1 = some r) ∧ Aside0 (kq ≤ k) ∧ Drawn0 w w')
 case atStart => exact ⟨((⟨#[]⟩ : ByteArray)), (0), (by first | rfl | (simp; done) | (simp [*]; done)), (by first | rfl | (simp; done) | (simp [*]; done)), H', ⟨Nat.le_refl _⟩, by repeat (first | exact Drawn0.refl _ | apply Drawn0.step)⟩
 case round =>
  clear H'
  try clear c1
  try clear p2
  obtain ⟨x5_1, x6_1, rfl, rfl, HA, HK1, ⟨m1, rfl⟩⟩ := hrel
  cases gk with
  | zero => exact absurd HA.out (by simp [wigeonref05_sound.l0])
  | succ k1 =>
   have H := HA.out
   clear HA
   simp only [wigeonref05_sound.l0] at H
   by_cases c3 : x6_1 < (l1.length : Int)
   ·rw [if_pos c3] at H
    have c3b0 : decide (x6_1 < (l1.length : Int)) = true := decide_eq_true c3
    clear c3
    by_cases c4 : 0 ≤ x6_1
    ·rw [if_pos c4] at H
     have c4b0 : decide (0 ≤ x6_1) = true := decide_eq_true c4
     clear c4
     by_cases c5 : 0 ≤ (rd l1 x6_1)
     ·rw [if_pos c5] at H
      have c5b0 : decide (0 ≤ (rd l1 x6_1)) = true := decide_eq_true c5
      clear c5
      by_cases c6 : (rd l1 x6_1) < (l0.length : Int)
      ·rw [if_pos c6] at H
       have c6b0 : decide ((rd l1 x6_1) < (l0.length : Int)) = true := decide_eq_true c6
       clear c6
       by_cases c7 : x5_1.size + (rdOf ByteArray.empty l0 (rd l1 x6_1)).size ≤ 9223372036854775807
       ·rw [if_pos c7] at H
        have c7b0 := eq_true c7
        have c7b1 : decide (x5_1.size + (rdOf ByteArray.empty l0 (rd l1 x6_1)).size ≤ 9223372036854775807) = true := decide_eq_true c7
        try have c7b2 : (9223372036854775807 < x5_1.size + (rdOf ByteArray.empty l0 (rd l1 x6_1)).size) = False := eq_false (Nat.not_lt.2 c7)
        have H' := Aside0.mk H
        clear H
        have p458 : 0 ≤ (x6_1 : Int) := of_decide_eq_true (by first | (with_reducible assumption) | assumption)
        have q458 : x6_1 < (l1.length : Int) := of_decide_eq_true (by first | (with_reducible assumption) | assumption)
        obtain ⟨ad458, e458, hx458_0⟩ := Kd.at_int HR1.out x6_1 p458 q458
        cases e458
        replace p458 := eq_true p458
        replace q458 := eq_true q458
        have p459 : 0 ≤ ((rd l1 x6_1) : Int) := of_decide_eq_true (by first | (with_reducible assumption) | assumption)
        have q459 : (rd l1 x6_1) < (l0.length : Int) := of_decide_eq_true (by first | (with_reducible assumption) | assumption)
        obtain ⟨ad459, e459, hx459_0⟩ := Kd.at_string HR0.out (rd l1 x6_1) p459 q459
        cases e459
        replace p459 := eq_true p459
        replace q459 := eq_true q459
        go_wp2
        go_roundg k1
        case measure => have := HK1.out; omega
        case rel => exact ⟨(x5_1 ++ (rdOf ByteArray.empty l0 (rd l1 x6_1))), (wrap64 (x6_1 + 1)), (by first | rfl | (simp; done) | (simp [*]; done)), (by first | rfl | (simp; done) | (simp [*]; done)), H', ⟨by have := HK1.out; omega⟩, by repeat (first | exact Drawn0.refl _ | apply Drawn0.step)⟩
       ·rw [if_neg c7] at H
        exact absurd H (by simp)
      ·rw [if_neg c6] at H
       exact absurd H (by simp)
     ·rw [if_neg c5] at H
      exact absurd H (by simp)
    ·rw [if_neg c4] at H
     exact absurd H (by simp)
   ·rw [if_neg c3] at H
    have c3b0 : decide (x6_1 < (l1.length : Int)) = false := decide_eq_false c3
    clear c3
    obtain rfl := Option.some.inj H
    go_wp2
    go_ret
    exact ⟨by first | rfl | (simp; done) | (simp [*]; done), by repeat (first | exact Drawn0.refl _ | apply Drawn0.step)⟩

/-! ### wigeonref05_Sound: function 31 -/
-- GIVEN wigeon/wigeonref05.Sound rounds=1 making=1
def wigeonref05_Sound.f (k : Nat) (l0 : List ByteArray) (l1 : List Int) : Option (ByteArray × Int) :=
 (wigeonref05_Validate.f k l0).bind fun e0 => if e0 ≠ 0 then some (⟨#[]⟩, e0) else (wigeonref05_messageOK.f k l0 [l1]).bind fun e1 => if e1 ≠ 0 then some (⟨#[]⟩, e1) else (wigeonref05_sound.f k l0 l1).bind fun s => some (s, 0)
theorem wigeonref05_Sound.mono : ∀ a0 a1 k, LeO (wigeonref05_Sound.f k a0 a1) (wigeonref05_Sound.f (k + 1) a0 a1) := by
 intro a0 a1 k
 unfold wigeonref05_Sound.f
 exact LeO.bind (wigeonref05_Validate.mono _ _) fun e0 => LeO.ite (LeO.refl _) (LeO.bind (wigeonref05_messageOK.mono _ _ _) fun e1 => LeO.ite (LeO.refl _) (LeO.bind (wigeonref05_sound.mono _ _ _) fun s => LeO.refl _))
theorem wigeonref05_Sound.rows1 (w W : World) (A1 : Option Addr) (c1 : Nat) (l1 : List Int) (hB : Below w.heap.size w W) (hr1 : Kd.C (Kd.int .i64) w A1 l1.length l1) (hc1 : l1.length ≤ c1) : Kd.C (Kd.slice 3 (Kd.int .i64)) (W.alloc (.cells #[.slice A1 l1.length c1] 35)) (some ⟨W.heap.size, 0, none⟩) 1 [l1] := by
 refine rows_at (L := [l1]) (by simp) fun j hj => ?_
 obtain rfl : j = 0 := by simpa using hj
 exact ⟨A1, c1, by simp, hc1, Kd.C_below hr1 (hB.alloc hB.size _)⟩
theorem wigeonref05_Sound.calls (k : Nat) (A0 : Option Addr) (c0 : Nat) (l0 : List ByteArray) (A1 : Option Addr) (c1 : Nat) (l1 : List Int) (r1 : ByteArray) (r2 : Int) (w : World) (hr0 : Kd.C Kd.string w A0 l0.length l0) (hc0 : l0.length ≤ c0) (hr1 : Kd.C (Kd.int .i64) w A1 l1.length l1) (hc1 : l1.length ≤ c1) (h : wigeonref05_Sound.f k l0 l1 = some (r1, r2)) :
  Calls Try.prog 31 #[.slice A0 l0.length c0, .slice A1 l1.length c1] w fun e w' => e = .returned (.tuple #[.string r1, .int .i64 r2]) ∧ Below w.heap.size w w' := by
 unfold wigeonref05_Sound.f at h
 obtain ⟨e0, h0, h⟩ := Option.bind_eq_some_iff.1 h
 have hv : RetI 33 #[.slice A0 l0.length c0] e0 w := (wigeonref05_Validate.calls k A0 c0 l0 e0 w hr0 hc0 h0).mono fun e w' ⟨h1, nd, h2⟩ => ⟨h1, by rw [h2]; exact pw_below_drewN (Below.refl _ _) nd⟩
 split at h
 ·rename_i hne
  obtain ⟨rfl, rfl⟩ := Prod.mk.inj (Option.some.inj h)
  exact rsound_e0 A0 l0.length c0 A1 l1.length c1 _ w hne hv
 rename_i hne
 obtain rfl : e0 = 0 := by simpa using hne
 obtain ⟨e1, h1, h⟩ := Option.bind_eq_some_iff.1 h
 have hm : ∀ W, Below w.heap.size w W → RetI 66 #[.slice A0 l0.length c0, .slice (some ⟨W.heap.size, 0, none⟩) 1 1] e1 (W.alloc (.cells #[.slice A1 l1.length c1] 35)) := fun W hB => (wigeonref05_messageOK.calls k A0 c0 l0 _ 1 [l1] e1 _ (Kd.C_below hr0 (hB.alloc hB.size _)) hc0 (wigeonref05_Sound.rows1 w W A1 c1 l1 hB hr1 hc1) (Nat.le_refl _) h1).mono fun e w' ⟨h1, nd, h2⟩ => ⟨h1, by rw [h2]; exact pw_below_drewN (Below.refl _ _) nd⟩
 split at h
 ·rename_i hne1
  obtain ⟨rfl, rfl⟩ := Prod.mk.inj (Option.some.inj h)
  exact rsound_e1 A0 l0.length c0 A1 l1.length c1 _ w hne1 hv hm
 rename_i hne1
 obtain rfl : e1 = 0 := by simpa using hne1
 obtain ⟨s, hs, h⟩ := Option.bind_eq_some_iff.1 h
 obtain ⟨rfl, rfl⟩ := Prod.mk.inj (Option.some.inj h)
 refine rsound_ok A0 l0.length c0 A1 l1.length c1 s w hv hm fun W hB => ?_
 exact (wigeonref05_sound.calls k A0 c0 l0 A1 c1 l1 s W (Kd.C_below hr0 hB) hc0 (Kd.C_below hr1 hB) hc1 hs).mono fun e w' ⟨h1, nd, h2⟩ => ⟨h1, by rw [h2]; exact pw_below_drewN (Below.refl _ _) nd⟩

end Go.Proofs.Ytpkafcoflgbnaaa.Q
