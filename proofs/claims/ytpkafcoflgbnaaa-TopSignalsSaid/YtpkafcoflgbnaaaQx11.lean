-- Written by a program of this session (wip/tools/gprint.py, over the kit's print); Lean checks it.
import Derived.Test.YtpkafcoflgbnaaaQx10
namespace Go.Proofs.Ytpkafcoflgbnaaa.Q
open Go.RowKit Go.Proofs.YtpkafcoflgbnaaaW.PrintWords Go.Proofs.YtpkafcoflgbnaaaW.PrintLast Go.Proofs.YtpkafcoflgbnaaaW.PrintMore
attribute [local go_sem] max2_int min2_int max_two min_two max_three min_three max_four min_four   -- for this text's walks alone
set_option linter.unusedVariables false
set_option linter.unusedSimpArgs false

/-! ### wigeonref05_Validate: function 33 -/
mutual
def wigeonref05_Validate.j0 : Nat → List ByteArray → Bool → Option (Int)
 | 0, _, _ => none
 | k + 1, x0, x12 => if x12 = true then (some 3) else (wigeonref05_Validate.l0 k x0 0)
def wigeonref05_Validate.l0 : Nat → List ByteArray → Int → Option (Int)
 | 0, _, _ => none
 | k + 1, x0, x3 => if x3 < (x0.length : Int) then (if 0 ≤ x3 then (if ((rdOf ByteArray.empty x0 x3).size : Int) < 1 then (wigeonref05_Validate.j2 k x0 x3 true) else (if ((rdOf ByteArray.empty x0 x3).size : Int) > 12 then (wigeonref05_Validate.j2 k x0 x3 true) else ((wigeonref05_isNotes.f k (rdOf ByteArray.empty x0 x3)).bind fun t263 => (wigeonref05_Validate.j2 k x0 x3 (!t263))))) else (none)) else (some 0)
def wigeonref05_Validate.j2 : Nat → List ByteArray → Int → Bool → Option (Int)
 | 0, _, _, _ => none
 | k + 1, x0, x3, x40 => if x40 = true then (some 1) else (wigeonref05_Validate.l1 k x0 x3 0)
def wigeonref05_Validate.l1 : Nat → List ByteArray → Int → Int → Option (Int)
 | 0, _, _, _ => none
 | k + 1, x0, x3, x4 => if x4 < x3 then (if 0 ≤ x4 then (if x4 < (x0.length : Int) then (if 0 ≤ x3 then (if x3 < (x0.length : Int) then (if (rdOf ByteArray.empty x0 x4).toList = (rdOf ByteArray.empty x0 x3).toList then (some 5) else (wigeonref05_Validate.l1 k x0 x3 (wrap64 (x4 + 1)))) else (none)) else (none)) else (none)) else (none)) else (wigeonref05_Validate.l0 k x0 (wrap64 (x3 + 1)))
end
def wigeonref05_Validate.f (k : Nat) (l0 : List ByteArray) : Option (Int) := if (l0.length : Int) < 1 then (wigeonref05_Validate.j0 k l0 true) else (wigeonref05_Validate.j0 k l0 (decide ((l0.length : Int) > 12)))
theorem wigeonref05_Validate.mono_l : ∀ k, (∀ y0 y1, LeO (wigeonref05_Validate.j0 k y0 y1) (wigeonref05_Validate.j0 (k + 1) y0 y1)) ∧ (∀ y0 y1, LeO (wigeonref05_Validate.l0 k y0 y1) (wigeonref05_Validate.l0 (k + 1) y0 y1)) ∧ (∀ y0 y1 y2, LeO (wigeonref05_Validate.j2 k y0 y1 y2) (wigeonref05_Validate.j2 (k + 1) y0 y1 y2)) ∧ (∀ y0 y1 y2, LeO (wigeonref05_Validate.l1 k y0 y1 y2) (wigeonref05_Validate.l1 (k + 1) y0 y1 y2))
 | 0 => ⟨fun _ _ r h => by simp [wigeonref05_Validate.j0] at h, fun _ _ r h => by simp [wigeonref05_Validate.l0] at h, fun _ _ _ r h => by simp [wigeonref05_Validate.j2] at h, fun _ _ _ r h => by simp [wigeonref05_Validate.l1] at h⟩
 | k + 1 => by
  obtain ⟨ih0, ih1, ih2, ih3⟩ := wigeonref05_Validate.mono_l k
  refine ⟨?_, ?_, ?_, ?_⟩
  ·intro y0 y1
   unfold wigeonref05_Validate.j0
   repeat' first
   | (with_reducible exact ih0 _ _)
   | (with_reducible exact ih1 _ _)
   | (with_reducible exact ih2 _ _ _)
   | (with_reducible exact ih3 _ _ _)
   | (with_reducible exact wigeonref05_isNotes.mono _ _)
   | (with_reducible exact LeO.refl _)
   | (with_reducible exact LeO.none _)
   | (with_reducible refine LeO.ite ?_ ?_)
   | (with_reducible refine LeO.bind ?_ (fun _ => ?_))
   | exact ih0 _ _
   | exact ih1 _ _
   | exact ih2 _ _ _
   | exact ih3 _ _ _
   | exact wigeonref05_isNotes.mono _ _
   | exact LeO.none _
   | refine LeO.ite ?_ ?_
   | refine LeO.bind ?_ (fun _ => ?_)
  ·intro y0 y1
   unfold wigeonref05_Validate.l0
   repeat' first
   | (with_reducible exact ih0 _ _)
   | (with_reducible exact ih1 _ _)
   | (with_reducible exact ih2 _ _ _)
   | (with_reducible exact ih3 _ _ _)
   | (with_reducible exact wigeonref05_isNotes.mono _ _)
   | (with_reducible exact LeO.refl _)
   | (with_reducible exact LeO.none _)
   | (with_reducible refine LeO.ite ?_ ?_)
   | (with_reducible refine LeO.bind ?_ (fun _ => ?_))
   | exact ih0 _ _
   | exact ih1 _ _
   | exact ih2 _ _ _
   | exact ih3 _ _ _
   | exact wigeonref05_isNotes.mono _ _
   | exact LeO.none _
   | refine LeO.ite ?_ ?_
   | refine LeO.bind ?_ (fun _ => ?_)
  ·intro y0 y1 y2
   unfold wigeonref05_Validate.j2
   repeat' first
   | (with_reducible exact ih0 _ _)
   | (with_reducible exact ih1 _ _)
   | (with_reducible exact ih2 _ _ _)
   | (with_reducible exact ih3 _ _ _)
   | (with_reducible exact wigeonref05_isNotes.mono _ _)
   | (with_reducible exact LeO.refl _)
   | (with_reducible exact LeO.none _)
   | (with_reducible refine LeO.ite ?_ ?_)
   | (with_reducible refine LeO.bind ?_ (fun _ => ?_))
   | exact ih0 _ _
   | exact ih1 _ _
   | exact ih2 _ _ _
   | exact ih3 _ _ _
   | exact wigeonref05_isNotes.mono _ _
   | exact LeO.none _
   | refine LeO.ite ?_ ?_
   | refine LeO.bind ?_ (fun _ => ?_)
  ·intro y0 y1 y2
   unfold wigeonref05_Validate.l1
   repeat' first
   | (with_reducible exact ih0 _ _)
   | (with_reducible exact ih1 _ _)
   | (with_reducible exact ih2 _ _ _)
   | (with_reducible exact ih3 _ _ _)
   | (with_reducible exact wigeonref05_isNotes.mono _ _)
   | (with_reducible exact LeO.refl _)
   | (with_reducible exact LeO.none _)
   | (with_reducible refine LeO.ite ?_ ?_)
   | (with_reducible refine LeO.bind ?_ (fun _ => ?_))
   | exact ih0 _ _
   | exact ih1 _ _
   | exact ih2 _ _ _
   | exact ih3 _ _ _
   | exact wigeonref05_isNotes.mono _ _
   | exact LeO.none _
   | refine LeO.ite ?_ ?_
   | refine LeO.bind ?_ (fun _ => ?_)
theorem wigeonref05_Validate.mono : ∀ a0 k, LeO (wigeonref05_Validate.f k a0) (wigeonref05_Validate.f (k + 1) a0) := by
 intro a0 k
 obtain ⟨ih0, ih1, ih2, ih3⟩ := wigeonref05_Validate.mono_l k
 unfold wigeonref05_Validate.f
 repeat' first
   | (with_reducible exact ih0 _ _)
   | (with_reducible exact ih1 _ _)
   | (with_reducible exact ih2 _ _ _)
   | (with_reducible exact ih3 _ _ _)
   | (with_reducible exact wigeonref05_isNotes.mono _ _)
   | (with_reducible exact LeO.refl _)
   | (with_reducible exact LeO.none _)
   | (with_reducible refine LeO.ite ?_ ?_)
   | (with_reducible refine LeO.bind ?_ (fun _ => ?_))
   | exact ih0 _ _
   | exact ih1 _ _
   | exact ih2 _ _ _
   | exact ih3 _ _ _
   | exact wigeonref05_isNotes.mono _ _
   | exact LeO.none _
   | refine LeO.ite ?_ ?_
   | refine LeO.bind ?_ (fun _ => ?_)
set_option maxHeartbeats 8000000 in
set_option maxRecDepth 100000 in
theorem wigeonref05_Validate.calls (k : Nat) (A0 : Option Addr) (c0 : Nat) (l0 : List ByteArray) (r : Int) (w : World) (hr0 : Kd.C Kd.string w A0 l0.length l0) (hc0 : l0.length ≤ c0) (h : wigeonref05_Validate.f k l0 = some r) :
  Calls Try.prog 33 #[.slice A0 l0.length c0] w fun e w' => e = .returned (.int .i64 r) ∧ Drawn0 w w' := by
 have HR0 := Aside0.mk hr0
 have HC0 := Aside0.mk hc0
 clear hr0 hc0
 have H : (if (l0.length : Int) < 1 then (wigeonref05_Validate.j0 k l0 true) else (wigeonref05_Validate.j0 k l0 (decide ((l0.length : Int) > 12)))) = some r := h
 clear h
 have HC2 := Aside0.mk H
 clear H
 go_enter Try.func33, Try.ntmps33
 go_upto_region 1 with (fail)
 repeat (go_quiet (fail); go_upto_region 1 with (fail))
 go_cut [12] (fun v12 wc => ∃ (kq : Nat) (x12_1 : Bool), v12 = .bool x12_1 ∧ Aside0 (wigeonref05_Validate.j0 kq l0 x12_1 = some r) ∧ Aside0 (kq ≤ k) ∧ Drawn0 w wc)
 case first =>
  have H := HC2.out
  clear HC2
  by_cases c3 : (l0.length : Int) < 1
  ·rw [if_pos c3] at H
   have c3b0 : decide ((l0.length : Int) < 1) = true := decide_eq_true c3
   have c3b1 : decide (l0.length < 1) = true := decide_eq_true (by omega)
   clear c3
   (first | rw [c3b0] | (simp only [i64_w, i32_w]; rw [c3b0]) | skip)
   have H' := Aside0.mk H
   clear H
   go_wp2
   repeat (go_quiet (fail); try go_wp2)
   go_meet
   case rel => exact ⟨_, (true), (by first | rfl | (simp; done) | (simp [*]; done)), H', ⟨by first | omega | exact Nat.le_refl _⟩, by repeat (first | exact Drawn0.refl _ | apply Drawn0.step)⟩
  ·rw [if_neg c3] at H
   have c3b0 : decide ((l0.length : Int) < 1) = false := decide_eq_false c3
   have c3b1 : decide (l0.length < 1) = false := decide_eq_false (by omega)
   clear c3
   (first | rw [c3b0] | (simp only [i64_w, i32_w]; rw [c3b0]) | skip)
   have H' := Aside0.mk H
   clear H
   go_wp2
   repeat (go_quiet (fail); try go_wp2)
   go_meet
   case rel => exact ⟨_, (decide ((l0.length : Int) > 12)), (by first | rfl | (simp; done) | (simp [*]; done)), H', ⟨by first | omega | exact Nat.le_refl _⟩, by repeat (first | exact Drawn0.refl _ | apply Drawn0.step)⟩
 case rest =>
  clear HC2
  try clear p2
  try clear c3
  try clear c3b0
  try clear c3b1
  obtain ⟨kq, x12_1, rfl, HA, HJ1, ⟨mc1, rfl⟩⟩ := hcut
  cases kq with
  | zero => exact absurd HA.out (by simp [wigeonref05_Validate.j0])
  | succ kj1 =>
   have H := HA.out
   clear HA
   simp only [wigeonref05_Validate.j0] at H
   by_cases c4 : x12_1 = true
   ·subst c4
    have H1 : (some 3) = some r := by rw [if_pos rfl] at H; exact H
    clear H
    have H := H1
    clear H1
    obtain rfl := Option.some.inj H
    go_wp2
    repeat (go_quiet (fail); try go_wp2)
    go_ret
    exact ⟨by first | rfl | (simp; done) | (simp [*]; done), by repeat (first | exact Drawn0.refl _ | apply Drawn0.step)⟩
   ·replace c4 := Bool.eq_false_iff.mpr c4
    subst c4
    have H1 : (wigeonref05_Validate.l0 kj1 l0 0) = some r := by rw [if_neg (show ¬ (false = true) by decide)] at H; exact H
    clear H
    have H := H1
    clear H1
    have H' := Aside0.mk H
    clear H
    go_wp2
    repeat (go_quiet (fail); try go_wp2)
    go_loopg [3] kj1 (fun kq v3 w' => ∃ (x3_2 : Int), v3 = .int .i64 x3_2 ∧ Aside0 (wigeonref05_Validate.l0 kq l0 x3_2 = some r) ∧ Aside0 (kq ≤ kj1) ∧ Drawn0 w w')
    case atStart => exact ⟨(0), (by first | rfl | (simp; done) | (simp [*]; done)), H', ⟨Nat.le_refl _⟩, by repeat (first | exact Drawn0.refl _ | apply Drawn0.step)⟩
    case round =>
     clear H'
     try clear c1
     try clear p2
     try clear c3
     try clear c3b0
     try clear c3b1
     try clear c4
     try clear p2
     obtain ⟨x3_2, rfl, HA, HK2, ⟨m2, rfl⟩⟩ := hrel
     cases gk with
     | zero => exact absurd HA.out (by simp [wigeonref05_Validate.l0])
     | succ k2 =>
      have H := HA.out
      clear HA
      simp only [wigeonref05_Validate.l0] at H
      by_cases c5 : x3_2 < (l0.length : Int)
      ·rw [if_pos c5] at H
       have c5b0 : decide (x3_2 < (l0.length : Int)) = true := decide_eq_true c5
       clear c5
       have HC6 := Aside0.mk H
       clear H
       go_upto_region 6 with (fail)
       repeat (go_quiet (fail); go_upto_region 6 with (fail))
       go_cut [40] (fun v40 wc => ∃ (kq : Nat) (x40_5 : Bool), v40 = .bool x40_5 ∧ Aside0 (wigeonref05_Validate.j2 kq l0 x3_2 x40_5 = some r) ∧ Aside0 (kq ≤ k2) ∧ Drawn0 w wc)
       case first =>
        have H := HC6.out
        clear HC6
        by_cases c7 : 0 ≤ x3_2
        ·rw [if_pos c7] at H
         have c7b0 : decide (0 ≤ x3_2) = true := decide_eq_true c7
         clear c7
         (first | rw [c7b0] | (simp only [i64_w, i32_w]; rw [c7b0]) | skip)
         by_cases c8 : ((rdOf ByteArray.empty l0 x3_2).size : Int) < 1
         ·rw [if_pos c8] at H
          have c8b0 : decide (((rdOf ByteArray.empty l0 x3_2).size : Int) < 1) = true := decide_eq_true c8
          have c8b1 : decide ((rdOf ByteArray.empty l0 x3_2).size < 1) = true := decide_eq_true (by omega)
          clear c8
          have H' := Aside0.mk H
          clear H
          have p260 : 0 ≤ (x3_2 : Int) := of_decide_eq_true (by first | (with_reducible assumption) | assumption)
          have q260 : x3_2 < (l0.length : Int) := of_decide_eq_true (by first | (with_reducible assumption) | assumption)
          obtain ⟨ad260, e260, hx260_0⟩ := Kd.at_string HR0.out x3_2 p260 q260
          cases e260
          replace p260 := eq_true p260
          replace q260 := eq_true q260
          go_wp2
          repeat (go_quiet (fail); try go_wp2)
          go_meet
          case rel => exact ⟨_, (true), (by first | rfl | (simp; done) | (simp [*]; done)), H', ⟨by have := HJ1.out; have := HK2.out; first | omega | exact Nat.le_refl _⟩, by repeat (first | exact Drawn0.refl _ | apply Drawn0.step)⟩
         ·rw [if_neg c8] at H
          have c8b0 : decide (((rdOf ByteArray.empty l0 x3_2).size : Int) < 1) = false := decide_eq_false c8
          have c8b1 : decide ((rdOf ByteArray.empty l0 x3_2).size < 1) = false := decide_eq_false (by omega)
          clear c8
          by_cases c9 : ((rdOf ByteArray.empty l0 x3_2).size : Int) > 12
          ·rw [if_pos c9] at H
           have c9b0 : decide (12 < ((rdOf ByteArray.empty l0 x3_2).size : Int)) = true := decide_eq_true c9
           have c9b1 : decide (12 < (rdOf ByteArray.empty l0 x3_2).size) = true := decide_eq_true (by omega)
           clear c9
           have H' := Aside0.mk H
           clear H
           have p260 : 0 ≤ (x3_2 : Int) := of_decide_eq_true (by first | (with_reducible assumption) | assumption)
           have q260 : x3_2 < (l0.length : Int) := of_decide_eq_true (by first | (with_reducible assumption) | assumption)
           obtain ⟨ad260, e260, hx260_0⟩ := Kd.at_string HR0.out x3_2 p260 q260
           cases e260
           replace p260 := eq_true p260
           replace q260 := eq_true q260
           have p261 : 0 ≤ (x3_2 : Int) := of_decide_eq_true (by first | (with_reducible assumption) | assumption)
           have q261 : x3_2 < (l0.length : Int) := of_decide_eq_true (by first | (with_reducible assumption) | assumption)
           obtain ⟨ad261, e261, hx261_0⟩ := Kd.at_string HR0.out x3_2 p261 q261
           obtain rfl : ad260 = ad261 := (by injection e261)
           replace p261 := eq_true p261
           replace q261 := eq_true q261
           go_wp2
           repeat (go_quiet (fail); try go_wp2)
           go_meet
           case rel => exact ⟨_, (true), (by first | rfl | (simp; done) | (simp [*]; done)), H', ⟨by have := HJ1.out; have := HK2.out; first | omega | exact Nat.le_refl _⟩, by repeat (first | exact Drawn0.refl _ | apply Drawn0.step)⟩
          ·rw [if_neg c9] at H
           have c9b0 : decide (12 < ((rdOf ByteArray.empty l0 x3_2).size : Int)) = false := decide_eq_false c9
           have c9b1 : decide (12 < (rdOf ByteArray.empty l0 x3_2).size) = false := decide_eq_false (by omega)
           clear c9
           replace H := Option.bind_eq_some_iff.mp H
           obtain ⟨t263, A100, H⟩ := H
           replace H : (wigeonref05_Validate.j2 k2 l0 x3_2 (!t263)) = some r := H
           have A10 := Aside0.mk A100
           clear A100
           have H' := Aside0.mk H
           clear H
           have p260 : 0 ≤ (x3_2 : Int) := of_decide_eq_true (by first | (with_reducible assumption) | assumption)
           have q260 : x3_2 < (l0.length : Int) := of_decide_eq_true (by first | (with_reducible assumption) | assumption)
           obtain ⟨ad260, e260, hx260_0⟩ := Kd.at_string HR0.out x3_2 p260 q260
           cases e260
           replace p260 := eq_true p260
           replace q260 := eq_true q260
           have p261 : 0 ≤ (x3_2 : Int) := of_decide_eq_true (by first | (with_reducible assumption) | assumption)
           have q261 : x3_2 < (l0.length : Int) := of_decide_eq_true (by first | (with_reducible assumption) | assumption)
           obtain ⟨ad261, e261, hx261_0⟩ := Kd.at_string HR0.out x3_2 p261 q261
           obtain rfl : ad260 = ad261 := (by injection e261)
           replace p261 := eq_true p261
           replace q261 := eq_true q261
           have p262 : 0 ≤ (x3_2 : Int) := of_decide_eq_true (by first | (with_reducible assumption) | assumption)
           have q262 : x3_2 < (l0.length : Int) := of_decide_eq_true (by first | (with_reducible assumption) | assumption)
           obtain ⟨ad262, e262, hx262_0⟩ := Kd.at_string HR0.out x3_2 p262 q262
           obtain rfl : ad260 = ad262 := (by injection e262)
           replace p262 := eq_true p262
           replace q262 := eq_true q262
           go_wp2_with (first | (go_at_call 69; (with_reducible refine (wigeonref05_isNotes.calls k2 (rdOf ByteArray.empty l0 x3_2) t263 _ A10.out).mono ?_); rintro e w' ⟨rfl, ⟨nd, rfl⟩⟩; (try first | exact ⟨rfl, _, World.drewN_drewN _ _ _⟩ | exact ⟨rfl, _, Eq.trans (World.drewN_drewN _ _ _) (congrArg (World.drewN _) (Nat.add_assoc _ _ _))⟩)))
           repeat (go_quiet (first | (go_at_call 69; (with_reducible refine (wigeonref05_isNotes.calls k2 (rdOf ByteArray.empty l0 x3_2) t263 _ A10.out).mono ?_); rintro e w' ⟨rfl, ⟨nd, rfl⟩⟩; (try first | exact ⟨rfl, _, World.drewN_drewN _ _ _⟩ | exact ⟨rfl, _, Eq.trans (World.drewN_drewN _ _ _) (congrArg (World.drewN _) (Nat.add_assoc _ _ _))⟩))); try go_wp2_with (first | (go_at_call 69; (with_reducible refine (wigeonref05_isNotes.calls k2 (rdOf ByteArray.empty l0 x3_2) t263 _ A10.out).mono ?_); rintro e w' ⟨rfl, ⟨nd, rfl⟩⟩; (try first | exact ⟨rfl, _, World.drewN_drewN _ _ _⟩ | exact ⟨rfl, _, Eq.trans (World.drewN_drewN _ _ _) (congrArg (World.drewN _) (Nat.add_assoc _ _ _))⟩))))
           go_meet
           case rel => exact ⟨_, (!t263), (by first | rfl | (simp; done) | (simp [*]; done)), H', ⟨by have := HJ1.out; have := HK2.out; first | omega | exact Nat.le_refl _⟩, by repeat (first | exact Drawn0.refl _ | apply Drawn0.step)⟩
        ·rw [if_neg c7] at H
         exact absurd H (by simp)
       case rest =>
        clear HC6
        try clear c1
        try clear p2
        try clear q2
        try clear hx2
        try clear c3
        try clear c3b0
        try clear c3b1
        try clear c4
        try clear c5
        try clear c5b0
        try clear c7
        try clear c7b0
        try clear c8
        try clear c8b0
        try clear c8b1
        try clear c9
        try clear c9b0
        try clear c9b1
        try clear hx260_0
        try clear hx261_0
        try clear hx262_0
        try clear p2
        try clear p260
        try clear p261
        try clear p262
        try clear q260
        try clear q261
        try clear q262
        obtain ⟨kq, x40_5, rfl, HA, HJ5, ⟨mc5, rfl⟩⟩ := hcut
        cases kq with
        | zero => exact absurd HA.out (by simp [wigeonref05_Validate.j2])
        | succ kj5 =>
         have H := HA.out
         clear HA
         simp only [wigeonref05_Validate.j2] at H
         by_cases c11 : x40_5 = true
         ·subst c11
          have H1 : (some 1) = some r := by rw [if_pos rfl] at H; exact H
          clear H
          have H := H1
          clear H1
          obtain rfl := Option.some.inj H
          go_wp2
          repeat (go_quiet (fail); try go_wp2)
          go_ret
          exact ⟨by first | rfl | (simp; done) | (simp [*]; done), by repeat (first | exact Drawn0.refl _ | apply Drawn0.step)⟩
         ·replace c11 := Bool.eq_false_iff.mpr c11
          subst c11
          have H1 : (wigeonref05_Validate.l1 kj5 l0 x3_2 0) = some r := by rw [if_neg (show ¬ (false = true) by decide)] at H; exact H
          clear H
          have H := H1
          clear H1
          have H' := Aside0.mk H
          clear H
          go_wp2
          repeat (go_quiet (fail); try go_wp2)
          go_loopg [4] kj5 (fun kq v4 w' => ∃ (x4_4 : Int), v4 = .int .i64 x4_4 ∧ Aside0 (wigeonref05_Validate.l1 kq l0 x3_2 x4_4 = some r) ∧ Aside0 (kq ≤ kj5) ∧ Drawn0 w w')
          case atStart => exact ⟨(0), (by first | rfl | (simp; done) | (simp [*]; done)), H', ⟨Nat.le_refl _⟩, by repeat (first | exact Drawn0.refl _ | apply Drawn0.step)⟩
          case round =>
           clear H'
           try clear c1
           try clear p2
           try clear q2
           try clear hx2
           try clear c3
           try clear c3b0
           try clear c3b1
           try clear c4
           try clear c5
           try clear c5b0
           try clear c7
           try clear c7b0
           try clear c8
           try clear c8b0
           try clear c8b1
           try clear c9
           try clear c9b0
           try clear c9b1
           try clear c11
           try clear hx260_0
           try clear hx261_0
           try clear hx262_0
           try clear p2
           try clear p260
           try clear p261
           try clear p262
           try clear q2
           try clear q260
           try clear q261
           try clear q262
           obtain ⟨x4_4, rfl, HA, HK4, ⟨m4, rfl⟩⟩ := hrel
           cases gk with
           | zero => exact absurd HA.out (by simp [wigeonref05_Validate.l1])
           | succ k4 =>
            have H := HA.out
            clear HA
            simp only [wigeonref05_Validate.l1] at H
            by_cases c12 : x4_4 < x3_2
            ·rw [if_pos c12] at H
             have c12b0 : decide (x4_4 < x3_2) = true := decide_eq_true c12
             clear c12
             by_cases c13 : 0 ≤ x4_4
             ·rw [if_pos c13] at H
              have c13b0 : decide (0 ≤ x4_4) = true := decide_eq_true c13
              clear c13
              by_cases c14 : x4_4 < (l0.length : Int)
              ·rw [if_pos c14] at H
               have c14b0 : decide (x4_4 < (l0.length : Int)) = true := decide_eq_true c14
               clear c14
               by_cases c15 : 0 ≤ x3_2
               ·rw [if_pos c15] at H
                have c15b0 : decide (0 ≤ x3_2) = true := decide_eq_true c15
                clear c15
                by_cases c16 : x3_2 < (l0.length : Int)
                ·rw [if_pos c16] at H
                 have c16b0 : decide (x3_2 < (l0.length : Int)) = true := decide_eq_true c16
                 clear c16
                 by_cases c17 : (rdOf ByteArray.empty l0 x4_4).toList = (rdOf ByteArray.empty l0 x3_2).toList
                 ·rw [if_pos c17] at H
                  have c17b0 : ((rdOf ByteArray.empty l0 x4_4).toList == (rdOf ByteArray.empty l0 x3_2).toList) = true := beq_iff_eq.mpr c17
                  have c17b1 : ((rdOf ByteArray.empty l0 x4_4).toList != (rdOf ByteArray.empty l0 x3_2).toList) = false := bne_eq_false_iff_eq.mpr c17
                  clear c17
                  obtain rfl := Option.some.inj H
                  have p264 : 0 ≤ (x4_4 : Int) := of_decide_eq_true (by first | (with_reducible assumption) | assumption)
                  have q264 : x4_4 < (l0.length : Int) := of_decide_eq_true (by first | (with_reducible assumption) | assumption)
                  obtain ⟨ad264, e264, hx264_0⟩ := Kd.at_string HR0.out x4_4 p264 q264
                  cases e264
                  replace p264 := eq_true p264
                  replace q264 := eq_true q264
                  have p265 : 0 ≤ (x3_2 : Int) := of_decide_eq_true (by first | (with_reducible assumption) | assumption)
                  have q265 : x3_2 < (l0.length : Int) := of_decide_eq_true (by first | (with_reducible assumption) | assumption)
                  obtain ⟨ad265, e265, hx265_0⟩ := Kd.at_string HR0.out x3_2 p265 q265
                  obtain rfl : ad264 = ad265 := (by injection e265)
                  replace p265 := eq_true p265
                  replace q265 := eq_true q265
                  go_wp2
                  repeat (go_quiet (fail); try go_wp2)
                  go_ret
                  exact ⟨by first | rfl | (simp; done) | (simp [*]; done), by repeat (first | exact Drawn0.refl _ | apply Drawn0.step)⟩
                 ·rw [if_neg c17] at H
                  have c17b0 : ((rdOf ByteArray.empty l0 x4_4).toList == (rdOf ByteArray.empty l0 x3_2).toList) = false := beq_eq_false_iff_ne.mpr c17
                  have c17b1 : ((rdOf ByteArray.empty l0 x4_4).toList != (rdOf ByteArray.empty l0 x3_2).toList) = true := bne_iff_ne.mpr c17
                  have H' := Aside0.mk H
                  clear H
                  have p264 : 0 ≤ (x4_4 : Int) := of_decide_eq_true (by first | (with_reducible assumption) | assumption)
                  have q264 : x4_4 < (l0.length : Int) := of_decide_eq_true (by first | (with_reducible assumption) | assumption)
                  obtain ⟨ad264, e264, hx264_0⟩ := Kd.at_string HR0.out x4_4 p264 q264
                  cases e264
                  replace p264 := eq_true p264
                  replace q264 := eq_true q264
                  have p265 : 0 ≤ (x3_2 : Int) := of_decide_eq_true (by first | (with_reducible assumption) | assumption)
                  have q265 : x3_2 < (l0.length : Int) := of_decide_eq_true (by first | (with_reducible assumption) | assumption)
                  obtain ⟨ad265, e265, hx265_0⟩ := Kd.at_string HR0.out x3_2 p265 q265
                  obtain rfl : ad264 = ad265 := (by injection e265)
                  replace p265 := eq_true p265
                  replace q265 := eq_true q265
                  go_wp2
                  repeat (go_quiet (fail); try go_wp2)
                  go_roundg k4
                  case measure => have := HJ1.out; have := HK2.out; have := HJ5.out; have := HK4.out; omega
                  case rel => exact ⟨(wrap64 (x4_4 + 1)), (by first | rfl | (simp; done) | (simp [*]; done)), H', ⟨by have := HJ1.out; have := HK2.out; have := HJ5.out; have := HK4.out; omega⟩, by repeat (first | exact Drawn0.refl _ | apply Drawn0.step)⟩
                ·rw [if_neg c16] at H
                 exact absurd H (by simp)
               ·rw [if_neg c15] at H
                exact absurd H (by simp)
              ·rw [if_neg c14] at H
               exact absurd H (by simp)
             ·rw [if_neg c13] at H
              exact absurd H (by simp)
            ·rw [if_neg c12] at H
             have c12b0 : decide (x4_4 < x3_2) = false := decide_eq_false c12
             clear c12
             have H' := Aside0.mk H
             clear H
             go_wp2
             repeat (go_quiet (fail); try go_wp2)
             go_roundg k4
             case measure => have := HJ1.out; have := HK2.out; have := HJ5.out; have := HK4.out; omega
             case rel => exact ⟨(wrap64 (x3_2 + 1)), (by first | rfl | (simp; done) | (simp [*]; done)), H', ⟨by have := HJ1.out; have := HK2.out; have := HJ5.out; have := HK4.out; omega⟩, by repeat (first | exact Drawn0.refl _ | apply Drawn0.step)⟩
      ·rw [if_neg c5] at H
       have c5b0 : decide (x3_2 < (l0.length : Int)) = false := decide_eq_false c5
       clear c5
       obtain rfl := Option.some.inj H
       go_wp2
       repeat (go_quiet (fail); try go_wp2)
       go_ret
       exact ⟨by first | rfl | (simp; done) | (simp [*]; done), by repeat (first | exact Drawn0.refl _ | apply Drawn0.step)⟩

/-! ### wigeonref05_begins: function 59 -/
def wigeonref05_begins.f (a0 : ByteArray) (a1 : ByteArray) : Option (Bool) := if (a0.size : Int) ≥ (a1.size : Int) then (if 0 ≤ (a1.size : Int) then (if (a1.size : Int) ≤ (a0.size : Int) then (some ((a0.extract 0 ((a1.size : Int) : Int).toNat).toList == a1.toList)) else (none)) else (none)) else (some false)
set_option maxHeartbeats 8000000 in
set_option maxRecDepth 100000 in
theorem wigeonref05_begins.calls (a0 : ByteArray) (a1 : ByteArray) (r : Bool) (w : World) (h : wigeonref05_begins.f a0 a1 = some r) :
  Calls Try.prog 59 #[.string a0, .string a1] w fun e w' => e = .returned (.bool r) ∧ Drawn0 w w' := by
 have H : (if (a0.size : Int) ≥ (a1.size : Int) then (if 0 ≤ (a1.size : Int) then (if (a1.size : Int) ≤ (a0.size : Int) then (some ((a0.extract 0 ((a1.size : Int) : Int).toNat).toList == a1.toList)) else (none)) else (none)) else (some false)) = some r := h
 clear h
 by_cases c3 : (a0.size : Int) ≥ (a1.size : Int)
 ·rw [if_pos c3] at H
  have c3b0 : decide ((a1.size : Int) ≤ (a0.size : Int)) = true := decide_eq_true c3
  have c3b1 : decide (a1.size ≤ a0.size) = true := decide_eq_true (Int.ofNat_le.mp c3)
  clear c3
  by_cases c4 : 0 ≤ (a1.size : Int)
  ·rw [if_pos c4] at H
   have c4b0 := eq_true c4
   have c4b1 : decide (0 ≤ (a1.size : Int)) = true := decide_eq_true c4
   clear c4
   by_cases c5 : (a1.size : Int) ≤ (a0.size : Int)
   ·rw [if_pos c5] at H
    have c5b0 := eq_true c5
    have c5b1 : decide ((a1.size : Int) ≤ (a0.size : Int)) = true := decide_eq_true c5
    clear c5
    obtain rfl := Option.some.inj H
    go_enter Try.func59, Try.ntmps59
    go_wp2
    go_ret
    exact ⟨by first | rfl | (simp; done) | (simp [*]; done), by repeat (first | exact Drawn0.refl _ | apply Drawn0.step)⟩
   ·rw [if_neg c5] at H
    exact absurd H (by simp)
  ·rw [if_neg c4] at H
   exact absurd H (by simp)
 ·rw [if_neg c3] at H
  have c3b0 : decide ((a1.size : Int) ≤ (a0.size : Int)) = false := decide_eq_false c3
  have c3b1 : decide (a1.size ≤ a0.size) = false := decide_eq_false (fun h => c3 (Int.ofNat_le.mpr h))
  clear c3
  obtain rfl := Option.some.inj H
  go_enter Try.func59, Try.ntmps59
  go_wp2
  go_ret
  exact ⟨by first | rfl | (simp; done) | (simp [*]; done), by repeat (first | exact Drawn0.refl _ | apply Drawn0.step)⟩

end Go.Proofs.Ytpkafcoflgbnaaa.Q
