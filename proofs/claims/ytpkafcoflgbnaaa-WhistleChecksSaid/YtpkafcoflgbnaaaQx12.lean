-- Written by a program of this session (wip/tools/gprint.py, over the kit's print); Lean checks it.
import Derived.Test.YtpkafcoflgbnaaaWh3
import Derived.Test.YtpkafcoflgbnaaaQx0
import Derived.Test.YtpkafcoflgbnaaaQx11
namespace Go.Proofs.Ytpkafcoflgbnaaa.Q
open Go.RowKit Go.Proofs.YtpkafcoflgbnaaaW.PrintWords Go.Proofs.YtpkafcoflgbnaaaW.PrintLast Go.Proofs.YtpkafcoflgbnaaaW.PrintMore
attribute [local go_sem] max2_int min2_int max_two min_two max_three min_three max_four min_four   -- for this text's walks alone
set_option linter.unusedVariables false
set_option linter.unusedSimpArgs false

/-! ### wigeonref05_messageOK: function 66 -/
mutual
def wigeonref05_messageOK.l0 : Nat → List ByteArray → List (List Int) → Int → Option (Int)
 | 0, _, _, _ => none
 | k + 1, x0, x1, x5 => if x5 < (x1.length : Int) then (if 0 ≤ x5 then (if ((rd_L4 x1 x5).length : Int) > 400 then (some 3) else (wigeonref05_messageOK.l0 k x0 x1 (wrap64 (x5 + 1)))) else (none)) else (wigeonref05_messageOK.l1 k x0 x1 0)
def wigeonref05_messageOK.l1 : Nat → List ByteArray → List (List Int) → Int → Option (Int)
 | 0, _, _, _ => none
 | k + 1, x0, x1, x6 => if x6 < (x1.length : Int) then (wigeonref05_messageOK.l2 k x0 x1 x6 0) else (some 0)
def wigeonref05_messageOK.l2 : Nat → List ByteArray → List (List Int) → Int → Int → Option (Int)
 | 0, _, _, _, _ => none
 | k + 1, x0, x1, x6, x7 => if 0 ≤ x6 then (if x6 < (x1.length : Int) then (if x7 < ((rd_L4 x1 x6).length : Int) then (if 0 ≤ x7 then (if (rd (rd_L4 x1 x6) x7) < 0 then (some 4) else (if (rd (rd_L4 x1 x6) x7) ≥ (x0.length : Int) then (some 4) else (wigeonref05_messageOK.l2 k x0 x1 x6 (wrap64 (x7 + 1))))) else (none)) else (wigeonref05_messageOK.l1 k x0 x1 (wrap64 (x6 + 1)))) else (none)) else (none)
end
def wigeonref05_messageOK.f (k : Nat) (l0 : List ByteArray) (l1 : List (List Int)) : Option (Int) := wigeonref05_messageOK.l0 k l0 l1 0
theorem wigeonref05_messageOK.mono_l : ∀ k, (∀ y0 y1 y2, LeO (wigeonref05_messageOK.l0 k y0 y1 y2) (wigeonref05_messageOK.l0 (k + 1) y0 y1 y2)) ∧ (∀ y0 y1 y2, LeO (wigeonref05_messageOK.l1 k y0 y1 y2) (wigeonref05_messageOK.l1 (k + 1) y0 y1 y2)) ∧ (∀ y0 y1 y2 y3, LeO (wigeonref05_messageOK.l2 k y0 y1 y2 y3) (wigeonref05_messageOK.l2 (k + 1) y0 y1 y2 y3))
 | 0 => ⟨fun _ _ _ r h => by simp [wigeonref05_messageOK.l0] at h, fun _ _ _ r h => by simp [wigeonref05_messageOK.l1] at h, fun _ _ _ _ r h => by simp [wigeonref05_messageOK.l2] at h⟩
 | k + 1 => by
  obtain ⟨ih0, ih1, ih2⟩ := wigeonref05_messageOK.mono_l k
  refine ⟨?_, ?_, ?_⟩
  ·intro y0 y1 y2
   unfold wigeonref05_messageOK.l0
   repeat' first
   | (with_reducible exact ih0 _ _ _)
   | (with_reducible exact ih1 _ _ _)
   | (with_reducible exact ih2 _ _ _ _)
   | (with_reducible exact LeO.refl _)
   | (with_reducible exact LeO.none _)
   | (with_reducible refine LeO.ite ?_ ?_)
   | (with_reducible refine LeO.bind ?_ (fun _ => ?_))
   | exact ih0 _ _ _
   | exact ih1 _ _ _
   | exact ih2 _ _ _ _
   | exact LeO.none _
   | refine LeO.ite ?_ ?_
   | refine LeO.bind ?_ (fun _ => ?_)
  ·intro y0 y1 y2
   unfold wigeonref05_messageOK.l1
   repeat' first
   | (with_reducible exact ih0 _ _ _)
   | (with_reducible exact ih1 _ _ _)
   | (with_reducible exact ih2 _ _ _ _)
   | (with_reducible exact LeO.refl _)
   | (with_reducible exact LeO.none _)
   | (with_reducible refine LeO.ite ?_ ?_)
   | (with_reducible refine LeO.bind ?_ (fun _ => ?_))
   | exact ih0 _ _ _
   | exact ih1 _ _ _
   | exact ih2 _ _ _ _
   | exact LeO.none _
   | refine LeO.ite ?_ ?_
   | refine LeO.bind ?_ (fun _ => ?_)
  ·intro y0 y1 y2 y3
   unfold wigeonref05_messageOK.l2
   repeat' first
   | (with_reducible exact ih0 _ _ _)
   | (with_reducible exact ih1 _ _ _)
   | (with_reducible exact ih2 _ _ _ _)
   | (with_reducible exact LeO.refl _)
   | (with_reducible exact LeO.none _)
   | (with_reducible refine LeO.ite ?_ ?_)
   | (with_reducible refine LeO.bind ?_ (fun _ => ?_))
   | exact ih0 _ _ _
   | exact ih1 _ _ _
   | exact ih2 _ _ _ _
   | exact LeO.none _
   | refine LeO.ite ?_ ?_
   | refine LeO.bind ?_ (fun _ => ?_)
theorem wigeonref05_messageOK.mono : ∀ a0 a1 k, LeO (wigeonref05_messageOK.f k a0 a1) (wigeonref05_messageOK.f (k + 1) a0 a1) := by
 intro a0 a1 k
 obtain ⟨ih0, ih1, ih2⟩ := wigeonref05_messageOK.mono_l k
 unfold wigeonref05_messageOK.f
 repeat' first
   | (with_reducible exact ih0 _ _ _)
   | (with_reducible exact ih1 _ _ _)
   | (with_reducible exact ih2 _ _ _ _)
   | (with_reducible exact LeO.refl _)
   | (with_reducible exact LeO.none _)
   | (with_reducible refine LeO.ite ?_ ?_)
   | (with_reducible refine LeO.bind ?_ (fun _ => ?_))
   | exact ih0 _ _ _
   | exact ih1 _ _ _
   | exact ih2 _ _ _ _
   | exact LeO.none _
   | refine LeO.ite ?_ ?_
   | refine LeO.bind ?_ (fun _ => ?_)
set_option maxHeartbeats 8000000 in
set_option maxRecDepth 100000 in
theorem wigeonref05_messageOK.calls (k : Nat) (A0 : Option Addr) (c0 : Nat) (l0 : List ByteArray) (A1 : Option Addr) (c1 : Nat) (l1 : List (List Int)) (r : Int) (w : World) (hr0 : Kd.C Kd.string w A0 l0.length l0) (hc0 : l0.length ≤ c0) (hr1 : Kd.C (Kd.slice 3 (Kd.int .i64)) w A1 l1.length l1) (hc1 : l1.length ≤ c1) (h : wigeonref05_messageOK.f k l0 l1 = some r) :
  Calls Try.prog 66 #[.slice A0 l0.length c0, .slice A1 l1.length c1] w fun e w' => e = .returned (.int .i64 r) ∧ Drawn0 w w' := by
 have HR0 := Aside0.mk hr0
 have HC0 := Aside0.mk hc0
 clear hr0 hc0
 have HR1 := Aside0.mk hr1
 have HC1 := Aside0.mk hc1
 clear hr1 hc1
 have H : (wigeonref05_messageOK.l0 k l0 l1 0) = some r := h
 clear h
 have H' := Aside0.mk H
 clear H
 go_enter Try.func66, Try.ntmps66
 go_wp2
 go_loopg [5] k (fun kq v5 w' => ∃ (x5_1 : Int), v5 = .int .i64 x5_1 ∧ Aside0 (wigeonref05_messageOK.l0 kq l0 l1 x5_1 = some r) ∧ Aside0 (kq ≤ k) ∧ Drawn0 w w')
 case atStart => exact ⟨(0), (by first | rfl | (simp; done) | (simp [*]; done)), H', ⟨Nat.le_refl _⟩, by repeat (first | exact Drawn0.refl _ | apply Drawn0.step)⟩
 case round =>
  clear H'
  try clear c1
  try clear p2
  obtain ⟨x5_1, rfl, HA, HK1, ⟨m1, rfl⟩⟩ := hrel
  cases gk with
  | zero => exact absurd HA.out (by simp [wigeonref05_messageOK.l0])
  | succ k1 =>
   have H := HA.out
   clear HA
   simp only [wigeonref05_messageOK.l0] at H
   by_cases c3 : x5_1 < (l1.length : Int)
   ·rw [if_pos c3] at H
    have c3b0 : decide (x5_1 < (l1.length : Int)) = true := decide_eq_true c3
    clear c3
    by_cases c4 : 0 ≤ x5_1
    ·rw [if_pos c4] at H
     have c4b0 : decide (0 ≤ x5_1) = true := decide_eq_true c4
     clear c4
     by_cases c5 : ((rd_L4 l1 x5_1).length : Int) > 400
     ·rw [if_pos c5] at H
      have c5b0 : decide (400 < ((rd_L4 l1 x5_1).length : Int)) = true := decide_eq_true c5
      have c5b1 : decide (400 < (rd_L4 l1 x5_1).length) = true := decide_eq_true (by omega)
      clear c5
      obtain rfl := Option.some.inj H
      have p266 : 0 ≤ (x5_1 : Int) := of_decide_eq_true (by first | (with_reducible assumption) | assumption)
      have q266 : x5_1 < (l1.length : Int) := of_decide_eq_true (by first | (with_reducible assumption) | assumption)
      obtain ⟨ad266, A266_0, c266_0, e266, hx266_0, hl266_0, hi266_0⟩ := at_L4 HR1.out x5_1 p266 q266
      cases e266
      have HR266_0 := Aside0.mk hi266_0
      have HC266_0 := Aside0.mk hl266_0
      clear hi266_0 hl266_0
      replace p266 := eq_true p266
      replace q266 := eq_true q266
      go_wp2
      go_ret
      exact ⟨by first | rfl | (simp; done) | (simp [*]; done), by repeat (first | exact Drawn0.refl _ | apply Drawn0.step)⟩
     ·rw [if_neg c5] at H
      have c5b0 : decide (400 < ((rd_L4 l1 x5_1).length : Int)) = false := decide_eq_false c5
      have c5b1 : decide (400 < (rd_L4 l1 x5_1).length) = false := decide_eq_false (by omega)
      clear c5
      have H' := Aside0.mk H
      clear H
      have p266 : 0 ≤ (x5_1 : Int) := of_decide_eq_true (by first | (with_reducible assumption) | assumption)
      have q266 : x5_1 < (l1.length : Int) := of_decide_eq_true (by first | (with_reducible assumption) | assumption)
      obtain ⟨ad266, A266_0, c266_0, e266, hx266_0, hl266_0, hi266_0⟩ := at_L4 HR1.out x5_1 p266 q266
      cases e266
      have HR266_0 := Aside0.mk hi266_0
      have HC266_0 := Aside0.mk hl266_0
      clear hi266_0 hl266_0
      replace p266 := eq_true p266
      replace q266 := eq_true q266
      go_wp2
      go_roundg k1
      case measure => have := HK1.out; omega
      case rel => exact ⟨(wrap64 (x5_1 + 1)), (by first | rfl | (simp; done) | (simp [*]; done)), H', ⟨by have := HK1.out; omega⟩, by repeat (first | exact Drawn0.refl _ | apply Drawn0.step)⟩
    ·rw [if_neg c4] at H
     exact absurd H (by simp)
   ·rw [if_neg c3] at H
    have c3b0 : decide (x5_1 < (l1.length : Int)) = false := decide_eq_false c3
    clear c3
    have H' := Aside0.mk H
    clear H
    go_wp2
    go_loopg [6] k1 (fun kq v6 w' => ∃ (x6_2 : Int), v6 = .int .i64 x6_2 ∧ Aside0 (wigeonref05_messageOK.l1 kq l0 l1 x6_2 = some r) ∧ Aside0 (kq ≤ k1) ∧ Drawn0 w w')
    case atStart => exact ⟨(0), (by first | rfl | (simp; done) | (simp [*]; done)), H', ⟨Nat.le_refl _⟩, by repeat (first | exact Drawn0.refl _ | apply Drawn0.step)⟩
    case round =>
     clear H'
     try clear c1
     try clear c2
     try clear p2
     try clear q2
     try clear hx2
     try clear c3
     try clear c3b0
     try clear c4
     try clear c4b0
     try clear c5
     try clear c5b0
     try clear c5b1
     try clear hx266_0
     try clear p2
     try clear p266
     try clear q266
     obtain ⟨x6_2, rfl, HA, HK2, ⟨m2, rfl⟩⟩ := hrel
     cases gk with
     | zero => exact absurd HA.out (by simp [wigeonref05_messageOK.l1])
     | succ k2 =>
      have H := HA.out
      clear HA
      simp only [wigeonref05_messageOK.l1] at H
      by_cases c6 : x6_2 < (l1.length : Int)
      ·rw [if_pos c6] at H
       have c6b0 : decide (x6_2 < (l1.length : Int)) = true := decide_eq_true c6
       clear c6
       have H' := Aside0.mk H
       clear H
       go_wp2
       go_loopg [7] k2 (fun kq v7 w' => ∃ (x7_3 : Int), v7 = .int .i64 x7_3 ∧ Aside0 (wigeonref05_messageOK.l2 kq l0 l1 x6_2 x7_3 = some r) ∧ Aside0 (kq ≤ k2) ∧ Drawn0 w w')
       case atStart => exact ⟨(0), (by first | rfl | (simp; done) | (simp [*]; done)), H', ⟨Nat.le_refl _⟩, by repeat (first | exact Drawn0.refl _ | apply Drawn0.step)⟩
       case round =>
        clear H'
        try clear c1
        try clear c2
        try clear p2
        try clear q2
        try clear hx2
        try clear c3
        try clear c3b0
        try clear c4
        try clear c4b0
        try clear c5
        try clear c5b0
        try clear c5b1
        try clear c6
        try clear c6b0
        try clear p6
        try clear hx266_0
        try clear p2
        try clear p266
        try clear q2
        try clear q266
        obtain ⟨x7_3, rfl, HA, HK3, ⟨m3, rfl⟩⟩ := hrel
        cases gk with
        | zero => exact absurd HA.out (by simp [wigeonref05_messageOK.l2])
        | succ k3 =>
         have H := HA.out
         clear HA
         simp only [wigeonref05_messageOK.l2] at H
         by_cases c7 : 0 ≤ x6_2
         ·rw [if_pos c7] at H
          have c7b0 : decide (0 ≤ x6_2) = true := decide_eq_true c7
          clear c7
          by_cases c8 : x6_2 < (l1.length : Int)
          ·rw [if_pos c8] at H
           have c8b0 : decide (x6_2 < (l1.length : Int)) = true := decide_eq_true c8
           clear c8
           by_cases c9 : x7_3 < ((rd_L4 l1 x6_2).length : Int)
           ·rw [if_pos c9] at H
            have c9b0 : decide (x7_3 < ((rd_L4 l1 x6_2).length : Int)) = true := decide_eq_true c9
            clear c9
            by_cases c10 : 0 ≤ x7_3
            ·rw [if_pos c10] at H
             have c10b0 : decide (0 ≤ x7_3) = true := decide_eq_true c10
             clear c10
             by_cases c11 : (rd (rd_L4 l1 x6_2) x7_3) < 0
             ·rw [if_pos c11] at H
              have c11b0 : decide ((rd (rd_L4 l1 x6_2) x7_3) < 0) = true := decide_eq_true c11
              clear c11
              obtain rfl := Option.some.inj H
              have p267 : 0 ≤ (x6_2 : Int) := of_decide_eq_true (by first | (with_reducible assumption) | assumption)
              have q267 : x6_2 < (l1.length : Int) := of_decide_eq_true (by first | (with_reducible assumption) | assumption)
              obtain ⟨ad267, A267_0, c267_0, e267, hx267_0, hl267_0, hi267_0⟩ := at_L4 HR1.out x6_2 p267 q267
              cases e267
              have HR267_0 := Aside0.mk hi267_0
              have HC267_0 := Aside0.mk hl267_0
              clear hi267_0 hl267_0
              replace p267 := eq_true p267
              replace q267 := eq_true q267
              have p268 : 0 ≤ (x6_2 : Int) := of_decide_eq_true (by first | (with_reducible assumption) | assumption)
              have q268 : x6_2 < (l1.length : Int) := of_decide_eq_true (by first | (with_reducible assumption) | assumption)
              obtain ⟨ad268, A268_0, c268_0, e268, hx268_0, hl268_0, hi268_0⟩ := at_L4 HR1.out x6_2 p268 q268
              obtain rfl : ad267 = ad268 := (by injection e268)
              have HR268_0 := Aside0.mk hi268_0
              have HC268_0 := Aside0.mk hl268_0
              clear hi268_0 hl268_0
              replace p268 := eq_true p268
              replace q268 := eq_true q268
              have ea_ := Option.some.inj (hx267_0.symm.trans hx268_0)
              injection ea_ with ea_ en_ ec_
              subst ea_
              subst ec_
              clear en_
              have p269 : 0 ≤ (x7_3 : Int) := of_decide_eq_true (by first | (with_reducible assumption) | assumption)
              have q269 : x7_3 < ((rd_L4 l1 x6_2).length : Int) := of_decide_eq_true (by first | (with_reducible assumption) | assumption)
              obtain ⟨ad269, e269, hx269_0⟩ := Kd.at_int HR268_0.out x7_3 p269 q269
              cases e269
              replace p269 := eq_true p269
              replace q269 := eq_true q269
              go_wp2
              go_ret
              exact ⟨by first | rfl | (simp; done) | (simp [*]; done), by repeat (first | exact Drawn0.refl _ | apply Drawn0.step)⟩
             ·rw [if_neg c11] at H
              have c11b0 : decide ((rd (rd_L4 l1 x6_2) x7_3) < 0) = false := decide_eq_false c11
              clear c11
              by_cases c12 : (rd (rd_L4 l1 x6_2) x7_3) ≥ (l0.length : Int)
              ·rw [if_pos c12] at H
               have c12b0 : decide ((l0.length : Int) ≤ (rd (rd_L4 l1 x6_2) x7_3)) = true := decide_eq_true c12
               clear c12
               obtain rfl := Option.some.inj H
               have p267 : 0 ≤ (x6_2 : Int) := of_decide_eq_true (by first | (with_reducible assumption) | assumption)
               have q267 : x6_2 < (l1.length : Int) := of_decide_eq_true (by first | (with_reducible assumption) | assumption)
               obtain ⟨ad267, A267_0, c267_0, e267, hx267_0, hl267_0, hi267_0⟩ := at_L4 HR1.out x6_2 p267 q267
               cases e267
               have HR267_0 := Aside0.mk hi267_0
               have HC267_0 := Aside0.mk hl267_0
               clear hi267_0 hl267_0
               replace p267 := eq_true p267
               replace q267 := eq_true q267
               have p268 : 0 ≤ (x6_2 : Int) := of_decide_eq_true (by first | (with_reducible assumption) | assumption)
               have q268 : x6_2 < (l1.length : Int) := of_decide_eq_true (by first | (with_reducible assumption) | assumption)
               obtain ⟨ad268, A268_0, c268_0, e268, hx268_0, hl268_0, hi268_0⟩ := at_L4 HR1.out x6_2 p268 q268
               obtain rfl : ad267 = ad268 := (by injection e268)
               have HR268_0 := Aside0.mk hi268_0
               have HC268_0 := Aside0.mk hl268_0
               clear hi268_0 hl268_0
               replace p268 := eq_true p268
               replace q268 := eq_true q268
               have ea_ := Option.some.inj (hx267_0.symm.trans hx268_0)
               injection ea_ with ea_ en_ ec_
               subst ea_
               subst ec_
               clear en_
               have p269 : 0 ≤ (x7_3 : Int) := of_decide_eq_true (by first | (with_reducible assumption) | assumption)
               have q269 : x7_3 < ((rd_L4 l1 x6_2).length : Int) := of_decide_eq_true (by first | (with_reducible assumption) | assumption)
               obtain ⟨ad269, e269, hx269_0⟩ := Kd.at_int HR268_0.out x7_3 p269 q269
               cases e269
               replace p269 := eq_true p269
               replace q269 := eq_true q269
               have p270 : 0 ≤ (x6_2 : Int) := of_decide_eq_true (by first | (with_reducible assumption) | assumption)
               have q270 : x6_2 < (l1.length : Int) := of_decide_eq_true (by first | (with_reducible assumption) | assumption)
               obtain ⟨ad270, A270_0, c270_0, e270, hx270_0, hl270_0, hi270_0⟩ := at_L4 HR1.out x6_2 p270 q270
               obtain rfl : ad267 = ad270 := (by injection e270)
               have HR270_0 := Aside0.mk hi270_0
               have HC270_0 := Aside0.mk hl270_0
               clear hi270_0 hl270_0
               replace p270 := eq_true p270
               replace q270 := eq_true q270
               have ea_ := Option.some.inj (hx267_0.symm.trans hx270_0)
               injection ea_ with ea_ en_ ec_
               subst ea_
               subst ec_
               clear en_
               have p271 : 0 ≤ (x7_3 : Int) := of_decide_eq_true (by first | (with_reducible assumption) | assumption)
               have q271 : x7_3 < ((rd_L4 l1 x6_2).length : Int) := of_decide_eq_true (by first | (with_reducible assumption) | assumption)
               obtain ⟨ad271, e271, hx271_0⟩ := Kd.at_int HR270_0.out x7_3 p271 q271
               cases e271
               replace p271 := eq_true p271
               replace q271 := eq_true q271
               go_wp2
               go_ret
               exact ⟨by first | rfl | (simp; done) | (simp [*]; done), by repeat (first | exact Drawn0.refl _ | apply Drawn0.step)⟩
              ·rw [if_neg c12] at H
               have c12b0 : decide ((l0.length : Int) ≤ (rd (rd_L4 l1 x6_2) x7_3)) = false := decide_eq_false c12
               clear c12
               have H' := Aside0.mk H
               clear H
               have p267 : 0 ≤ (x6_2 : Int) := of_decide_eq_true (by first | (with_reducible assumption) | assumption)
               have q267 : x6_2 < (l1.length : Int) := of_decide_eq_true (by first | (with_reducible assumption) | assumption)
               obtain ⟨ad267, A267_0, c267_0, e267, hx267_0, hl267_0, hi267_0⟩ := at_L4 HR1.out x6_2 p267 q267
               cases e267
               have HR267_0 := Aside0.mk hi267_0
               have HC267_0 := Aside0.mk hl267_0
               clear hi267_0 hl267_0
               replace p267 := eq_true p267
               replace q267 := eq_true q267
               have p268 : 0 ≤ (x6_2 : Int) := of_decide_eq_true (by first | (with_reducible assumption) | assumption)
               have q268 : x6_2 < (l1.length : Int) := of_decide_eq_true (by first | (with_reducible assumption) | assumption)
               obtain ⟨ad268, A268_0, c268_0, e268, hx268_0, hl268_0, hi268_0⟩ := at_L4 HR1.out x6_2 p268 q268
               obtain rfl : ad267 = ad268 := (by injection e268)
               have HR268_0 := Aside0.mk hi268_0
               have HC268_0 := Aside0.mk hl268_0
               clear hi268_0 hl268_0
               replace p268 := eq_true p268
               replace q268 := eq_true q268
               have ea_ := Option.some.inj (hx267_0.symm.trans hx268_0)
               injection ea_ with ea_ en_ ec_
               subst ea_
               subst ec_
               clear en_
               have p269 : 0 ≤ (x7_3 : Int) := of_decide_eq_true (by first | (with_reducible assumption) | assumption)
               have q269 : x7_3 < ((rd_L4 l1 x6_2).length : Int) := of_decide_eq_true (by first | (with_reducible assumption) | assumption)
               obtain ⟨ad269, e269, hx269_0⟩ := Kd.at_int HR268_0.out x7_3 p269 q269
               cases e269
               replace p269 := eq_true p269
               replace q269 := eq_true q269
               have p270 : 0 ≤ (x6_2 : Int) := of_decide_eq_true (by first | (with_reducible assumption) | assumption)
               have q270 : x6_2 < (l1.length : Int) := of_decide_eq_true (by first | (with_reducible assumption) | assumption)
               obtain ⟨ad270, A270_0, c270_0, e270, hx270_0, hl270_0, hi270_0⟩ := at_L4 HR1.out x6_2 p270 q270
               obtain rfl : ad267 = ad270 := (by injection e270)
               have HR270_0 := Aside0.mk hi270_0
               have HC270_0 := Aside0.mk hl270_0
               clear hi270_0 hl270_0
               replace p270 := eq_true p270
               replace q270 := eq_true q270
               have ea_ := Option.some.inj (hx267_0.symm.trans hx270_0)
               injection ea_ with ea_ en_ ec_
               subst ea_
               subst ec_
               clear en_
               have p271 : 0 ≤ (x7_3 : Int) := of_decide_eq_true (by first | (with_reducible assumption) | assumption)
               have q271 : x7_3 < ((rd_L4 l1 x6_2).length : Int) := of_decide_eq_true (by first | (with_reducible assumption) | assumption)
               obtain ⟨ad271, e271, hx271_0⟩ := Kd.at_int HR270_0.out x7_3 p271 q271
               cases e271
               replace p271 := eq_true p271
               replace q271 := eq_true q271
               go_wp2
               go_roundg k3
               case measure => have := HK1.out; have := HK2.out; have := HK3.out; omega
               case rel => exact ⟨(wrap64 (x7_3 + 1)), (by first | rfl | (simp; done) | (simp [*]; done)), H', ⟨by have := HK1.out; have := HK2.out; have := HK3.out; omega⟩, by repeat (first | exact Drawn0.refl _ | apply Drawn0.step)⟩
            ·rw [if_neg c10] at H
             exact absurd H (by simp)
           ·rw [if_neg c9] at H
            have c9b0 : decide (x7_3 < ((rd_L4 l1 x6_2).length : Int)) = false := decide_eq_false c9
            clear c9
            have H' := Aside0.mk H
            clear H
            have p267 : 0 ≤ (x6_2 : Int) := of_decide_eq_true (by first | (with_reducible assumption) | assumption)
            have q267 : x6_2 < (l1.length : Int) := of_decide_eq_true (by first | (with_reducible assumption) | assumption)
            obtain ⟨ad267, A267_0, c267_0, e267, hx267_0, hl267_0, hi267_0⟩ := at_L4 HR1.out x6_2 p267 q267
            cases e267
            have HR267_0 := Aside0.mk hi267_0
            have HC267_0 := Aside0.mk hl267_0
            clear hi267_0 hl267_0
            replace p267 := eq_true p267
            replace q267 := eq_true q267
            go_wp2
            go_roundg k3
            case measure => have := HK1.out; have := HK2.out; have := HK3.out; omega
            case rel => exact ⟨(wrap64 (x6_2 + 1)), (by first | rfl | (simp; done) | (simp [*]; done)), H', ⟨by have := HK1.out; have := HK2.out; have := HK3.out; omega⟩, by repeat (first | exact Drawn0.refl _ | apply Drawn0.step)⟩
          ·rw [if_neg c8] at H
           exact absurd H (by simp)
         ·rw [if_neg c7] at H
          exact absurd H (by simp)
      ·rw [if_neg c6] at H
       have c6b0 : decide (x6_2 < (l1.length : Int)) = false := decide_eq_false c6
       clear c6
       obtain rfl := Option.some.inj H
       go_wp2
       go_ret
       exact ⟨by first | rfl | (simp; done) | (simp [*]; done), by repeat (first | exact Drawn0.refl _ | apply Drawn0.step)⟩

/-! ### wigeonref05_sound: function 67 -/
def wigeonref05_sound.l0 : Nat → List ByteArray → List Int → ByteArray → Int → Option (ByteArray)
 | 0, _, _, _, _ => none
 | k + 1, x0, x1, x5, x6 => if x6 < (x1.length : Int) then (if 0 ≤ x6 then (if 0 ≤ (rd x1 x6) then (if (rd x1 x6) < (x0.length : Int) then (if x5.size + (rdOf ByteArray.empty x0 (rd x1 x6)).size ≤ 9223372036854775807 then (wigeonref05_sound.l0 k x0 x1 (x5 ++ (rdOf ByteArray.empty x0 (rd x1 x6))) (wrap64 (x6 + 1))) else (none)) else (none)) else (none)) else (none)) else (some x5)
def wigeonref05_sound.f (k : Nat) (l0 : List ByteArray) (l1 : List Int) : Option (ByteArray) := wigeonref05_sound.l0 k l0 l1 (⟨#[]⟩ : ByteArray) 0
theorem wigeonref05_sound.mono_l : ∀ k, (∀ y0 y1 y2 y3, LeO (wigeonref05_sound.l0 k y0 y1 y2 y3) (wigeonref05_sound.l0 (k + 1) y0 y1 y2 y3))
 | 0 => fun _ _ _ _ r h => by simp [wigeonref05_sound.l0] at h
 | k + 1 => by
  have ih0 := wigeonref05_sound.mono_l k
  ·intro y0 y1 y2 y3
   unfold wigeonref05_sound.l0
   repeat' first
   | (with_reducible exact ih0 _ _ _ _)
   | (with_reducible exact LeO.refl _)
   | (with_reducible exact LeO.none _)
   | (with_reducible refine LeO.ite ?_ ?_)
   | (with_reducible refine LeO.bind ?_ (fun _ => ?_))
   | exact ih0 _ _ _ _
   | exact LeO.none _
   | refine LeO.ite ?_ ?_
   | refine LeO.bind ?_ (fun _ => ?_)
theorem wigeonref05_sound.mono : ∀ a0 a1 k, LeO (wigeonref05_sound.f k a0 a1) (wigeonref05_sound.f (k + 1) a0 a1) := by
 intro a0 a1 k
 have ih0 := wigeonref05_sound.mono_l k
 unfold wigeonref05_sound.f
 repeat' first
   | (with_reducible exact ih0 _ _ _ _)
   | (with_reducible exact LeO.refl _)
   | (with_reducible exact LeO.none _)
   | (with_reducible refine LeO.ite ?_ ?_)
   | (with_reducible refine LeO.bind ?_ (fun _ => ?_))
   | exact ih0 _ _ _ _
   | exact LeO.none _
   | refine LeO.ite ?_ ?_
   | refine LeO.bind ?_ (fun _ => ?_)
set_option maxHeartbeats 8000000 in
set_option maxRecDepth 100000 in
theorem wigeonref05_sound.calls (k : Nat) (A0 : Option Addr) (c0 : Nat) (l0 : List ByteArray) (A1 : Option Addr) (c1 : Nat) (l1 : List Int) (r : ByteArray) (w : World) (hr0 : Kd.C Kd.string w A0 l0.length l0) (hc0 : l0.length ≤ c0) (hr1 : Kd.C (Kd.int .i64) w A1 l1.length l1) (hc1 : l1.length ≤ c1) (h : wigeonref05_sound.f k l0 l1 = some r) :
  Calls Try.prog 67 #[.slice A0 l0.length c0, .slice A1 l1.length c1] w fun e w' => e = .returned (.string r) ∧ Drawn0 w w' := by
 have HR0 := Aside0.mk hr0
 have HC0 := Aside0.mk hc0
 clear hr0 hc0
 have HR1 := Aside0.mk hr1
 have HC1 := Aside0.mk hc1
 clear hr1 hc1
 have H : (wigeonref05_sound.l0 k l0 l1 (⟨#[]⟩ : ByteArray) 0) = some r := h
 clear h
 have H' := Aside0.mk H
 clear H
 go_enter Try.func67, Try.ntmps67
 go_wp2
 go_loopg [5, 6] k (fun kq v5 v6 w' => ∃ (x5_1 : ByteArray) (x6_1 : Int), v5 = .string x5_1 ∧ v6 = .int .i64 x6_1 ∧ Aside0 (wigeonref05_sound.l0 kq l0 l1 x5_1 x6_1 = some r) ∧ Aside0 (kq ≤ k) ∧ Drawn0 w w')
 case atStart => exact ⟨((⟨#[]⟩ : ByteArray)), (0), (by first | rfl | (simp; done) | (simp [*]; done)), (by first | rfl | (simp; done) | (simp [*]; done)), H', ⟨Nat.le_refl _⟩, by repeat (first | exact Drawn0.refl _ | apply Drawn0.step)⟩
 case round =>
  clear H'
  try clear c1
  try clear p2
  obtain ⟨x5_1, x6_1, rfl, rfl, HA, HK1, ⟨m1, rfl⟩⟩ := hrel
  cases gk with
  | zero => exact absurd HA.out (by simp [wigeonref05_sound.l0])
  | succ k1 =>
   have H := HA.out
   clear HA
   simp only [wigeonref05_sound.l0] at H
   by_cases c3 : x6_1 < (l1.length : Int)
   ·rw [if_pos c3] at H
    have c3b0 : decide (x6_1 < (l1.length : Int)) = true := decide_eq_true c3
    clear c3
    by_cases c4 : 0 ≤ x6_1
    ·rw [if_pos c4] at H
     have c4b0 : decide (0 ≤ x6_1) = true := decide_eq_true c4
     clear c4
     by_cases c5 : 0 ≤ (rd l1 x6_1)
     ·rw [if_pos c5] at H
      have c5b0 : decide (0 ≤ (rd l1 x6_1)) = true := decide_eq_true c5
      clear c5
      by_cases c6 : (rd l1 x6_1) < (l0.length : Int)
      ·rw [if_pos c6] at H
       have c6b0 : decide ((rd l1 x6_1) < (l0.length : Int)) = true := decide_eq_true c6
       clear c6
       by_cases c7 : x5_1.size + (rdOf ByteArray.empty l0 (rd l1 x6_1)).size ≤ 9223372036854775807
       ·rw [if_pos c7] at H
        have c7b0 := eq_true c7
        have c7b1 : decide (x5_1.size + (rdOf ByteArray.empty l0 (rd l1 x6_1)).size ≤ 9223372036854775807) = true := decide_eq_true c7
        try have c7b2 : (9223372036854775807 < x5_1.size + (rdOf ByteArray.empty l0 (rd l1 x6_1)).size) = False := eq_false (Nat.not_lt.2 c7)
        have H' := Aside0.mk H
        clear H
        have p272 : 0 ≤ (x6_1 : Int) := of_decide_eq_true (by first | (with_reducible assumption) | assumption)
        have q272 : x6_1 < (l1.length : Int) := of_decide_eq_true (by first | (with_reducible assumption) | assumption)
        obtain ⟨ad272, e272, hx272_0⟩ := Kd.at_int HR1.out x6_1 p272 q272
        cases e272
        replace p272 := eq_true p272
        replace q272 := eq_true q272
        have p273 : 0 ≤ ((rd l1 x6_1) : Int) := of_decide_eq_true (by first | (with_reducible assumption) | assumption)
        have q273 : (rd l1 x6_1) < (l0.length : Int) := of_decide_eq_true (by first | (with_reducible assumption) | assumption)
        obtain ⟨ad273, e273, hx273_0⟩ := Kd.at_string HR0.out (rd l1 x6_1) p273 q273
        cases e273
        replace p273 := eq_true p273
        replace q273 := eq_true q273
        go_wp2
        go_roundg k1
        case measure => have := HK1.out; omega
        case rel => exact ⟨(x5_1 ++ (rdOf ByteArray.empty l0 (rd l1 x6_1))), (wrap64 (x6_1 + 1)), (by first | rfl | (simp; done) | (simp [*]; done)), (by first | rfl | (simp; done) | (simp [*]; done)), H', ⟨by have := HK1.out; omega⟩, by repeat (first | exact Drawn0.refl _ | apply Drawn0.step)⟩
       ·rw [if_neg c7] at H
        exact absurd H (by simp)
      ·rw [if_neg c6] at H
       exact absurd H (by simp)
     ·rw [if_neg c5] at H
      exact absurd H (by simp)
    ·rw [if_neg c4] at H
     exact absurd H (by simp)
   ·rw [if_neg c3] at H
    have c3b0 : decide (x6_1 < (l1.length : Int)) = false := decide_eq_false c3
    clear c3
    obtain rfl := Option.some.inj H
    go_wp2
    go_ret
    exact ⟨by first | rfl | (simp; done) | (simp [*]; done), by repeat (first | exact Drawn0.refl _ | apply Drawn0.step)⟩

/-! ### wigeonref05_Sound: function 31 -/
-- GIVEN wigeon/wigeonref05.Sound rounds=1 making=1
def wigeonref05_Sound.f (k : Nat) (l0 : List ByteArray) (l1 : List Int) : Option (ByteArray × Int) :=
 (wigeonref05_Validate.f k l0).bind fun e0 => if e0 ≠ 0 then some (⟨#[]⟩, e0) else (wigeonref05_messageOK.f k l0 [l1]).bind fun e1 => if e1 ≠ 0 then some (⟨#[]⟩, e1) else (wigeonref05_sound.f k l0 l1).bind fun s => some (s, 0)
theorem wigeonref05_Sound.mono : ∀ a0 a1 k, LeO (wigeonref05_Sound.f k a0 a1) (wigeonref05_Sound.f (k + 1) a0 a1) := by
 intro a0 a1 k
 unfold wigeonref05_Sound.f
 exact LeO.bind (wigeonref05_Validate.mono _ _) fun e0 => LeO.ite (LeO.refl _) (LeO.bind (wigeonref05_messageOK.mono _ _ _) fun e1 => LeO.ite (LeO.refl _) (LeO.bind (wigeonref05_sound.mono _ _ _) fun s => LeO.refl _))
theorem wigeonref05_Sound.rows1 (w W : World) (A1 : Option Addr) (c1 : Nat) (l1 : List Int) (hB : Below w.heap.size w W) (hr1 : Kd.C (Kd.int .i64) w A1 l1.length l1) (hc1 : l1.length ≤ c1) : Kd.C (Kd.slice 3 (Kd.int .i64)) (W.alloc (.cells #[.slice A1 l1.length c1] 35)) (some ⟨W.heap.size, 0, none⟩) 1 [l1] := by
 refine rows_at (L := [l1]) (by simp) fun j hj => ?_
 obtain rfl : j = 0 := by simpa using hj
 exact ⟨A1, c1, by simp, hc1, Kd.C_below hr1 (hB.alloc hB.size _)⟩
theorem wigeonref05_Sound.calls (k : Nat) (A0 : Option Addr) (c0 : Nat) (l0 : List ByteArray) (A1 : Option Addr) (c1 : Nat) (l1 : List Int) (r1 : ByteArray) (r2 : Int) (w : World) (hr0 : Kd.C Kd.string w A0 l0.length l0) (hc0 : l0.length ≤ c0) (hr1 : Kd.C (Kd.int .i64) w A1 l1.length l1) (hc1 : l1.length ≤ c1) (h : wigeonref05_Sound.f k l0 l1 = some (r1, r2)) :
  Calls Try.prog 31 #[.slice A0 l0.length c0, .slice A1 l1.length c1] w fun e w' => e = .returned (.tuple #[.string r1, .int .i64 r2]) ∧ Below w.heap.size w w' := by
 unfold wigeonref05_Sound.f at h
 obtain ⟨e0, h0, h⟩ := Option.bind_eq_some_iff.1 h
 have hv : RetI 33 #[.slice A0 l0.length c0] e0 w := (wigeonref05_Validate.calls k A0 c0 l0 e0 w hr0 hc0 h0).mono fun e w' ⟨h1, nd, h2⟩ => ⟨h1, by rw [h2]; exact pw_below_drewN (Below.refl _ _) nd⟩
 split at h
 ·rename_i hne
  obtain ⟨rfl, rfl⟩ := Prod.mk.inj (Option.some.inj h)
  exact rsound_e0 A0 l0.length c0 A1 l1.length c1 _ w hne hv
 rename_i hne
 obtain rfl : e0 = 0 := by simpa using hne
 obtain ⟨e1, h1, h⟩ := Option.bind_eq_some_iff.1 h
 have hm : ∀ W, Below w.heap.size w W → RetI 66 #[.slice A0 l0.length c0, .slice (some ⟨W.heap.size, 0, none⟩) 1 1] e1 (W.alloc (.cells #[.slice A1 l1.length c1] 35)) := fun W hB => (wigeonref05_messageOK.calls k A0 c0 l0 _ 1 [l1] e1 _ (Kd.C_below hr0 (hB.alloc hB.size _)) hc0 (wigeonref05_Sound.rows1 w W A1 c1 l1 hB hr1 hc1) (Nat.le_refl _) h1).mono fun e w' ⟨h1, nd, h2⟩ => ⟨h1, by rw [h2]; exact pw_below_drewN (Below.refl _ _) nd⟩
 split at h
 ·rename_i hne1
  obtain ⟨rfl, rfl⟩ := Prod.mk.inj (Option.some.inj h)
  exact rsound_e1 A0 l0.length c0 A1 l1.length c1 _ w hne1 hv hm
 rename_i hne1
 obtain rfl : e1 = 0 := by simpa using hne1
 obtain ⟨s, hs, h⟩ := Option.bind_eq_some_iff.1 h
 obtain ⟨rfl, rfl⟩ := Prod.mk.inj (Option.some.inj h)
 refine rsound_ok A0 l0.length c0 A1 l1.length c1 s w hv hm fun W hB => ?_
 exact (wigeonref05_sound.calls k A0 c0 l0 A1 c1 l1 s W (Kd.C_below hr0 hB) hc0 (Kd.C_below hr1 hB) hc1 hs).mono fun e w' ⟨h1, nd, h2⟩ => ⟨h1, by rw [h2]; exact pw_below_drewN (Below.refl _ _) nd⟩

end Go.Proofs.Ytpkafcoflgbnaaa.Q
