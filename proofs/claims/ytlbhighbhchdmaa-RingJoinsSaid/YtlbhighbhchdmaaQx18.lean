-- Written by a program of this session (wip/tools/gprint.py, over the kit's print); Lean checks it.
import Derived.Test.YtlbhighbhchdmaaQx0
import Derived.Test.YtlbhighbhchdmaaQx15
namespace Go.Proofs.Ytlbhighbhchdmaa.Q
open Go.RowKit Go.Proofs.YtlbhighbhchdmaaW.PrintWords Go.Proofs.YtlbhighbhchdmaaW.PrintLast Go.Proofs.YtlbhighbhchdmaaW.PrintMore
attribute [local go_sem] max2_int min2_int max_two min_two max_three min_three max_four min_four   -- for this text's walks alone
set_option linter.unusedVariables false
set_option linter.unusedSimpArgs false

/-! ### wigeonref01_ValidateBlocks: function 47 -/
mutual
def wigeonref01_ValidateBlocks.l0 : Nat → List (S79) → Int → Option (Int)
 | 0, _, _ => none
 | k + 1, x0, x3 => if x3 < (x0.length : Int) then (if 0 ≤ x3 then ((wigeonref01_isSeries.f k ((rd_T79 x0 x3).f0)).bind fun t359 => (if t359 = true then (if ((rd_T79 x0 x3).f1) < 0 then (some 1) else (if ((rd_T79 x0 x3).f2) < ((rd_T79 x0 x3).f1) then (some 1) else (if ((rd_T79 x0 x3).f2) > 99999 then (some 1) else (wigeonref01_ValidateBlocks.l0 k x0 (wrap64 (x3 + 1)))))) else (some 2))) else (none)) else (wigeonref01_ValidateBlocks.l1 k x0 0)
def wigeonref01_ValidateBlocks.l1 : Nat → List (S79) → Int → Option (Int)
 | 0, _, _ => none
 | k + 1, x0, x4 => if x4 < (x0.length : Int) then (wigeonref01_ValidateBlocks.l2 k x0 x4 0) else (some 0)
def wigeonref01_ValidateBlocks.l2 : Nat → List (S79) → Int → Int → Option (Int)
 | 0, _, _, _ => none
 | k + 1, x0, x4, x5 => if x5 < x4 then (if 0 ≤ x4 then (if x4 < (x0.length : Int) then (if 0 ≤ x5 then (if x5 < (x0.length : Int) then (if ((rd_T79 x0 x4).f0).toList = ((rd_T79 x0 x5).f0).toList then (if ((rd_T79 x0 x4).f1) ≤ ((rd_T79 x0 x5).f2) then (if ((rd_T79 x0 x5).f1) ≤ ((rd_T79 x0 x4).f2) then (some 5) else (wigeonref01_ValidateBlocks.l2 k x0 x4 (wrap64 (x5 + 1)))) else (wigeonref01_ValidateBlocks.l2 k x0 x4 (wrap64 (x5 + 1)))) else (wigeonref01_ValidateBlocks.l2 k x0 x4 (wrap64 (x5 + 1)))) else (none)) else (none)) else (none)) else (none)) else (wigeonref01_ValidateBlocks.l1 k x0 (wrap64 (x4 + 1)))
end
def wigeonref01_ValidateBlocks.f (k : Nat) (l0 : List (S79)) : Option (Int) := if (l0.length : Int) > 8 then (some 3) else (wigeonref01_ValidateBlocks.l0 k l0 0)
theorem wigeonref01_ValidateBlocks.mono_l : ∀ k, (∀ y0 y1, LeO (wigeonref01_ValidateBlocks.l0 k y0 y1) (wigeonref01_ValidateBlocks.l0 (k + 1) y0 y1)) ∧ (∀ y0 y1, LeO (wigeonref01_ValidateBlocks.l1 k y0 y1) (wigeonref01_ValidateBlocks.l1 (k + 1) y0 y1)) ∧ (∀ y0 y1 y2, LeO (wigeonref01_ValidateBlocks.l2 k y0 y1 y2) (wigeonref01_ValidateBlocks.l2 (k + 1) y0 y1 y2))
 | 0 => ⟨fun _ _ r h => by simp [wigeonref01_ValidateBlocks.l0] at h, fun _ _ r h => by simp [wigeonref01_ValidateBlocks.l1] at h, fun _ _ _ r h => by simp [wigeonref01_ValidateBlocks.l2] at h⟩
 | k + 1 => by
  obtain ⟨ih0, ih1, ih2⟩ := wigeonref01_ValidateBlocks.mono_l k
  refine ⟨?_, ?_, ?_⟩
  ·intro y0 y1
   unfold wigeonref01_ValidateBlocks.l0
   repeat' first
   | (with_reducible exact ih0 _ _)
   | (with_reducible exact ih1 _ _)
   | (with_reducible exact ih2 _ _ _)
   | (with_reducible exact wigeonref01_isSeries.mono _ _)
   | (with_reducible exact LeO.refl _)
   | (with_reducible exact LeO.none _)
   | (with_reducible refine LeO.ite ?_ ?_)
   | (with_reducible refine LeO.bind ?_ (fun _ => ?_))
   | exact ih0 _ _
   | exact ih1 _ _
   | exact ih2 _ _ _
   | exact wigeonref01_isSeries.mono _ _
   | exact LeO.none _
   | refine LeO.ite ?_ ?_
   | refine LeO.bind ?_ (fun _ => ?_)
  ·intro y0 y1
   unfold wigeonref01_ValidateBlocks.l1
   repeat' first
   | (with_reducible exact ih0 _ _)
   | (with_reducible exact ih1 _ _)
   | (with_reducible exact ih2 _ _ _)
   | (with_reducible exact wigeonref01_isSeries.mono _ _)
   | (with_reducible exact LeO.refl _)
   | (with_reducible exact LeO.none _)
   | (with_reducible refine LeO.ite ?_ ?_)
   | (with_reducible refine LeO.bind ?_ (fun _ => ?_))
   | exact ih0 _ _
   | exact ih1 _ _
   | exact ih2 _ _ _
   | exact wigeonref01_isSeries.mono _ _
   | exact LeO.none _
   | refine LeO.ite ?_ ?_
   | refine LeO.bind ?_ (fun _ => ?_)
  ·intro y0 y1 y2
   unfold wigeonref01_ValidateBlocks.l2
   repeat' first
   | (with_reducible exact ih0 _ _)
   | (with_reducible exact ih1 _ _)
   | (with_reducible exact ih2 _ _ _)
   | (with_reducible exact wigeonref01_isSeries.mono _ _)
   | (with_reducible exact LeO.refl _)
   | (with_reducible exact LeO.none _)
   | (with_reducible refine LeO.ite ?_ ?_)
   | (with_reducible refine LeO.bind ?_ (fun _ => ?_))
   | exact ih0 _ _
   | exact ih1 _ _
   | exact ih2 _ _ _
   | exact wigeonref01_isSeries.mono _ _
   | exact LeO.none _
   | refine LeO.ite ?_ ?_
   | refine LeO.bind ?_ (fun _ => ?_)
theorem wigeonref01_ValidateBlocks.mono : ∀ a0 k, LeO (wigeonref01_ValidateBlocks.f k a0) (wigeonref01_ValidateBlocks.f (k + 1) a0) := by
 intro a0 k
 obtain ⟨ih0, ih1, ih2⟩ := wigeonref01_ValidateBlocks.mono_l k
 unfold wigeonref01_ValidateBlocks.f
 repeat' first
   | (with_reducible exact ih0 _ _)
   | (with_reducible exact ih1 _ _)
   | (with_reducible exact ih2 _ _ _)
   | (with_reducible exact wigeonref01_isSeries.mono _ _)
   | (with_reducible exact LeO.refl _)
   | (with_reducible exact LeO.none _)
   | (with_reducible refine LeO.ite ?_ ?_)
   | (with_reducible refine LeO.bind ?_ (fun _ => ?_))
   | exact ih0 _ _
   | exact ih1 _ _
   | exact ih2 _ _ _
   | exact wigeonref01_isSeries.mono _ _
   | exact LeO.none _
   | refine LeO.ite ?_ ?_
   | refine LeO.bind ?_ (fun _ => ?_)
set_option maxHeartbeats 8000000 in
set_option maxRecDepth 100000 in
theorem wigeonref01_ValidateBlocks.calls (k : Nat) (A0 : Option Addr) (c0 : Nat) (l0 : List (S79)) (r : Int) (w : World) (hr0 : Kd.C k79 w A0 l0.length l0) (hc0 : l0.length ≤ c0) (h : wigeonref01_ValidateBlocks.f k l0 = some r) :
  Calls Try.prog 47 #[.slice A0 l0.length c0] w fun e w' => e = .returned (.int .i64 r) ∧ Drawn0 w w' := by
 have HR0 := Aside0.mk hr0
 have HC0 := Aside0.mk hc0
 clear hr0 hc0
 have H : (if (l0.length : Int) > 8 then (some 3) else (wigeonref01_ValidateBlocks.l0 k l0 0)) = some r := h
 clear h
 by_cases c2 : (l0.length : Int) > 8
 ·rw [if_pos c2] at H
  have c2b0 : decide (8 < (l0.length : Int)) = true := decide_eq_true c2
  have c2b1 : decide (8 < l0.length) = true := decide_eq_true (by omega)
  clear c2
  obtain rfl := Option.some.inj H
  go_enter Try.func47, Try.ntmps47
  go_wp2
  repeat (go_quiet (fail); try go_wp2)
  go_ret
  exact ⟨by first | rfl | (simp; done) | (simp [*]; done), by repeat (first | exact Drawn0.refl _ | apply Drawn0.step)⟩
 ·rw [if_neg c2] at H
  have c2b0 : decide (8 < (l0.length : Int)) = false := decide_eq_false c2
  have c2b1 : decide (8 < l0.length) = false := decide_eq_false (by omega)
  clear c2
  have H' := Aside0.mk H
  clear H
  go_enter Try.func47, Try.ntmps47
  go_wp2
  repeat (go_quiet (fail); try go_wp2)
  go_loopg [3] k (fun kq v3 w' => ∃ (x3_1 : Int), v3 = .int .i64 x3_1 ∧ Aside0 (wigeonref01_ValidateBlocks.l0 kq l0 x3_1 = some r) ∧ Aside0 (kq ≤ k) ∧ Drawn0 w w')
  case atStart => exact ⟨(0), (by first | rfl | (simp; done) | (simp [*]; done)), H', ⟨Nat.le_refl _⟩, by repeat (first | exact Drawn0.refl _ | apply Drawn0.step)⟩
  case round =>
   clear H'
   try clear c2
   try clear c2b0
   try clear c2b1
   try clear p2
   obtain ⟨x3_1, rfl, HA, HK1, ⟨m1, rfl⟩⟩ := hrel
   cases gk with
   | zero => exact absurd HA.out (by simp [wigeonref01_ValidateBlocks.l0])
   | succ k1 =>
    have H := HA.out
    clear HA
    simp only [wigeonref01_ValidateBlocks.l0] at H
    by_cases c3 : x3_1 < (l0.length : Int)
    ·rw [if_pos c3] at H
     have c3b0 : decide (x3_1 < (l0.length : Int)) = true := decide_eq_true c3
     clear c3
     by_cases c4 : 0 ≤ x3_1
     ·rw [if_pos c4] at H
      have c4b0 : decide (0 ≤ x3_1) = true := decide_eq_true c4
      clear c4
      replace H := Option.bind_eq_some_iff.mp H
      obtain ⟨t359, A50, H⟩ := H
      replace H : (if t359 = true then (if ((rd_T79 l0 x3_1).f1) < 0 then (some 1) else (if ((rd_T79 l0 x3_1).f2) < ((rd_T79 l0 x3_1).f1) then (some 1) else (if ((rd_T79 l0 x3_1).f2) > 99999 then (some 1) else (wigeonref01_ValidateBlocks.l0 k1 l0 (wrap64 (x3_1 + 1)))))) else (some 2)) = some r := H
      have A5 := Aside0.mk A50
      clear A50
      by_cases c6 : t359 = true
      ·subst c6
       have H1 : (if ((rd_T79 l0 x3_1).f1) < 0 then (some 1) else (if ((rd_T79 l0 x3_1).f2) < ((rd_T79 l0 x3_1).f1) then (some 1) else (if ((rd_T79 l0 x3_1).f2) > 99999 then (some 1) else (wigeonref01_ValidateBlocks.l0 k1 l0 (wrap64 (x3_1 + 1)))))) = some r := by rw [if_pos rfl] at H; exact H
       clear H
       have H := H1
       clear H1
       by_cases c7 : ((rd_T79 l0 x3_1).f1) < 0
       ·rw [if_pos c7] at H
        have c7b0 : decide (((rd_T79 l0 x3_1).f1) < 0) = true := decide_eq_true c7
        clear c7
        obtain rfl := Option.some.inj H
        have p358 : 0 ≤ (x3_1 : Int) := of_decide_eq_true (by first | (with_reducible assumption) | assumption)
        have q358 : x3_1 < (l0.length : Int) := of_decide_eq_true (by first | (with_reducible assumption) | assumption)
        obtain ⟨ad358, e358, hx358_0, hx358_1, hx358_2⟩ := at_T79 HR0.out x3_1 p358 q358
        cases e358
        replace p358 := eq_true p358
        replace q358 := eq_true q358
        go_wp2_with (first | (go_at_call 79; (with_reducible refine (wigeonref01_isSeries.calls k1 ((rd_T79 l0 x3_1).f0) true _ A5.out).mono ?_); rintro e w' ⟨rfl, ⟨nd, rfl⟩⟩; (try first | exact ⟨rfl, _, World.drewN_drewN _ _ _⟩ | exact ⟨rfl, _, Eq.trans (World.drewN_drewN _ _ _) (congrArg (World.drewN _) (Nat.add_assoc _ _ _))⟩); have p360 : 0 ≤ (x3_1 : Int) := of_decide_eq_true (by first | (with_reducible assumption) | assumption); have q360 : x3_1 < (l0.length : Int) := of_decide_eq_true (by first | (with_reducible assumption) | assumption); obtain ⟨ad360, e360, hx360_0, hx360_1, hx360_2⟩ := at_T79 HR0.out x3_1 p360 q360; obtain rfl : ad358 = ad360 := (by injection e360); replace p360 := eq_true p360; replace q360 := eq_true q360))
        repeat (go_quiet (first | (go_at_call 79; (with_reducible refine (wigeonref01_isSeries.calls k1 ((rd_T79 l0 x3_1).f0) true _ A5.out).mono ?_); rintro e w' ⟨rfl, ⟨nd, rfl⟩⟩; (try first | exact ⟨rfl, _, World.drewN_drewN _ _ _⟩ | exact ⟨rfl, _, Eq.trans (World.drewN_drewN _ _ _) (congrArg (World.drewN _) (Nat.add_assoc _ _ _))⟩); have p360 : 0 ≤ (x3_1 : Int) := of_decide_eq_true (by first | (with_reducible assumption) | assumption); have q360 : x3_1 < (l0.length : Int) := of_decide_eq_true (by first | (with_reducible assumption) | assumption); obtain ⟨ad360, e360, hx360_0, hx360_1, hx360_2⟩ := at_T79 HR0.out x3_1 p360 q360; obtain rfl : ad358 = ad360 := (by injection e360); replace p360 := eq_true p360; replace q360 := eq_true q360)); try go_wp2_with (first | (go_at_call 79; (with_reducible refine (wigeonref01_isSeries.calls k1 ((rd_T79 l0 x3_1).f0) true _ A5.out).mono ?_); rintro e w' ⟨rfl, ⟨nd, rfl⟩⟩; (try first | exact ⟨rfl, _, World.drewN_drewN _ _ _⟩ | exact ⟨rfl, _, Eq.trans (World.drewN_drewN _ _ _) (congrArg (World.drewN _) (Nat.add_assoc _ _ _))⟩); have p360 : 0 ≤ (x3_1 : Int) := of_decide_eq_true (by first | (with_reducible assumption) | assumption); have q360 : x3_1 < (l0.length : Int) := of_decide_eq_true (by first | (with_reducible assumption) | assumption); obtain ⟨ad360, e360, hx360_0, hx360_1, hx360_2⟩ := at_T79 HR0.out x3_1 p360 q360; obtain rfl : ad358 = ad360 := (by injection e360); replace p360 := eq_true p360; replace q360 := eq_true q360)))
        go_ret
        exact ⟨by first | rfl | (simp; done) | (simp [*]; done), by repeat (first | exact Drawn0.refl _ | apply Drawn0.step)⟩
       ·rw [if_neg c7] at H
        have c7b0 : decide (((rd_T79 l0 x3_1).f1) < 0) = false := decide_eq_false c7
        clear c7
        by_cases c8 : ((rd_T79 l0 x3_1).f2) < ((rd_T79 l0 x3_1).f1)
        ·rw [if_pos c8] at H
         have c8b0 : decide (((rd_T79 l0 x3_1).f2) < ((rd_T79 l0 x3_1).f1)) = true := decide_eq_true c8
         clear c8
         obtain rfl := Option.some.inj H
         have p358 : 0 ≤ (x3_1 : Int) := of_decide_eq_true (by first | (with_reducible assumption) | assumption)
         have q358 : x3_1 < (l0.length : Int) := of_decide_eq_true (by first | (with_reducible assumption) | assumption)
         obtain ⟨ad358, e358, hx358_0, hx358_1, hx358_2⟩ := at_T79 HR0.out x3_1 p358 q358
         cases e358
         replace p358 := eq_true p358
         replace q358 := eq_true q358
         go_wp2_with (first | (go_at_call 79; (with_reducible refine (wigeonref01_isSeries.calls k1 ((rd_T79 l0 x3_1).f0) true _ A5.out).mono ?_); rintro e w' ⟨rfl, ⟨nd, rfl⟩⟩; (try first | exact ⟨rfl, _, World.drewN_drewN _ _ _⟩ | exact ⟨rfl, _, Eq.trans (World.drewN_drewN _ _ _) (congrArg (World.drewN _) (Nat.add_assoc _ _ _))⟩); have p360 : 0 ≤ (x3_1 : Int) := of_decide_eq_true (by first | (with_reducible assumption) | assumption); have q360 : x3_1 < (l0.length : Int) := of_decide_eq_true (by first | (with_reducible assumption) | assumption); obtain ⟨ad360, e360, hx360_0, hx360_1, hx360_2⟩ := at_T79 HR0.out x3_1 p360 q360; obtain rfl : ad358 = ad360 := (by injection e360); replace p360 := eq_true p360; replace q360 := eq_true q360; have p361 : 0 ≤ (x3_1 : Int) := of_decide_eq_true (by first | (with_reducible assumption) | assumption); have q361 : x3_1 < (l0.length : Int) := of_decide_eq_true (by first | (with_reducible assumption) | assumption); obtain ⟨ad361, e361, hx361_0, hx361_1, hx361_2⟩ := at_T79 HR0.out x3_1 p361 q361; obtain rfl : ad358 = ad361 := (by injection e361); replace p361 := eq_true p361; replace q361 := eq_true q361; have p362 : 0 ≤ (x3_1 : Int) := of_decide_eq_true (by first | (with_reducible assumption) | assumption); have q362 : x3_1 < (l0.length : Int) := of_decide_eq_true (by first | (with_reducible assumption) | assumption); obtain ⟨ad362, e362, hx362_0, hx362_1, hx362_2⟩ := at_T79 HR0.out x3_1 p362 q362; obtain rfl : ad358 = ad362 := (by injection e362); replace p362 := eq_true p362; replace q362 := eq_true q362))
         repeat (go_quiet (first | (go_at_call 79; (with_reducible refine (wigeonref01_isSeries.calls k1 ((rd_T79 l0 x3_1).f0) true _ A5.out).mono ?_); rintro e w' ⟨rfl, ⟨nd, rfl⟩⟩; (try first | exact ⟨rfl, _, World.drewN_drewN _ _ _⟩ | exact ⟨rfl, _, Eq.trans (World.drewN_drewN _ _ _) (congrArg (World.drewN _) (Nat.add_assoc _ _ _))⟩); have p360 : 0 ≤ (x3_1 : Int) := of_decide_eq_true (by first | (with_reducible assumption) | assumption); have q360 : x3_1 < (l0.length : Int) := of_decide_eq_true (by first | (with_reducible assumption) | assumption); obtain ⟨ad360, e360, hx360_0, hx360_1, hx360_2⟩ := at_T79 HR0.out x3_1 p360 q360; obtain rfl : ad358 = ad360 := (by injection e360); replace p360 := eq_true p360; replace q360 := eq_true q360; have p361 : 0 ≤ (x3_1 : Int) := of_decide_eq_true (by first | (with_reducible assumption) | assumption); have q361 : x3_1 < (l0.length : Int) := of_decide_eq_true (by first | (with_reducible assumption) | assumption); obtain ⟨ad361, e361, hx361_0, hx361_1, hx361_2⟩ := at_T79 HR0.out x3_1 p361 q361; obtain rfl : ad358 = ad361 := (by injection e361); replace p361 := eq_true p361; replace q361 := eq_true q361; have p362 : 0 ≤ (x3_1 : Int) := of_decide_eq_true (by first | (with_reducible assumption) | assumption); have q362 : x3_1 < (l0.length : Int) := of_decide_eq_true (by first | (with_reducible assumption) | assumption); obtain ⟨ad362, e362, hx362_0, hx362_1, hx362_2⟩ := at_T79 HR0.out x3_1 p362 q362; obtain rfl : ad358 = ad362 := (by injection e362); replace p362 := eq_true p362; replace q362 := eq_true q362)); try go_wp2_with (first | (go_at_call 79; (with_reducible refine (wigeonref01_isSeries.calls k1 ((rd_T79 l0 x3_1).f0) true _ A5.out).mono ?_); rintro e w' ⟨rfl, ⟨nd, rfl⟩⟩; (try first | exact ⟨rfl, _, World.drewN_drewN _ _ _⟩ | exact ⟨rfl, _, Eq.trans (World.drewN_drewN _ _ _) (congrArg (World.drewN _) (Nat.add_assoc _ _ _))⟩); have p360 : 0 ≤ (x3_1 : Int) := of_decide_eq_true (by first | (with_reducible assumption) | assumption); have q360 : x3_1 < (l0.length : Int) := of_decide_eq_true (by first | (with_reducible assumption) | assumption); obtain ⟨ad360, e360, hx360_0, hx360_1, hx360_2⟩ := at_T79 HR0.out x3_1 p360 q360; obtain rfl : ad358 = ad360 := (by injection e360); replace p360 := eq_true p360; replace q360 := eq_true q360; have p361 : 0 ≤ (x3_1 : Int) := of_decide_eq_true (by first | (with_reducible assumption) | assumption); have q361 : x3_1 < (l0.length : Int) := of_decide_eq_true (by first | (with_reducible assumption) | assumption); obtain ⟨ad361, e361, hx361_0, hx361_1, hx361_2⟩ := at_T79 HR0.out x3_1 p361 q361; obtain rfl : ad358 = ad361 := (by injection e361); replace p361 := eq_true p361; replace q361 := eq_true q361; have p362 : 0 ≤ (x3_1 : Int) := of_decide_eq_true (by first | (with_reducible assumption) | assumption); have q362 : x3_1 < (l0.length : Int) := of_decide_eq_true (by first | (with_reducible assumption) | assumption); obtain ⟨ad362, e362, hx362_0, hx362_1, hx362_2⟩ := at_T79 HR0.out x3_1 p362 q362; obtain rfl : ad358 = ad362 := (by injection e362); replace p362 := eq_true p362; replace q362 := eq_true q362)))
         go_ret
         exact ⟨by first | rfl | (simp; done) | (simp [*]; done), by repeat (first | exact Drawn0.refl _ | apply Drawn0.step)⟩
        ·rw [if_neg c8] at H
         have c8b0 : decide (((rd_T79 l0 x3_1).f2) < ((rd_T79 l0 x3_1).f1)) = false := decide_eq_false c8
         clear c8
         by_cases c9 : ((rd_T79 l0 x3_1).f2) > 99999
         ·rw [if_pos c9] at H
          have c9b0 : decide (99999 < ((rd_T79 l0 x3_1).f2)) = true := decide_eq_true c9
          clear c9
          obtain rfl := Option.some.inj H
          have p358 : 0 ≤ (x3_1 : Int) := of_decide_eq_true (by first | (with_reducible assumption) | assumption)
          have q358 : x3_1 < (l0.length : Int) := of_decide_eq_true (by first | (with_reducible assumption) | assumption)
          obtain ⟨ad358, e358, hx358_0, hx358_1, hx358_2⟩ := at_T79 HR0.out x3_1 p358 q358
          cases e358
          replace p358 := eq_true p358
          replace q358 := eq_true q358
          go_wp2_with (first | (go_at_call 79; (with_reducible refine (wigeonref01_isSeries.calls k1 ((rd_T79 l0 x3_1).f0) true _ A5.out).mono ?_); rintro e w' ⟨rfl, ⟨nd, rfl⟩⟩; (try first | exact ⟨rfl, _, World.drewN_drewN _ _ _⟩ | exact ⟨rfl, _, Eq.trans (World.drewN_drewN _ _ _) (congrArg (World.drewN _) (Nat.add_assoc _ _ _))⟩); have p360 : 0 ≤ (x3_1 : Int) := of_decide_eq_true (by first | (with_reducible assumption) | assumption); have q360 : x3_1 < (l0.length : Int) := of_decide_eq_true (by first | (with_reducible assumption) | assumption); obtain ⟨ad360, e360, hx360_0, hx360_1, hx360_2⟩ := at_T79 HR0.out x3_1 p360 q360; obtain rfl : ad358 = ad360 := (by injection e360); replace p360 := eq_true p360; replace q360 := eq_true q360; have p361 : 0 ≤ (x3_1 : Int) := of_decide_eq_true (by first | (with_reducible assumption) | assumption); have q361 : x3_1 < (l0.length : Int) := of_decide_eq_true (by first | (with_reducible assumption) | assumption); obtain ⟨ad361, e361, hx361_0, hx361_1, hx361_2⟩ := at_T79 HR0.out x3_1 p361 q361; obtain rfl : ad358 = ad361 := (by injection e361); replace p361 := eq_true p361; replace q361 := eq_true q361; have p362 : 0 ≤ (x3_1 : Int) := of_decide_eq_true (by first | (with_reducible assumption) | assumption); have q362 : x3_1 < (l0.length : Int) := of_decide_eq_true (by first | (with_reducible assumption) | assumption); obtain ⟨ad362, e362, hx362_0, hx362_1, hx362_2⟩ := at_T79 HR0.out x3_1 p362 q362; obtain rfl : ad358 = ad362 := (by injection e362); replace p362 := eq_true p362; replace q362 := eq_true q362; have p363 : 0 ≤ (x3_1 : Int) := of_decide_eq_true (by first | (with_reducible assumption) | assumption); have q363 : x3_1 < (l0.length : Int) := of_decide_eq_true (by first | (with_reducible assumption) | assumption); obtain ⟨ad363, e363, hx363_0, hx363_1, hx363_2⟩ := at_T79 HR0.out x3_1 p363 q363; obtain rfl : ad358 = ad363 := (by injection e363); replace p363 := eq_true p363; replace q363 := eq_true q363))
          repeat (go_quiet (first | (go_at_call 79; (with_reducible refine (wigeonref01_isSeries.calls k1 ((rd_T79 l0 x3_1).f0) true _ A5.out).mono ?_); rintro e w' ⟨rfl, ⟨nd, rfl⟩⟩; (try first | exact ⟨rfl, _, World.drewN_drewN _ _ _⟩ | exact ⟨rfl, _, Eq.trans (World.drewN_drewN _ _ _) (congrArg (World.drewN _) (Nat.add_assoc _ _ _))⟩); have p360 : 0 ≤ (x3_1 : Int) := of_decide_eq_true (by first | (with_reducible assumption) | assumption); have q360 : x3_1 < (l0.length : Int) := of_decide_eq_true (by first | (with_reducible assumption) | assumption); obtain ⟨ad360, e360, hx360_0, hx360_1, hx360_2⟩ := at_T79 HR0.out x3_1 p360 q360; obtain rfl : ad358 = ad360 := (by injection e360); replace p360 := eq_true p360; replace q360 := eq_true q360; have p361 : 0 ≤ (x3_1 : Int) := of_decide_eq_true (by first | (with_reducible assumption) | assumption); have q361 : x3_1 < (l0.length : Int) := of_decide_eq_true (by first | (with_reducible assumption) | assumption); obtain ⟨ad361, e361, hx361_0, hx361_1, hx361_2⟩ := at_T79 HR0.out x3_1 p361 q361; obtain rfl : ad358 = ad361 := (by injection e361); replace p361 := eq_true p361; replace q361 := eq_true q361; have p362 : 0 ≤ (x3_1 : Int) := of_decide_eq_true (by first | (with_reducible assumption) | assumption); have q362 : x3_1 < (l0.length : Int) := of_decide_eq_true (by first | (with_reducible assumption) | assumption); obtain ⟨ad362, e362, hx362_0, hx362_1, hx362_2⟩ := at_T79 HR0.out x3_1 p362 q362; obtain rfl : ad358 = ad362 := (by injection e362); replace p362 := eq_true p362; replace q362 := eq_true q362; have p363 : 0 ≤ (x3_1 : Int) := of_decide_eq_true (by first | (with_reducible assumption) | assumption); have q363 : x3_1 < (l0.length : Int) := of_decide_eq_true (by first | (with_reducible assumption) | assumption); obtain ⟨ad363, e363, hx363_0, hx363_1, hx363_2⟩ := at_T79 HR0.out x3_1 p363 q363; obtain rfl : ad358 = ad363 := (by injection e363); replace p363 := eq_true p363; replace q363 := eq_true q363)); try go_wp2_with (first | (go_at_call 79; (with_reducible refine (wigeonref01_isSeries.calls k1 ((rd_T79 l0 x3_1).f0) true _ A5.out).mono ?_); rintro e w' ⟨rfl, ⟨nd, rfl⟩⟩; (try first | exact ⟨rfl, _, World.drewN_drewN _ _ _⟩ | exact ⟨rfl, _, Eq.trans (World.drewN_drewN _ _ _) (congrArg (World.drewN _) (Nat.add_assoc _ _ _))⟩); have p360 : 0 ≤ (x3_1 : Int) := of_decide_eq_true (by first | (with_reducible assumption) | assumption); have q360 : x3_1 < (l0.length : Int) := of_decide_eq_true (by first | (with_reducible assumption) | assumption); obtain ⟨ad360, e360, hx360_0, hx360_1, hx360_2⟩ := at_T79 HR0.out x3_1 p360 q360; obtain rfl : ad358 = ad360 := (by injection e360); replace p360 := eq_true p360; replace q360 := eq_true q360; have p361 : 0 ≤ (x3_1 : Int) := of_decide_eq_true (by first | (with_reducible assumption) | assumption); have q361 : x3_1 < (l0.length : Int) := of_decide_eq_true (by first | (with_reducible assumption) | assumption); obtain ⟨ad361, e361, hx361_0, hx361_1, hx361_2⟩ := at_T79 HR0.out x3_1 p361 q361; obtain rfl : ad358 = ad361 := (by injection e361); replace p361 := eq_true p361; replace q361 := eq_true q361; have p362 : 0 ≤ (x3_1 : Int) := of_decide_eq_true (by first | (with_reducible assumption) | assumption); have q362 : x3_1 < (l0.length : Int) := of_decide_eq_true (by first | (with_reducible assumption) | assumption); obtain ⟨ad362, e362, hx362_0, hx362_1, hx362_2⟩ := at_T79 HR0.out x3_1 p362 q362; obtain rfl : ad358 = ad362 := (by injection e362); replace p362 := eq_true p362; replace q362 := eq_true q362; have p363 : 0 ≤ (x3_1 : Int) := of_decide_eq_true (by first | (with_reducible assumption) | assumption); have q363 : x3_1 < (l0.length : Int) := of_decide_eq_true (by first | (with_reducible assumption) | assumption); obtain ⟨ad363, e363, hx363_0, hx363_1, hx363_2⟩ := at_T79 HR0.out x3_1 p363 q363; obtain rfl : ad358 = ad363 := (by injection e363); replace p363 := eq_true p363; replace q363 := eq_true q363)))
          go_ret
          exact ⟨by first | rfl | (simp; done) | (simp [*]; done), by repeat (first | exact Drawn0.refl _ | apply Drawn0.step)⟩
         ·rw [if_neg c9] at H
          have c9b0 : decide (99999 < ((rd_T79 l0 x3_1).f2)) = false := decide_eq_false c9
          clear c9
          have H' := Aside0.mk H
          clear H
          have p358 : 0 ≤ (x3_1 : Int) := of_decide_eq_true (by first | (with_reducible assumption) | assumption)
          have q358 : x3_1 < (l0.length : Int) := of_decide_eq_true (by first | (with_reducible assumption) | assumption)
          obtain ⟨ad358, e358, hx358_0, hx358_1, hx358_2⟩ := at_T79 HR0.out x3_1 p358 q358
          cases e358
          replace p358 := eq_true p358
          replace q358 := eq_true q358
          go_wp2_with (first | (go_at_call 79; (with_reducible refine (wigeonref01_isSeries.calls k1 ((rd_T79 l0 x3_1).f0) true _ A5.out).mono ?_); rintro e w' ⟨rfl, ⟨nd, rfl⟩⟩; (try first | exact ⟨rfl, _, World.drewN_drewN _ _ _⟩ | exact ⟨rfl, _, Eq.trans (World.drewN_drewN _ _ _) (congrArg (World.drewN _) (Nat.add_assoc _ _ _))⟩); have p360 : 0 ≤ (x3_1 : Int) := of_decide_eq_true (by first | (with_reducible assumption) | assumption); have q360 : x3_1 < (l0.length : Int) := of_decide_eq_true (by first | (with_reducible assumption) | assumption); obtain ⟨ad360, e360, hx360_0, hx360_1, hx360_2⟩ := at_T79 HR0.out x3_1 p360 q360; obtain rfl : ad358 = ad360 := (by injection e360); replace p360 := eq_true p360; replace q360 := eq_true q360; have p361 : 0 ≤ (x3_1 : Int) := of_decide_eq_true (by first | (with_reducible assumption) | assumption); have q361 : x3_1 < (l0.length : Int) := of_decide_eq_true (by first | (with_reducible assumption) | assumption); obtain ⟨ad361, e361, hx361_0, hx361_1, hx361_2⟩ := at_T79 HR0.out x3_1 p361 q361; obtain rfl : ad358 = ad361 := (by injection e361); replace p361 := eq_true p361; replace q361 := eq_true q361; have p362 : 0 ≤ (x3_1 : Int) := of_decide_eq_true (by first | (with_reducible assumption) | assumption); have q362 : x3_1 < (l0.length : Int) := of_decide_eq_true (by first | (with_reducible assumption) | assumption); obtain ⟨ad362, e362, hx362_0, hx362_1, hx362_2⟩ := at_T79 HR0.out x3_1 p362 q362; obtain rfl : ad358 = ad362 := (by injection e362); replace p362 := eq_true p362; replace q362 := eq_true q362; have p363 : 0 ≤ (x3_1 : Int) := of_decide_eq_true (by first | (with_reducible assumption) | assumption); have q363 : x3_1 < (l0.length : Int) := of_decide_eq_true (by first | (with_reducible assumption) | assumption); obtain ⟨ad363, e363, hx363_0, hx363_1, hx363_2⟩ := at_T79 HR0.out x3_1 p363 q363; obtain rfl : ad358 = ad363 := (by injection e363); replace p363 := eq_true p363; replace q363 := eq_true q363))
          repeat (go_quiet (first | (go_at_call 79; (with_reducible refine (wigeonref01_isSeries.calls k1 ((rd_T79 l0 x3_1).f0) true _ A5.out).mono ?_); rintro e w' ⟨rfl, ⟨nd, rfl⟩⟩; (try first | exact ⟨rfl, _, World.drewN_drewN _ _ _⟩ | exact ⟨rfl, _, Eq.trans (World.drewN_drewN _ _ _) (congrArg (World.drewN _) (Nat.add_assoc _ _ _))⟩); have p360 : 0 ≤ (x3_1 : Int) := of_decide_eq_true (by first | (with_reducible assumption) | assumption); have q360 : x3_1 < (l0.length : Int) := of_decide_eq_true (by first | (with_reducible assumption) | assumption); obtain ⟨ad360, e360, hx360_0, hx360_1, hx360_2⟩ := at_T79 HR0.out x3_1 p360 q360; obtain rfl : ad358 = ad360 := (by injection e360); replace p360 := eq_true p360; replace q360 := eq_true q360; have p361 : 0 ≤ (x3_1 : Int) := of_decide_eq_true (by first | (with_reducible assumption) | assumption); have q361 : x3_1 < (l0.length : Int) := of_decide_eq_true (by first | (with_reducible assumption) | assumption); obtain ⟨ad361, e361, hx361_0, hx361_1, hx361_2⟩ := at_T79 HR0.out x3_1 p361 q361; obtain rfl : ad358 = ad361 := (by injection e361); replace p361 := eq_true p361; replace q361 := eq_true q361; have p362 : 0 ≤ (x3_1 : Int) := of_decide_eq_true (by first | (with_reducible assumption) | assumption); have q362 : x3_1 < (l0.length : Int) := of_decide_eq_true (by first | (with_reducible assumption) | assumption); obtain ⟨ad362, e362, hx362_0, hx362_1, hx362_2⟩ := at_T79 HR0.out x3_1 p362 q362; obtain rfl : ad358 = ad362 := (by injection e362); replace p362 := eq_true p362; replace q362 := eq_true q362; have p363 : 0 ≤ (x3_1 : Int) := of_decide_eq_true (by first | (with_reducible assumption) | assumption); have q363 : x3_1 < (l0.length : Int) := of_decide_eq_true (by first | (with_reducible assumption) | assumption); obtain ⟨ad363, e363, hx363_0, hx363_1, hx363_2⟩ := at_T79 HR0.out x3_1 p363 q363; obtain rfl : ad358 = ad363 := (by injection e363); replace p363 := eq_true p363; replace q363 := eq_true q363)); try go_wp2_with (first | (go_at_call 79; (with_reducible refine (wigeonref01_isSeries.calls k1 ((rd_T79 l0 x3_1).f0) true _ A5.out).mono ?_); rintro e w' ⟨rfl, ⟨nd, rfl⟩⟩; (try first | exact ⟨rfl, _, World.drewN_drewN _ _ _⟩ | exact ⟨rfl, _, Eq.trans (World.drewN_drewN _ _ _) (congrArg (World.drewN _) (Nat.add_assoc _ _ _))⟩); have p360 : 0 ≤ (x3_1 : Int) := of_decide_eq_true (by first | (with_reducible assumption) | assumption); have q360 : x3_1 < (l0.length : Int) := of_decide_eq_true (by first | (with_reducible assumption) | assumption); obtain ⟨ad360, e360, hx360_0, hx360_1, hx360_2⟩ := at_T79 HR0.out x3_1 p360 q360; obtain rfl : ad358 = ad360 := (by injection e360); replace p360 := eq_true p360; replace q360 := eq_true q360; have p361 : 0 ≤ (x3_1 : Int) := of_decide_eq_true (by first | (with_reducible assumption) | assumption); have q361 : x3_1 < (l0.length : Int) := of_decide_eq_true (by first | (with_reducible assumption) | assumption); obtain ⟨ad361, e361, hx361_0, hx361_1, hx361_2⟩ := at_T79 HR0.out x3_1 p361 q361; obtain rfl : ad358 = ad361 := (by injection e361); replace p361 := eq_true p361; replace q361 := eq_true q361; have p362 : 0 ≤ (x3_1 : Int) := of_decide_eq_true (by first | (with_reducible assumption) | assumption); have q362 : x3_1 < (l0.length : Int) := of_decide_eq_true (by first | (with_reducible assumption) | assumption); obtain ⟨ad362, e362, hx362_0, hx362_1, hx362_2⟩ := at_T79 HR0.out x3_1 p362 q362; obtain rfl : ad358 = ad362 := (by injection e362); replace p362 := eq_true p362; replace q362 := eq_true q362; have p363 : 0 ≤ (x3_1 : Int) := of_decide_eq_true (by first | (with_reducible assumption) | assumption); have q363 : x3_1 < (l0.length : Int) := of_decide_eq_true (by first | (with_reducible assumption) | assumption); obtain ⟨ad363, e363, hx363_0, hx363_1, hx363_2⟩ := at_T79 HR0.out x3_1 p363 q363; obtain rfl : ad358 = ad363 := (by injection e363); replace p363 := eq_true p363; replace q363 := eq_true q363)))
          go_roundg k1
          case measure => have := HK1.out; omega
          case rel => exact ⟨(wrap64 (x3_1 + 1)), (by first | rfl | (simp; done) | (simp [*]; done)), H', ⟨by have := HK1.out; omega⟩, by repeat (first | exact Drawn0.refl _ | apply Drawn0.step)⟩
      ·replace c6 := Bool.eq_false_iff.mpr c6
       subst c6
       have H1 : (some 2) = some r := by rw [if_neg (show ¬ (false = true) by decide)] at H; exact H
       clear H
       have H := H1
       clear H1
       obtain rfl := Option.some.inj H
       have p358 : 0 ≤ (x3_1 : Int) := of_decide_eq_true (by first | (with_reducible assumption) | assumption)
       have q358 : x3_1 < (l0.length : Int) := of_decide_eq_true (by first | (with_reducible assumption) | assumption)
       obtain ⟨ad358, e358, hx358_0, hx358_1, hx358_2⟩ := at_T79 HR0.out x3_1 p358 q358
       cases e358
       replace p358 := eq_true p358
       replace q358 := eq_true q358
       go_wp2_with (first | (go_at_call 79; (with_reducible refine (wigeonref01_isSeries.calls k1 ((rd_T79 l0 x3_1).f0) false _ A5.out).mono ?_); rintro e w' ⟨rfl, ⟨nd, rfl⟩⟩; (try first | exact ⟨rfl, _, World.drewN_drewN _ _ _⟩ | exact ⟨rfl, _, Eq.trans (World.drewN_drewN _ _ _) (congrArg (World.drewN _) (Nat.add_assoc _ _ _))⟩)))
       repeat (go_quiet (first | (go_at_call 79; (with_reducible refine (wigeonref01_isSeries.calls k1 ((rd_T79 l0 x3_1).f0) false _ A5.out).mono ?_); rintro e w' ⟨rfl, ⟨nd, rfl⟩⟩; (try first | exact ⟨rfl, _, World.drewN_drewN _ _ _⟩ | exact ⟨rfl, _, Eq.trans (World.drewN_drewN _ _ _) (congrArg (World.drewN _) (Nat.add_assoc _ _ _))⟩))); try go_wp2_with (first | (go_at_call 79; (with_reducible refine (wigeonref01_isSeries.calls k1 ((rd_T79 l0 x3_1).f0) false _ A5.out).mono ?_); rintro e w' ⟨rfl, ⟨nd, rfl⟩⟩; (try first | exact ⟨rfl, _, World.drewN_drewN _ _ _⟩ | exact ⟨rfl, _, Eq.trans (World.drewN_drewN _ _ _) (congrArg (World.drewN _) (Nat.add_assoc _ _ _))⟩))))
       go_ret
       exact ⟨by first | rfl | (simp; done) | (simp [*]; done), by repeat (first | exact Drawn0.refl _ | apply Drawn0.step)⟩
     ·rw [if_neg c4] at H
      exact absurd H (by simp)
    ·rw [if_neg c3] at H
     have c3b0 : decide (x3_1 < (l0.length : Int)) = false := decide_eq_false c3
     clear c3
     have H' := Aside0.mk H
     clear H
     go_wp2
     repeat (go_quiet (fail); try go_wp2)
     go_loopg [4] k1 (fun kq v4 w' => ∃ (x4_2 : Int), v4 = .int .i64 x4_2 ∧ Aside0 (wigeonref01_ValidateBlocks.l1 kq l0 x4_2 = some r) ∧ Aside0 (kq ≤ k1) ∧ Drawn0 w w')
     case atStart => exact ⟨(0), (by first | rfl | (simp; done) | (simp [*]; done)), H', ⟨Nat.le_refl _⟩, by repeat (first | exact Drawn0.refl _ | apply Drawn0.step)⟩
     case round =>
      clear H'
      try clear c2
      try clear c2b0
      try clear c2b1
      try clear p2
      try clear c3
      try clear c3b0
      try clear p3
      try clear q3
      try clear hx3
      try clear c4
      try clear c4b0
      try clear c6
      try clear p6
      try clear c7
      try clear c7b0
      try clear c8
      try clear c8b0
      try clear c9
      try clear c9b0
      try clear hx358_0
      try clear hx358_1
      try clear hx358_2
      try clear hx360_0
      try clear hx360_1
      try clear hx360_2
      try clear hx361_0
      try clear hx361_1
      try clear hx361_2
      try clear hx362_0
      try clear hx362_1
      try clear hx362_2
      try clear hx363_0
      try clear hx363_1
      try clear hx363_2
      try clear p2
      try clear p358
      try clear p360
      try clear p361
      try clear p362
      try clear p363
      try clear q358
      try clear q360
      try clear q361
      try clear q362
      try clear q363
      obtain ⟨x4_2, rfl, HA, HK2, ⟨m2, rfl⟩⟩ := hrel
      cases gk with
      | zero => exact absurd HA.out (by simp [wigeonref01_ValidateBlocks.l1])
      | succ k2 =>
       have H := HA.out
       clear HA
       simp only [wigeonref01_ValidateBlocks.l1] at H
       by_cases c10 : x4_2 < (l0.length : Int)
       ·rw [if_pos c10] at H
        have c10b0 : decide (x4_2 < (l0.length : Int)) = true := decide_eq_true c10
        clear c10
        have H' := Aside0.mk H
        clear H
        go_wp2
        repeat (go_quiet (fail); try go_wp2)
        go_loopg [5] k2 (fun kq v5 w' => ∃ (x5_3 : Int), v5 = .int .i64 x5_3 ∧ Aside0 (wigeonref01_ValidateBlocks.l2 kq l0 x4_2 x5_3 = some r) ∧ Aside0 (kq ≤ k2) ∧ Drawn0 w w')
        case atStart => exact ⟨(0), (by first | rfl | (simp; done) | (simp [*]; done)), H', ⟨Nat.le_refl _⟩, by repeat (first | exact Drawn0.refl _ | apply Drawn0.step)⟩
        case round =>
         clear H'
         try clear c1
         try clear c2
         try clear c2b0
         try clear c2b1
         try clear p2
         try clear c3
         try clear c3b0
         try clear p3
         try clear q3
         try clear hx3
         try clear c4
         try clear c4b0
         try clear c6
         try clear p6
         try clear c7
         try clear c7b0
         try clear c8
         try clear c8b0
         try clear c9
         try clear c9b0
         try clear c10
         try clear c10b0
         try clear hx358_0
         try clear hx358_1
         try clear hx358_2
         try clear hx360_0
         try clear hx360_1
         try clear hx360_2
         try clear hx361_0
         try clear hx361_1
         try clear hx361_2
         try clear hx362_0
         try clear hx362_1
         try clear hx362_2
         try clear hx363_0
         try clear hx363_1
         try clear hx363_2
         try clear p2
         try clear p3
         try clear p358
         try clear p360
         try clear p361
         try clear p362
         try clear p363
         try clear p6
         try clear q3
         try clear q358
         try clear q360
         try clear q361
         try clear q362
         try clear q363
         obtain ⟨x5_3, rfl, HA, HK3, ⟨m3, rfl⟩⟩ := hrel
         cases gk with
         | zero => exact absurd HA.out (by simp [wigeonref01_ValidateBlocks.l2])
         | succ k3 =>
          have H := HA.out
          clear HA
          simp only [wigeonref01_ValidateBlocks.l2] at H
          by_cases c11 : x5_3 < x4_2
          ·rw [if_pos c11] at H
           have c11b0 : decide (x5_3 < x4_2) = true := decide_eq_true c11
           clear c11
           by_cases c12 : 0 ≤ x4_2
           ·rw [if_pos c12] at H
            have c12b0 : decide (0 ≤ x4_2) = true := decide_eq_true c12
            clear c12
            by_cases c13 : x4_2 < (l0.length : Int)
            ·rw [if_pos c13] at H
             have c13b0 : decide (x4_2 < (l0.length : Int)) = true := decide_eq_true c13
             clear c13
             by_cases c14 : 0 ≤ x5_3
             ·rw [if_pos c14] at H
              have c14b0 : decide (0 ≤ x5_3) = true := decide_eq_true c14
              clear c14
              by_cases c15 : x5_3 < (l0.length : Int)
              ·rw [if_pos c15] at H
               have c15b0 : decide (x5_3 < (l0.length : Int)) = true := decide_eq_true c15
               clear c15
               by_cases c16 : ((rd_T79 l0 x4_2).f0).toList = ((rd_T79 l0 x5_3).f0).toList
               ·rw [if_pos c16] at H
                have c16b0 : (((rd_T79 l0 x4_2).f0).toList == ((rd_T79 l0 x5_3).f0).toList) = true := beq_iff_eq.mpr c16
                have c16b1 : (((rd_T79 l0 x4_2).f0).toList != ((rd_T79 l0 x5_3).f0).toList) = false := bne_eq_false_iff_eq.mpr c16
                clear c16
                by_cases c17 : ((rd_T79 l0 x4_2).f1) ≤ ((rd_T79 l0 x5_3).f2)
                ·rw [if_pos c17] at H
                 have c17b0 : decide (((rd_T79 l0 x4_2).f1) ≤ ((rd_T79 l0 x5_3).f2)) = true := decide_eq_true c17
                 clear c17
                 by_cases c18 : ((rd_T79 l0 x5_3).f1) ≤ ((rd_T79 l0 x4_2).f2)
                 ·rw [if_pos c18] at H
                  have c18b0 : decide (((rd_T79 l0 x5_3).f1) ≤ ((rd_T79 l0 x4_2).f2)) = true := decide_eq_true c18
                  clear c18
                  obtain rfl := Option.some.inj H
                  have p364 : 0 ≤ (x4_2 : Int) := of_decide_eq_true (by first | (with_reducible assumption) | assumption)
                  have q364 : x4_2 < (l0.length : Int) := of_decide_eq_true (by first | (with_reducible assumption) | assumption)
                  obtain ⟨ad364, e364, hx364_0, hx364_1, hx364_2⟩ := at_T79 HR0.out x4_2 p364 q364
                  cases e364
                  replace p364 := eq_true p364
                  replace q364 := eq_true q364
                  have p365 : 0 ≤ (x5_3 : Int) := of_decide_eq_true (by first | (with_reducible assumption) | assumption)
                  have q365 : x5_3 < (l0.length : Int) := of_decide_eq_true (by first | (with_reducible assumption) | assumption)
                  obtain ⟨ad365, e365, hx365_0, hx365_1, hx365_2⟩ := at_T79 HR0.out x5_3 p365 q365
                  obtain rfl : ad364 = ad365 := (by injection e365)
                  replace p365 := eq_true p365
                  replace q365 := eq_true q365
                  have p366 : 0 ≤ (x4_2 : Int) := of_decide_eq_true (by first | (with_reducible assumption) | assumption)
                  have q366 : x4_2 < (l0.length : Int) := of_decide_eq_true (by first | (with_reducible assumption) | assumption)
                  obtain ⟨ad366, e366, hx366_0, hx366_1, hx366_2⟩ := at_T79 HR0.out x4_2 p366 q366
                  obtain rfl : ad364 = ad366 := (by injection e366)
                  replace p366 := eq_true p366
                  replace q366 := eq_true q366
                  have p367 : 0 ≤ (x5_3 : Int) := of_decide_eq_true (by first | (with_reducible assumption) | assumption)
                  have q367 : x5_3 < (l0.length : Int) := of_decide_eq_true (by first | (with_reducible assumption) | assumption)
                  obtain ⟨ad367, e367, hx367_0, hx367_1, hx367_2⟩ := at_T79 HR0.out x5_3 p367 q367
                  obtain rfl : ad364 = ad367 := (by injection e367)
                  replace p367 := eq_true p367
                  replace q367 := eq_true q367
                  have p368 : 0 ≤ (x5_3 : Int) := of_decide_eq_true (by first | (with_reducible assumption) | assumption)
                  have q368 : x5_3 < (l0.length : Int) := of_decide_eq_true (by first | (with_reducible assumption) | assumption)
                  obtain ⟨ad368, e368, hx368_0, hx368_1, hx368_2⟩ := at_T79 HR0.out x5_3 p368 q368
                  obtain rfl : ad364 = ad368 := (by injection e368)
                  replace p368 := eq_true p368
                  replace q368 := eq_true q368
                  have p369 : 0 ≤ (x4_2 : Int) := of_decide_eq_true (by first | (with_reducible assumption) | assumption)
                  have q369 : x4_2 < (l0.length : Int) := of_decide_eq_true (by first | (with_reducible assumption) | assumption)
                  obtain ⟨ad369, e369, hx369_0, hx369_1, hx369_2⟩ := at_T79 HR0.out x4_2 p369 q369
                  obtain rfl : ad364 = ad369 := (by injection e369)
                  replace p369 := eq_true p369
                  replace q369 := eq_true q369
                  go_wp2
                  repeat (go_quiet (fail); try go_wp2)
                  go_ret
                  exact ⟨by first | rfl | (simp; done) | (simp [*]; done), by repeat (first | exact Drawn0.refl _ | apply Drawn0.step)⟩
                 ·rw [if_neg c18] at H
                  have c18b0 : decide (((rd_T79 l0 x5_3).f1) ≤ ((rd_T79 l0 x4_2).f2)) = false := decide_eq_false c18
                  clear c18
                  have H' := Aside0.mk H
                  clear H
                  have p364 : 0 ≤ (x4_2 : Int) := of_decide_eq_true (by first | (with_reducible assumption) | assumption)
                  have q364 : x4_2 < (l0.length : Int) := of_decide_eq_true (by first | (with_reducible assumption) | assumption)
                  obtain ⟨ad364, e364, hx364_0, hx364_1, hx364_2⟩ := at_T79 HR0.out x4_2 p364 q364
                  cases e364
                  replace p364 := eq_true p364
                  replace q364 := eq_true q364
                  have p365 : 0 ≤ (x5_3 : Int) := of_decide_eq_true (by first | (with_reducible assumption) | assumption)
                  have q365 : x5_3 < (l0.length : Int) := of_decide_eq_true (by first | (with_reducible assumption) | assumption)
                  obtain ⟨ad365, e365, hx365_0, hx365_1, hx365_2⟩ := at_T79 HR0.out x5_3 p365 q365
                  obtain rfl : ad364 = ad365 := (by injection e365)
                  replace p365 := eq_true p365
                  replace q365 := eq_true q365
                  have p366 : 0 ≤ (x4_2 : Int) := of_decide_eq_true (by first | (with_reducible assumption) | assumption)
                  have q366 : x4_2 < (l0.length : Int) := of_decide_eq_true (by first | (with_reducible assumption) | assumption)
                  obtain ⟨ad366, e366, hx366_0, hx366_1, hx366_2⟩ := at_T79 HR0.out x4_2 p366 q366
                  obtain rfl : ad364 = ad366 := (by injection e366)
                  replace p366 := eq_true p366
                  replace q366 := eq_true q366
                  have p367 : 0 ≤ (x5_3 : Int) := of_decide_eq_true (by first | (with_reducible assumption) | assumption)
                  have q367 : x5_3 < (l0.length : Int) := of_decide_eq_true (by first | (with_reducible assumption) | assumption)
                  obtain ⟨ad367, e367, hx367_0, hx367_1, hx367_2⟩ := at_T79 HR0.out x5_3 p367 q367
                  obtain rfl : ad364 = ad367 := (by injection e367)
                  replace p367 := eq_true p367
                  replace q367 := eq_true q367
                  have p368 : 0 ≤ (x5_3 : Int) := of_decide_eq_true (by first | (with_reducible assumption) | assumption)
                  have q368 : x5_3 < (l0.length : Int) := of_decide_eq_true (by first | (with_reducible assumption) | assumption)
                  obtain ⟨ad368, e368, hx368_0, hx368_1, hx368_2⟩ := at_T79 HR0.out x5_3 p368 q368
                  obtain rfl : ad364 = ad368 := (by injection e368)
                  replace p368 := eq_true p368
                  replace q368 := eq_true q368
                  have p369 : 0 ≤ (x4_2 : Int) := of_decide_eq_true (by first | (with_reducible assumption) | assumption)
                  have q369 : x4_2 < (l0.length : Int) := of_decide_eq_true (by first | (with_reducible assumption) | assumption)
                  obtain ⟨ad369, e369, hx369_0, hx369_1, hx369_2⟩ := at_T79 HR0.out x4_2 p369 q369
                  obtain rfl : ad364 = ad369 := (by injection e369)
                  replace p369 := eq_true p369
                  replace q369 := eq_true q369
                  go_wp2
                  repeat (go_quiet (fail); try go_wp2)
                  go_roundg k3
                  case measure => have := HK1.out; have := HK2.out; have := HK3.out; omega
                  case rel => exact ⟨(wrap64 (x5_3 + 1)), (by first | rfl | (simp; done) | (simp [*]; done)), H', ⟨by have := HK1.out; have := HK2.out; have := HK3.out; omega⟩, by repeat (first | exact Drawn0.refl _ | apply Drawn0.step)⟩
                ·rw [if_neg c17] at H
                 have c17b0 : decide (((rd_T79 l0 x4_2).f1) ≤ ((rd_T79 l0 x5_3).f2)) = false := decide_eq_false c17
                 clear c17
                 have H' := Aside0.mk H
                 clear H
                 have p364 : 0 ≤ (x4_2 : Int) := of_decide_eq_true (by first | (with_reducible assumption) | assumption)
                 have q364 : x4_2 < (l0.length : Int) := of_decide_eq_true (by first | (with_reducible assumption) | assumption)
                 obtain ⟨ad364, e364, hx364_0, hx364_1, hx364_2⟩ := at_T79 HR0.out x4_2 p364 q364
                 cases e364
                 replace p364 := eq_true p364
                 replace q364 := eq_true q364
                 have p365 : 0 ≤ (x5_3 : Int) := of_decide_eq_true (by first | (with_reducible assumption) | assumption)
                 have q365 : x5_3 < (l0.length : Int) := of_decide_eq_true (by first | (with_reducible assumption) | assumption)
                 obtain ⟨ad365, e365, hx365_0, hx365_1, hx365_2⟩ := at_T79 HR0.out x5_3 p365 q365
                 obtain rfl : ad364 = ad365 := (by injection e365)
                 replace p365 := eq_true p365
                 replace q365 := eq_true q365
                 have p366 : 0 ≤ (x4_2 : Int) := of_decide_eq_true (by first | (with_reducible assumption) | assumption)
                 have q366 : x4_2 < (l0.length : Int) := of_decide_eq_true (by first | (with_reducible assumption) | assumption)
                 obtain ⟨ad366, e366, hx366_0, hx366_1, hx366_2⟩ := at_T79 HR0.out x4_2 p366 q366
                 obtain rfl : ad364 = ad366 := (by injection e366)
                 replace p366 := eq_true p366
                 replace q366 := eq_true q366
                 have p367 : 0 ≤ (x5_3 : Int) := of_decide_eq_true (by first | (with_reducible assumption) | assumption)
                 have q367 : x5_3 < (l0.length : Int) := of_decide_eq_true (by first | (with_reducible assumption) | assumption)
                 obtain ⟨ad367, e367, hx367_0, hx367_1, hx367_2⟩ := at_T79 HR0.out x5_3 p367 q367
                 obtain rfl : ad364 = ad367 := (by injection e367)
                 replace p367 := eq_true p367
                 replace q367 := eq_true q367
                 go_wp2
                 repeat (go_quiet (fail); try go_wp2)
                 go_roundg k3
                 case measure => have := HK1.out; have := HK2.out; have := HK3.out; omega
                 case rel => exact ⟨(wrap64 (x5_3 + 1)), (by first | rfl | (simp; done) | (simp [*]; done)), H', ⟨by have := HK1.out; have := HK2.out; have := HK3.out; omega⟩, by repeat (first | exact Drawn0.refl _ | apply Drawn0.step)⟩
               ·rw [if_neg c16] at H
                have c16b0 : (((rd_T79 l0 x4_2).f0).toList == ((rd_T79 l0 x5_3).f0).toList) = false := beq_eq_false_iff_ne.mpr c16
                have c16b1 : (((rd_T79 l0 x4_2).f0).toList != ((rd_T79 l0 x5_3).f0).toList) = true := bne_iff_ne.mpr c16
                have H' := Aside0.mk H
                clear H
                have p364 : 0 ≤ (x4_2 : Int) := of_decide_eq_true (by first | (with_reducible assumption) | assumption)
                have q364 : x4_2 < (l0.length : Int) := of_decide_eq_true (by first | (with_reducible assumption) | assumption)
                obtain ⟨ad364, e364, hx364_0, hx364_1, hx364_2⟩ := at_T79 HR0.out x4_2 p364 q364
                cases e364
                replace p364 := eq_true p364
                replace q364 := eq_true q364
                have p365 : 0 ≤ (x5_3 : Int) := of_decide_eq_true (by first | (with_reducible assumption) | assumption)
                have q365 : x5_3 < (l0.length : Int) := of_decide_eq_true (by first | (with_reducible assumption) | assumption)
                obtain ⟨ad365, e365, hx365_0, hx365_1, hx365_2⟩ := at_T79 HR0.out x5_3 p365 q365
                obtain rfl : ad364 = ad365 := (by injection e365)
                replace p365 := eq_true p365
                replace q365 := eq_true q365
                go_wp2
                repeat (go_quiet (fail); try go_wp2)
                go_roundg k3
                case measure => have := HK1.out; have := HK2.out; have := HK3.out; omega
                case rel => exact ⟨(wrap64 (x5_3 + 1)), (by first | rfl | (simp; done) | (simp [*]; done)), H', ⟨by have := HK1.out; have := HK2.out; have := HK3.out; omega⟩, by repeat (first | exact Drawn0.refl _ | apply Drawn0.step)⟩
              ·rw [if_neg c15] at H
               exact absurd H (by simp)
             ·rw [if_neg c14] at H
              exact absurd H (by simp)
            ·rw [if_neg c13] at H
             exact absurd H (by simp)
           ·rw [if_neg c12] at H
            exact absurd H (by simp)
          ·rw [if_neg c11] at H
           have c11b0 : decide (x5_3 < x4_2) = false := decide_eq_false c11
           clear c11
           have H' := Aside0.mk H
           clear H
           go_wp2
           repeat (go_quiet (fail); try go_wp2)
           go_roundg k3
           case measure => have := HK1.out; have := HK2.out; have := HK3.out; omega
           case rel => exact ⟨(wrap64 (x4_2 + 1)), (by first | rfl | (simp; done) | (simp [*]; done)), H', ⟨by have := HK1.out; have := HK2.out; have := HK3.out; omega⟩, by repeat (first | exact Drawn0.refl _ | apply Drawn0.step)⟩
       ·rw [if_neg c10] at H
        have c10b0 : decide (x4_2 < (l0.length : Int)) = false := decide_eq_false c10
        clear c10
        obtain rfl := Option.some.inj H
        go_wp2
        repeat (go_quiet (fail); try go_wp2)
        go_ret
        exact ⟨by first | rfl | (simp; done) | (simp [*]; done), by repeat (first | exact Drawn0.refl _ | apply Drawn0.step)⟩

end Go.Proofs.Ytlbhighbhchdmaa.Q
