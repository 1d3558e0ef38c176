-- Written by a program of this session (wip/tools/gprint.py, over the kit's print); Lean checks it.
import Derived.Test.YtjphklemnhgkiaaDoorPuA
import Derived.Test.YtjphklemnhgkiaaDoorQx0
import Derived.Test.YtjphklemnhgkiaaDoorQx2
import Derived.Test.YtjphklemnhgkiaaDoorQx9
import Derived.Test.YtjphklemnhgkiaaDoorQx10
import Derived.Test.YtjphklemnhgkiaaDoorQx18
namespace Go.Proofs.YtjphklemnhgkiaaDoor.Q
open Go.RowKit Go.Proofs.YtjphklemnhgkiaaDoorW.PrintWords Go.Proofs.YtjphklemnhgkiaaDoorW.PrintLast Go.Proofs.YtjphklemnhgkiaaDoorW.PrintMore
attribute [local go_sem] max2_int min2_int max_two min_two max_three min_three max_four min_four   -- for this text's walks alone
set_option linter.unusedVariables false
set_option linter.unusedSimpArgs false

/-! ### wigeonlaw08_PurseParts: function 6 -/
mutual
def wigeonlaw08_PurseParts.l0 : Nat → List (S42) → List Int → Int → Option (Bool)
 | 0, _, _, _ => none
 | k + 1, x3, x5, x7 => if x7 < (x3.length : Int) then (wigeonlaw08_PurseParts.l1 k x3 x5 x7 0 0) else ((wigeonlaw08_known.f k).bind fun t512 => (some t512))
def wigeonlaw08_PurseParts.l1 : Nat → List (S42) → List Int → Int → Int → Int → Option (Bool)
 | 0, _, _, _, _, _ => none
 | k + 1, x3, x5, x7, x8, x9 => if x9 < (x5.length : Int) then (wigeonlaw08_PurseParts.l2 k x3 x5 x7 x8 x9 0 0) else (if 0 ≤ x7 then (if x7 < (x3.length : Int) then (if (wrap64 (((rd_T42 x3 x7).f0) * 60)) = (wrap64 (x8 * ((rd_T42 x3 x7).f1))) then (wigeonlaw08_PurseParts.l0 k x3 x5 (wrap64 (x7 + 1))) else (none)) else (none)) else (none))
def wigeonlaw08_PurseParts.l2 : Nat → List (S42) → List Int → Int → Int → Int → Int → Int → Option (Bool)
 | 0, _, _, _, _, _, _, _ => none
 | k + 1, x3, x5, x7, x8, x9, x10, x11 => if x11 < (x3.length : Int) then (if 0 ≤ (IntKind.u64.wrap (x11)) then (wigeonlaw08_PurseParts.l2 k x3 x5 x7 x8 x9 (wrap64 (x10 + (Go.bits .and .i64 (shr .i64 x9 (IntKind.u64.wrap (x11))) 1))) (wrap64 (x11 + 1))) else (none)) else (if 0 ≤ (IntKind.u64.wrap (x7)) then (if (Go.bits .and .i64 (shr .i64 x9 (IntKind.u64.wrap (x7))) 1) = 1 then (if 0 ≤ x9 then (if x9 < (x5.length : Int) then (if x10 = 0 then (none) else (wigeonlaw08_PurseParts.l1 k x3 x5 x7 (wrap64 (x8 + (wrap64 ((rd x5 x9) * (wrap64 ((60 : Int) / x10)))))) (wrap64 (x9 + 1)))) else (none)) else (none)) else (wigeonlaw08_PurseParts.l1 k x3 x5 x7 x8 (wrap64 (x9 + 1)))) else (none))
end
def wigeonlaw08_PurseParts.f (k : Nat) (l0 : List Int) : Option (Bool) := (wigeonlaw08_long.f l0 ([] : List Int)).bind fun t501 => (if t501 = true then ((wigeonlaw08_known.f k).bind fun t502 => (some t502)) else ((purse_Shapley.f k l0).bind fun bt503 => ((purse_Dividends.f k l0).bind fun bt507 => (if bt503.2 = bt507.2 then (if bt503.2 = 0 then (if 0 ≤ (IntKind.u64.wrap ((bt503.1.length : Int))) then (if (bt507.1.length : Int) = (shl .i64 1 (IntKind.u64.wrap ((bt503.1.length : Int)))) then (wigeonlaw08_PurseParts.l0 k bt503.1 bt507.1 0) else (none)) else (none)) else ((wigeonlaw08_known.f k).bind fun t511 => (some t511))) else (none)))))
theorem wigeonlaw08_PurseParts.mono_l : ∀ k, (∀ y0 y1 y2, LeO (wigeonlaw08_PurseParts.l0 k y0 y1 y2) (wigeonlaw08_PurseParts.l0 (k + 1) y0 y1 y2)) ∧ (∀ y0 y1 y2 y3 y4, LeO (wigeonlaw08_PurseParts.l1 k y0 y1 y2 y3 y4) (wigeonlaw08_PurseParts.l1 (k + 1) y0 y1 y2 y3 y4)) ∧ (∀ y0 y1 y2 y3 y4 y5 y6, LeO (wigeonlaw08_PurseParts.l2 k y0 y1 y2 y3 y4 y5 y6) (wigeonlaw08_PurseParts.l2 (k + 1) y0 y1 y2 y3 y4 y5 y6))
 | 0 => ⟨fun _ _ _ r h => by simp [wigeonlaw08_PurseParts.l0] at h, fun _ _ _ _ _ r h => by simp [wigeonlaw08_PurseParts.l1] at h, fun _ _ _ _ _ _ _ r h => by simp [wigeonlaw08_PurseParts.l2] at h⟩
 | k + 1 => by
  obtain ⟨ih0, ih1, ih2⟩ := wigeonlaw08_PurseParts.mono_l k
  refine ⟨?_, ?_, ?_⟩
  ·intro y0 y1 y2
   unfold wigeonlaw08_PurseParts.l0
   repeat' first
   | (with_reducible exact ih0 _ _ _)
   | (with_reducible exact ih1 _ _ _ _ _)
   | (with_reducible exact ih2 _ _ _ _ _ _ _)
   | (with_reducible exact purse_Dividends.mono _ _)
   | (with_reducible exact purse_Shapley.mono _ _)
   | (with_reducible exact wigeonlaw08_known.mono _)
   | (with_reducible exact LeO.refl _)
   | (with_reducible exact LeO.none _)
   | (with_reducible refine LeO.ite ?_ ?_)
   | (with_reducible refine LeO.bind ?_ (fun _ => ?_))
   | exact ih0 _ _ _
   | exact ih1 _ _ _ _ _
   | exact ih2 _ _ _ _ _ _ _
   | exact purse_Dividends.mono _ _
   | exact purse_Shapley.mono _ _
   | exact wigeonlaw08_known.mono _
   | exact LeO.none _
   | refine LeO.ite ?_ ?_
   | refine LeO.bind ?_ (fun _ => ?_)
  ·intro y0 y1 y2 y3 y4
   unfold wigeonlaw08_PurseParts.l1
   repeat' first
   | (with_reducible exact ih0 _ _ _)
   | (with_reducible exact ih1 _ _ _ _ _)
   | (with_reducible exact ih2 _ _ _ _ _ _ _)
   | (with_reducible exact purse_Dividends.mono _ _)
   | (with_reducible exact purse_Shapley.mono _ _)
   | (with_reducible exact wigeonlaw08_known.mono _)
   | (with_reducible exact LeO.refl _)
   | (with_reducible exact LeO.none _)
   | (with_reducible refine LeO.ite ?_ ?_)
   | (with_reducible refine LeO.bind ?_ (fun _ => ?_))
   | exact ih0 _ _ _
   | exact ih1 _ _ _ _ _
   | exact ih2 _ _ _ _ _ _ _
   | exact purse_Dividends.mono _ _
   | exact purse_Shapley.mono _ _
   | exact wigeonlaw08_known.mono _
   | exact LeO.none _
   | refine LeO.ite ?_ ?_
   | refine LeO.bind ?_ (fun _ => ?_)
  ·intro y0 y1 y2 y3 y4 y5 y6
   unfold wigeonlaw08_PurseParts.l2
   repeat' first
   | (with_reducible exact ih0 _ _ _)
   | (with_reducible exact ih1 _ _ _ _ _)
   | (with_reducible exact ih2 _ _ _ _ _ _ _)
   | (with_reducible exact purse_Dividends.mono _ _)
   | (with_reducible exact purse_Shapley.mono _ _)
   | (with_reducible exact wigeonlaw08_known.mono _)
   | (with_reducible exact LeO.refl _)
   | (with_reducible exact LeO.none _)
   | (with_reducible refine LeO.ite ?_ ?_)
   | (with_reducible refine LeO.bind ?_ (fun _ => ?_))
   | exact ih0 _ _ _
   | exact ih1 _ _ _ _ _
   | exact ih2 _ _ _ _ _ _ _
   | exact purse_Dividends.mono _ _
   | exact purse_Shapley.mono _ _
   | exact wigeonlaw08_known.mono _
   | exact LeO.none _
   | refine LeO.ite ?_ ?_
   | refine LeO.bind ?_ (fun _ => ?_)
theorem wigeonlaw08_PurseParts.mono : ∀ a0 k, LeO (wigeonlaw08_PurseParts.f k a0) (wigeonlaw08_PurseParts.f (k + 1) a0) := by
 intro a0 k
 obtain ⟨ih0, ih1, ih2⟩ := wigeonlaw08_PurseParts.mono_l k
 unfold wigeonlaw08_PurseParts.f
 repeat' first
   | (with_reducible exact ih0 _ _ _)
   | (with_reducible exact ih1 _ _ _ _ _)
   | (with_reducible exact ih2 _ _ _ _ _ _ _)
   | (with_reducible exact purse_Dividends.mono _ _)
   | (with_reducible exact purse_Shapley.mono _ _)
   | (with_reducible exact wigeonlaw08_known.mono _)
   | (with_reducible exact LeO.refl _)
   | (with_reducible exact LeO.none _)
   | (with_reducible refine LeO.ite ?_ ?_)
   | (with_reducible refine LeO.bind ?_ (fun _ => ?_))
   | exact ih0 _ _ _
   | exact ih1 _ _ _ _ _
   | exact ih2 _ _ _ _ _ _ _
   | exact purse_Dividends.mono _ _
   | exact purse_Shapley.mono _ _
   | exact wigeonlaw08_known.mono _
   | exact LeO.none _
   | refine LeO.ite ?_ ?_
   | refine LeO.bind ?_ (fun _ => ?_)
set_option maxHeartbeats 8000000 in
set_option maxRecDepth 100000 in
theorem wigeonlaw08_PurseParts.calls (k : Nat) (A0 : Option Addr) (c0 : Nat) (l0 : List Int) (r : Bool) (w : World) (HT : Hid (BitsW w)) (hr0 : Kd.C (Kd.int .i64) w A0 l0.length l0) (hc0 : l0.length ≤ c0) (h : wigeonlaw08_PurseParts.f k l0 = some r) :
  Calls Tryd.prog 6 #[.slice A0 l0.length c0] w fun e w' => e = .returned (.bool r) ∧ Below w.heap.size w w' := by
 have HR0 := Aside0.mk hr0
 have HC0 := Aside0.mk hc0
 clear hr0 hc0
 have HB := Aside0.mk (Below.refl w.heap.size w)
 have H : ((wigeonlaw08_long.f l0 ([] : List Int)).bind fun t501 => (if t501 = true then ((wigeonlaw08_known.f k).bind fun t502 => (some t502)) else ((purse_Shapley.f k l0).bind fun bt503 => ((purse_Dividends.f k l0).bind fun bt507 => (if bt503.2 = bt507.2 then (if bt503.2 = 0 then (if 0 ≤ (IntKind.u64.wrap ((bt503.1.length : Int))) then (if (bt507.1.length : Int) = (shl .i64 1 (IntKind.u64.wrap ((bt503.1.length : Int)))) then (wigeonlaw08_PurseParts.l0 k bt503.1 bt507.1 0) else (none)) else (none)) else ((wigeonlaw08_known.f k).bind fun t511 => (some t511))) else (none)))))) = some r := h
 clear h
 replace H := Option.bind_eq_some_iff.mp H
 obtain ⟨t501, A20, H⟩ := H
 replace H : (if t501 = true then ((wigeonlaw08_known.f k).bind fun t502 => (some t502)) else ((purse_Shapley.f k l0).bind fun bt503 => ((purse_Dividends.f k l0).bind fun bt507 => (if bt503.2 = bt507.2 then (if bt503.2 = 0 then (if 0 ≤ (IntKind.u64.wrap ((bt503.1.length : Int))) then (if (bt507.1.length : Int) = (shl .i64 1 (IntKind.u64.wrap ((bt503.1.length : Int)))) then (wigeonlaw08_PurseParts.l0 k bt503.1 bt507.1 0) else (none)) else (none)) else ((wigeonlaw08_known.f k).bind fun t511 => (some t511))) else (none))))) = some r := H
 have A2 := Aside0.mk A20
 clear A20
 by_cases c3 : t501 = true
 ·subst c3
  have H1 : ((wigeonlaw08_known.f k).bind fun t502 => (some t502)) = some r := by rw [if_pos rfl] at H; exact H
  clear H
  have H := H1
  clear H1
  replace H := Option.bind_eq_some_iff.mp H
  obtain ⟨t502, A40, H⟩ := H
  replace H : (some t502) = some r := H
  have A4 := Aside0.mk A40
  clear A40
  obtain rfl := Option.some.inj H
  go_enter Tryd.func6, Tryd.ntmps6
  go_wp2_with (first | (go_at_call 15; (refine (wigeonlaw08_long.calls _ _ l0 _ _ ([] : List Int) true _ ?side1 ?side2 ?side3 ?side4 A2.out).mono ?_); (case side1 => repeat (first | exact HR0.out | (with_reducible refine Kd.C_alloc ?_ _) | (with_reducible refine Kd.C_drewN ?_ _) | (with_reducible refine Kd.C_drew ?_))); (case side2 => exact HC0.out); (case side3 => exact Kd.C_nil _ _); (case side4 => exact Nat.le_refl _); rintro e w' ⟨rfl, ⟨nd, rfl⟩⟩; (try first | exact ⟨rfl, _, World.drewN_drewN _ _ _⟩ | exact ⟨rfl, _, Eq.trans (World.drewN_drewN _ _ _) (congrArg (World.drewN _) (Nat.add_assoc _ _ _))⟩)) | (go_at_call 16; (with_reducible refine (wigeonlaw08_known.calls k  t502 _ A4.out).mono ?_); rintro e w5 ⟨rfl, hb⟩; have n0_ := Aside0.mk (below_step (by repeat (first | (with_reducible first | exact HB.out | apply below_alloc | apply pw_below_drewN | apply below_drew1) | exact HB.out)) hb); clear HB; have HB := n0_; clear n0_; (try clear hb); (try clear hb2); (try clear hk); (try clear hi)))
  repeat (go_quiet (first | (go_at_call 15; (refine (wigeonlaw08_long.calls _ _ l0 _ _ ([] : List Int) true _ ?side1 ?side2 ?side3 ?side4 A2.out).mono ?_); (case side1 => repeat (first | exact HR0.out | (with_reducible refine Kd.C_alloc ?_ _) | (with_reducible refine Kd.C_drewN ?_ _) | (with_reducible refine Kd.C_drew ?_))); (case side2 => exact HC0.out); (case side3 => exact Kd.C_nil _ _); (case side4 => exact Nat.le_refl _); rintro e w' ⟨rfl, ⟨nd, rfl⟩⟩; (try first | exact ⟨rfl, _, World.drewN_drewN _ _ _⟩ | exact ⟨rfl, _, Eq.trans (World.drewN_drewN _ _ _) (congrArg (World.drewN _) (Nat.add_assoc _ _ _))⟩)) | (go_at_call 16; (with_reducible refine (wigeonlaw08_known.calls k  t502 _ A4.out).mono ?_); rintro e w5 ⟨rfl, hb⟩; have n0_ := Aside0.mk (below_step (by repeat (first | (with_reducible first | exact HB.out | apply below_alloc | apply pw_below_drewN | apply below_drew1) | exact HB.out)) hb); clear HB; have HB := n0_; clear n0_; (try clear hb); (try clear hb2); (try clear hk); (try clear hi))); try go_wp2_with (first | (go_at_call 15; (refine (wigeonlaw08_long.calls _ _ l0 _ _ ([] : List Int) true _ ?side1 ?side2 ?side3 ?side4 A2.out).mono ?_); (case side1 => repeat (first | exact HR0.out | (with_reducible refine Kd.C_alloc ?_ _) | (with_reducible refine Kd.C_drewN ?_ _) | (with_reducible refine Kd.C_drew ?_))); (case side2 => exact HC0.out); (case side3 => exact Kd.C_nil _ _); (case side4 => exact Nat.le_refl _); rintro e w' ⟨rfl, ⟨nd, rfl⟩⟩; (try first | exact ⟨rfl, _, World.drewN_drewN _ _ _⟩ | exact ⟨rfl, _, Eq.trans (World.drewN_drewN _ _ _) (congrArg (World.drewN _) (Nat.add_assoc _ _ _))⟩)) | (go_at_call 16; (with_reducible refine (wigeonlaw08_known.calls k  t502 _ A4.out).mono ?_); rintro e w5 ⟨rfl, hb⟩; have n0_ := Aside0.mk (below_step (by repeat (first | (with_reducible first | exact HB.out | apply below_alloc | apply pw_below_drewN | apply below_drew1) | exact HB.out)) hb); clear HB; have HB := n0_; clear n0_; (try clear hb); (try clear hb2); (try clear hk); (try clear hi))))
  go_ret
  exact ⟨by first | rfl | (simp [errW_none, errW_some] <;> rfl) | (simp [*, errW_none, errW_some] <;> rfl), by repeat (first | (with_reducible first | exact HB.out | apply below_alloc | apply pw_below_drewN | apply below_drew1) | exact HB.out)⟩
 ·replace c3 := Bool.eq_false_iff.mpr c3
  subst c3
  have H1 : ((purse_Shapley.f k l0).bind fun bt503 => ((purse_Dividends.f k l0).bind fun bt507 => (if bt503.2 = bt507.2 then (if bt503.2 = 0 then (if 0 ≤ (IntKind.u64.wrap ((bt503.1.length : Int))) then (if (bt507.1.length : Int) = (shl .i64 1 (IntKind.u64.wrap ((bt503.1.length : Int)))) then (wigeonlaw08_PurseParts.l0 k bt503.1 bt507.1 0) else (none)) else (none)) else ((wigeonlaw08_known.f k).bind fun t511 => (some t511))) else (none)))) = some r := by rw [if_neg (show ¬ (false = true) by decide)] at H; exact H
  clear H
  have H := H1
  clear H1
  replace H := Option.bind_eq_some_iff.mp H
  obtain ⟨⟨t503, t504⟩, A60, H⟩ := H
  replace H : ((purse_Dividends.f k l0).bind fun bt507 => (if t504 = bt507.2 then (if t504 = 0 then (if 0 ≤ (IntKind.u64.wrap ((t503.length : Int))) then (if (bt507.1.length : Int) = (shl .i64 1 (IntKind.u64.wrap ((t503.length : Int)))) then (wigeonlaw08_PurseParts.l0 k t503 bt507.1 0) else (none)) else (none)) else ((wigeonlaw08_known.f k).bind fun t511 => (some t511))) else (none))) = some r := H
  have A6 := Aside0.mk A60
  clear A60
  replace H := Option.bind_eq_some_iff.mp H
  obtain ⟨⟨t507, t508⟩, A70, H⟩ := H
  replace H : (if t504 = t508 then (if t504 = 0 then (if 0 ≤ (IntKind.u64.wrap ((t503.length : Int))) then (if (t507.length : Int) = (shl .i64 1 (IntKind.u64.wrap ((t503.length : Int)))) then (wigeonlaw08_PurseParts.l0 k t503 t507 0) else (none)) else (none)) else ((wigeonlaw08_known.f k).bind fun t511 => (some t511))) else (none)) = some r := H
  have A7 := Aside0.mk A70
  clear A70
  by_cases c8 : t504 = t508
  ·rw [if_pos c8] at H
   have c8b0 : (t504 == t508) = true := beq_iff_eq.mpr c8
   have c8b1 : (t504 != t508) = false := bne_eq_false_iff_eq.mpr c8
   clear c8
   by_cases c9 : t504 = 0
   ·rw [if_pos c9] at H
    have c9b0 : (t504 == 0) = true := beq_iff_eq.mpr c9
    have c9b1 : (t504 != 0) = false := bne_eq_false_iff_eq.mpr c9
    clear c9
    obtain ⟨ji10, hji10⟩ : ∃ j_ : Int, (IntKind.u64.wrap ((t503.length : Int))) = j_ := ⟨_, rfl⟩
    replace H : (if 0 ≤ (ji10) then (if (t507.length : Int) = (shl .i64 1 (ji10)) then (wigeonlaw08_PurseParts.l0 k t503 t507 0) else (none)) else (none)) = some r := by first | (rw [hji10] at H; exact H) | (simp only [hji10] at H ⊢; exact H)
    (try rw [hji10] at A2)
    (try rw [hji10] at A6)
    (try rw [hji10] at A7)
    by_cases c11 : 0 ≤ (ji10)
    ·rw [if_pos c11] at H
     have c11b0 := eq_true c11
     have c11b1 : decide (0 ≤ (ji10)) = true := decide_eq_true c11
     clear c11
     obtain ⟨ji12, hji12⟩ : ∃ j_ : Int, (shl .i64 1 (ji10)) = j_ := ⟨_, rfl⟩
     replace H : (if (t507.length : Int) = (ji12) then (wigeonlaw08_PurseParts.l0 k t503 t507 0) else (none)) = some r := by first | (rw [hji12] at H; exact H) | (simp only [hji12] at H ⊢; exact H)
     (try rw [hji12] at A2)
     (try rw [hji12] at A6)
     (try rw [hji12] at A7)
     have hji12_ : (IntKind.i64.wrap (1 * 2 ^ min (ji10).toNat 64)) = ji12 := hji12
     have hji12z : (ji10) ≤ 64 → (IntKind.i64.wrap (1 * 2 ^ (ji10).toNat)) = ji12 := shl_small hji12
     have hji12u : (IntKind.i64.wrap (2 ^ min (ji10).toNat 64)) = ji12 := by have h_ := hji12_; rw [Int.one_mul] at h_; exact h_
     have hji12v : (ji10) ≤ 64 → (IntKind.i64.wrap (2 ^ (ji10).toNat)) = ji12 := fun hle_ => by have h_ := hji12z hle_; rw [Int.one_mul] at h_; exact h_
     have hji12y : (wrap64 (1 * 2 ^ min (ji10).toNat 64)) = ji12 := (i64_w _).symm.trans hji12_
     have hji12x : (ji10) ≤ 64 → (wrap64 (1 * 2 ^ (ji10).toNat)) = ji12 := fun h_ => (i64_w _).symm.trans (hji12z h_)
     by_cases c13 : (t507.length : Int) = (ji12)
     ·rw [if_pos c13] at H
      have c13b0 : ((t507.length : Int) == (ji12)) = true := beq_iff_eq.mpr c13
      have c13b1 : ((t507.length : Int) != (ji12)) = false := bne_eq_false_iff_eq.mpr c13
      clear c13
      have H' := Aside0.mk H
      clear H
      go_enter Tryd.func6, Tryd.ntmps6
      go_wp2_with (first | (go_at_call 15; (refine (wigeonlaw08_long.calls _ _ l0 _ _ ([] : List Int) false _ ?side1 ?side2 ?side3 ?side4 A2.out).mono ?_); (case side1 => repeat (first | exact HR0.out | (with_reducible refine Kd.C_alloc ?_ _) | (with_reducible refine Kd.C_drewN ?_ _) | (with_reducible refine Kd.C_drew ?_))); (case side2 => exact HC0.out); (case side3 => exact Kd.C_nil _ _); (case side4 => exact Nat.le_refl _); rintro e w' ⟨rfl, ⟨nd, rfl⟩⟩; (try first | exact ⟨rfl, _, World.drewN_drewN _ _ _⟩ | exact ⟨rfl, _, Eq.trans (World.drewN_drewN _ _ _) (congrArg (World.drewN _) (Nat.add_assoc _ _ _))⟩)) | (go_at_call 21; (with_reducible refine (purse_Shapley.calls k _ _ l0 t503 t504 _ ?side1 ?side2 A6.out).mono ?_); (case side1 => repeat (first | exact HR0.out | (with_reducible refine Kd.C_alloc ?_ _) | (with_reducible refine Kd.C_drewN ?_ _) | (with_reducible refine Kd.C_drew ?_))); (case side2 => exact HC0.out); rintro e w14 ⟨v505, rfl, ho0, hb⟩; have n0_ := Aside0.mk (Kd.R_lower ho0 (below_size (by repeat (first | (with_reducible first | exact HB.out | apply below_alloc | apply pw_below_drewN | apply below_drew1) | exact HB.out)))); have n1_ := Aside0.mk (below_step (by repeat (first | (with_reducible first | exact HB.out | apply below_alloc | apply pw_below_drewN | apply below_drew1) | exact HB.out)) hb); clear HB; have HO506 := n0_; have HB := n1_; clear n0_ n1_; (try clear hb); (try clear hb2); (try clear hk); (try clear hi); (try clear ho0)) | (go_at_call 26; (with_reducible refine (purse_Dividends.calls k _ _ l0 t507 t508 _ ?side1 ?side2 A7.out).mono ?_); (case side1 => repeat (first | exact (Kd.C_below HR0.out HB.out) | (with_reducible refine Kd.C_alloc ?_ _) | (with_reducible refine Kd.C_drewN ?_ _) | (with_reducible refine Kd.C_drew ?_))); (case side2 => exact HC0.out); rintro e w15 ⟨v509, rfl, ho0, hb⟩; have n0_ := Aside0.mk (Kd.R_below (by (with_reducible repeat (first | apply Kd.R_alloc | apply Kd.R_drewN | apply Kd.R_drew)); exact HO506.out) hb); have n1_ := Aside0.mk (Kd.R_lower ho0 (below_size (by repeat (first | (with_reducible first | exact HB.out | apply below_alloc | apply pw_below_drewN | apply below_drew1) | exact HB.out)))); have n2_ := Aside0.mk (below_step (by repeat (first | (with_reducible first | exact HB.out | apply below_alloc | apply pw_below_drewN | apply below_drew1) | exact HB.out)) hb); clear HO506; clear HB; have HO506 := n0_; have HO510 := n1_; have HB := n2_; clear n0_ n1_ n2_; (try clear hb); (try clear hb2); (try clear hk); (try clear hi); (try clear ho0); obtain ⟨Ao16, co16, eo16⟩ := Kd.R_slice HO510.out; subst eo16; obtain ⟨Ao17, co17, eo17⟩ := Kd.R_slice HO506.out; subst eo17))
      repeat (go_quiet (first | (go_at_call 15; (refine (wigeonlaw08_long.calls _ _ l0 _ _ ([] : List Int) false _ ?side1 ?side2 ?side3 ?side4 A2.out).mono ?_); (case side1 => repeat (first | exact HR0.out | (with_reducible refine Kd.C_alloc ?_ _) | (with_reducible refine Kd.C_drewN ?_ _) | (with_reducible refine Kd.C_drew ?_))); (case side2 => exact HC0.out); (case side3 => exact Kd.C_nil _ _); (case side4 => exact Nat.le_refl _); rintro e w' ⟨rfl, ⟨nd, rfl⟩⟩; (try first | exact ⟨rfl, _, World.drewN_drewN _ _ _⟩ | exact ⟨rfl, _, Eq.trans (World.drewN_drewN _ _ _) (congrArg (World.drewN _) (Nat.add_assoc _ _ _))⟩)) | (go_at_call 21; (with_reducible refine (purse_Shapley.calls k _ _ l0 t503 t504 _ ?side1 ?side2 A6.out).mono ?_); (case side1 => repeat (first | exact HR0.out | (with_reducible refine Kd.C_alloc ?_ _) | (with_reducible refine Kd.C_drewN ?_ _) | (with_reducible refine Kd.C_drew ?_))); (case side2 => exact HC0.out); rintro e w14 ⟨v505, rfl, ho0, hb⟩; have n0_ := Aside0.mk (Kd.R_lower ho0 (below_size (by repeat (first | (with_reducible first | exact HB.out | apply below_alloc | apply pw_below_drewN | apply below_drew1) | exact HB.out)))); have n1_ := Aside0.mk (below_step (by repeat (first | (with_reducible first | exact HB.out | apply below_alloc | apply pw_below_drewN | apply below_drew1) | exact HB.out)) hb); clear HB; have HO506 := n0_; have HB := n1_; clear n0_ n1_; (try clear hb); (try clear hb2); (try clear hk); (try clear hi); (try clear ho0)) | (go_at_call 26; (with_reducible refine (purse_Dividends.calls k _ _ l0 t507 t508 _ ?side1 ?side2 A7.out).mono ?_); (case side1 => repeat (first | exact (Kd.C_below HR0.out HB.out) | (with_reducible refine Kd.C_alloc ?_ _) | (with_reducible refine Kd.C_drewN ?_ _) | (with_reducible refine Kd.C_drew ?_))); (case side2 => exact HC0.out); rintro e w15 ⟨v509, rfl, ho0, hb⟩; have n0_ := Aside0.mk (Kd.R_below (by (with_reducible repeat (first | apply Kd.R_alloc | apply Kd.R_drewN | apply Kd.R_drew)); exact HO506.out) hb); have n1_ := Aside0.mk (Kd.R_lower ho0 (below_size (by repeat (first | (with_reducible first | exact HB.out | apply below_alloc | apply pw_below_drewN | apply below_drew1) | exact HB.out)))); have n2_ := Aside0.mk (below_step (by repeat (first | (with_reducible first | exact HB.out | apply below_alloc | apply pw_below_drewN | apply below_drew1) | exact HB.out)) hb); clear HO506; clear HB; have HO506 := n0_; have HO510 := n1_; have HB := n2_; clear n0_ n1_ n2_; (try clear hb); (try clear hb2); (try clear hk); (try clear hi); (try clear ho0); obtain ⟨Ao16, co16, eo16⟩ := Kd.R_slice HO510.out; subst eo16; obtain ⟨Ao17, co17, eo17⟩ := Kd.R_slice HO506.out; subst eo17)); try go_wp2_with (first | (go_at_call 15; (refine (wigeonlaw08_long.calls _ _ l0 _ _ ([] : List Int) false _ ?side1 ?side2 ?side3 ?side4 A2.out).mono ?_); (case side1 => repeat (first | exact HR0.out | (with_reducible refine Kd.C_alloc ?_ _) | (with_reducible refine Kd.C_drewN ?_ _) | (with_reducible refine Kd.C_drew ?_))); (case side2 => exact HC0.out); (case side3 => exact Kd.C_nil _ _); (case side4 => exact Nat.le_refl _); rintro e w' ⟨rfl, ⟨nd, rfl⟩⟩; (try first | exact ⟨rfl, _, World.drewN_drewN _ _ _⟩ | exact ⟨rfl, _, Eq.trans (World.drewN_drewN _ _ _) (congrArg (World.drewN _) (Nat.add_assoc _ _ _))⟩)) | (go_at_call 21; (with_reducible refine (purse_Shapley.calls k _ _ l0 t503 t504 _ ?side1 ?side2 A6.out).mono ?_); (case side1 => repeat (first | exact HR0.out | (with_reducible refine Kd.C_alloc ?_ _) | (with_reducible refine Kd.C_drewN ?_ _) | (with_reducible refine Kd.C_drew ?_))); (case side2 => exact HC0.out); rintro e w14 ⟨v505, rfl, ho0, hb⟩; have n0_ := Aside0.mk (Kd.R_lower ho0 (below_size (by repeat (first | (with_reducible first | exact HB.out | apply below_alloc | apply pw_below_drewN | apply below_drew1) | exact HB.out)))); have n1_ := Aside0.mk (below_step (by repeat (first | (with_reducible first | exact HB.out | apply below_alloc | apply pw_below_drewN | apply below_drew1) | exact HB.out)) hb); clear HB; have HO506 := n0_; have HB := n1_; clear n0_ n1_; (try clear hb); (try clear hb2); (try clear hk); (try clear hi); (try clear ho0)) | (go_at_call 26; (with_reducible refine (purse_Dividends.calls k _ _ l0 t507 t508 _ ?side1 ?side2 A7.out).mono ?_); (case side1 => repeat (first | exact (Kd.C_below HR0.out HB.out) | (with_reducible refine Kd.C_alloc ?_ _) | (with_reducible refine Kd.C_drewN ?_ _) | (with_reducible refine Kd.C_drew ?_))); (case side2 => exact HC0.out); rintro e w15 ⟨v509, rfl, ho0, hb⟩; have n0_ := Aside0.mk (Kd.R_below (by (with_reducible repeat (first | apply Kd.R_alloc | apply Kd.R_drewN | apply Kd.R_drew)); exact HO506.out) hb); have n1_ := Aside0.mk (Kd.R_lower ho0 (below_size (by repeat (first | (with_reducible first | exact HB.out | apply below_alloc | apply pw_below_drewN | apply below_drew1) | exact HB.out)))); have n2_ := Aside0.mk (below_step (by repeat (first | (with_reducible first | exact HB.out | apply below_alloc | apply pw_below_drewN | apply below_drew1) | exact HB.out)) hb); clear HO506; clear HB; have HO506 := n0_; have HO510 := n1_; have HB := n2_; clear n0_ n1_ n2_; (try clear hb); (try clear hb2); (try clear hk); (try clear hi); (try clear ho0); obtain ⟨Ao16, co16, eo16⟩ := Kd.R_slice HO510.out; subst eo16; obtain ⟨Ao17, co17, eo17⟩ := Kd.R_slice HO506.out; subst eo17)))
      go_loopg [7] k (fun kq v7 w' => ∃ (x7_1 : Int), v7 = .int .i64 x7_1 ∧ Aside0 (wigeonlaw08_PurseParts.l0 kq t503 t507 x7_1 = some r) ∧ Aside0 (kq ≤ k) ∧ Aside0 (Kd.R k42 42 w' w.heap.size (fun _ => True) (.slice Ao17 t503.length co17) t503) ∧ Aside0 (Kd.R (Kd.int .i64) 3 w' w.heap.size (fun _ => True) (.slice Ao16 t507.length co16) t507) ∧ Aside0 (Below w.heap.size w w'))
      case atStart => exact ⟨(0), (by first | rfl | (simp only [i64_w]; done) | (simp only [i64_w, Int.tdiv_eq_ediv_of_nonneg (show (0 : Int) ≤ 60 by decide)]; done) | (simp; done) | (simp [*]; done)), H', ⟨Nat.le_refl _⟩, ⟨by (with_reducible repeat (first | apply Kd.R_alloc | apply Kd.R_drewN | apply Kd.R_drew)); exact HO506.out⟩, ⟨by (with_reducible repeat (first | apply Kd.R_alloc | apply Kd.R_drewN | apply Kd.R_drew)); exact HO510.out⟩, ⟨by repeat (first | (with_reducible first | exact HB.out | apply below_alloc | apply pw_below_drewN | apply below_drew1) | exact HB.out)⟩⟩
      case round =>
       clear H'
       try clear c1
       try clear p2
       try clear c3
       try clear c6
       try clear p6
       try clear c8
       try clear c8b0
       try clear c8b1
       try clear c9
       try clear c9b0
       try clear c9b1
       try clear c11
       try clear c11b0
       try clear c11b1
       try clear c13
       try clear c13b0
       try clear c13b1
       obtain ⟨x7_1, rfl, HA, HK1, HO_3, HO_5, HB⟩ := hrel
       cases gk with
       | zero => exact absurd HA.out (by simp [wigeonlaw08_PurseParts.l0])
       | succ k1 =>
        have H := HA.out
        clear HA
        simp only [wigeonlaw08_PurseParts.l0] at H
        by_cases c18 : x7_1 < (t503.length : Int)
        ·rw [if_pos c18] at H
         have c18b0 : decide (x7_1 < (t503.length : Int)) = true := decide_eq_true c18
         clear c18
         have H' := Aside0.mk H
         clear H
         go_wp2
         repeat (go_quiet (fail); try go_wp2)
         go_loopg [8, 9] k1 (fun kq v8 v9 w' => ∃ (x8_2 : Int) (x9_2 : Int), v8 = .int .i64 x8_2 ∧ v9 = .int .i64 x9_2 ∧ Aside0 (wigeonlaw08_PurseParts.l1 kq t503 t507 x7_1 x8_2 x9_2 = some r) ∧ Aside0 (kq ≤ k1) ∧ Aside0 (Kd.R k42 42 w' w.heap.size (fun _ => True) (.slice Ao17 t503.length co17) t503) ∧ Aside0 (Kd.R (Kd.int .i64) 3 w' w.heap.size (fun _ => True) (.slice Ao16 t507.length co16) t507) ∧ Aside0 (Below w.heap.size w w'))
         case atStart => exact ⟨(0), (0), (by first | rfl | (simp only [i64_w]; done) | (simp only [i64_w, Int.tdiv_eq_ediv_of_nonneg (show (0 : Int) ≤ 60 by decide)]; done) | (simp; done) | (simp [*]; done)), (by first | rfl | (simp only [i64_w]; done) | (simp only [i64_w, Int.tdiv_eq_ediv_of_nonneg (show (0 : Int) ≤ 60 by decide)]; done) | (simp; done) | (simp [*]; done)), H', ⟨Nat.le_refl _⟩, ⟨by (with_reducible repeat (first | apply Kd.R_alloc | apply Kd.R_drewN | apply Kd.R_drew)); exact HO_3.out⟩, ⟨by (with_reducible repeat (first | apply Kd.R_alloc | apply Kd.R_drewN | apply Kd.R_drew)); exact HO_5.out⟩, ⟨by repeat (first | (with_reducible first | exact HB.out | apply below_alloc | apply pw_below_drewN | apply below_drew1) | exact HB.out)⟩⟩
         case round =>
          clear H'
          try clear c1
          try clear p2
          try clear c3
          try clear c6
          try clear p6
          try clear c8
          try clear c8b0
          try clear c8b1
          try clear c9
          try clear c9b0
          try clear c9b1
          try clear c11
          try clear c11b0
          try clear c11b1
          try clear c13
          try clear c13b0
          try clear c13b1
          try clear c18
          try clear c18b0
          try clear p2
          try clear p6
          obtain ⟨x8_2, x9_2, rfl, rfl, HA, HK2, HO_3, HO_5, HB⟩ := hrel
          cases gk with
          | zero => exact absurd HA.out (by simp [wigeonlaw08_PurseParts.l1])
          | succ k2 =>
           have H := HA.out
           clear HA
           simp only [wigeonlaw08_PurseParts.l1] at H
           by_cases c19 : x9_2 < (t507.length : Int)
           ·rw [if_pos c19] at H
            have c19b0 : decide (x9_2 < (t507.length : Int)) = true := decide_eq_true c19
            clear c19
            have H' := Aside0.mk H
            clear H
            go_wp2
            repeat (go_quiet (fail); try go_wp2)
            go_loopg [10, 11] k2 (fun kq v10 v11 w' => ∃ (x10_3 : Int) (x11_3 : Int), v10 = .int .i64 x10_3 ∧ v11 = .int .i64 x11_3 ∧ Aside0 (wigeonlaw08_PurseParts.l2 kq t503 t507 x7_1 x8_2 x9_2 x10_3 x11_3 = some r) ∧ Aside0 (kq ≤ k2) ∧ Aside0 (Kd.R k42 42 w' w.heap.size (fun _ => True) (.slice Ao17 t503.length co17) t503) ∧ Aside0 (Kd.R (Kd.int .i64) 3 w' w.heap.size (fun _ => True) (.slice Ao16 t507.length co16) t507) ∧ Aside0 (Below w.heap.size w w'))
            case atStart => exact ⟨(0), (0), (by first | rfl | (simp only [i64_w]; done) | (simp only [i64_w, Int.tdiv_eq_ediv_of_nonneg (show (0 : Int) ≤ 60 by decide)]; done) | (simp; done) | (simp [*]; done)), (by first | rfl | (simp only [i64_w]; done) | (simp only [i64_w, Int.tdiv_eq_ediv_of_nonneg (show (0 : Int) ≤ 60 by decide)]; done) | (simp; done) | (simp [*]; done)), H', ⟨Nat.le_refl _⟩, ⟨by (with_reducible repeat (first | apply Kd.R_alloc | apply Kd.R_drewN | apply Kd.R_drew)); exact HO_3.out⟩, ⟨by (with_reducible repeat (first | apply Kd.R_alloc | apply Kd.R_drewN | apply Kd.R_drew)); exact HO_5.out⟩, ⟨by repeat (first | (with_reducible first | exact HB.out | apply below_alloc | apply pw_below_drewN | apply below_drew1) | exact HB.out)⟩⟩
            case round =>
             clear H'
             try clear c1
             try clear p2
             try clear c3
             try clear c6
             try clear p6
             try clear c8
             try clear c8b0
             try clear c8b1
             try clear c9
             try clear c9b0
             try clear c9b1
             try clear c11
             try clear c11b0
             try clear c11b1
             try clear c13
             try clear c13b0
             try clear c13b1
             try clear c18
             try clear c18b0
             try clear c19
             try clear c19b0
             try clear p2
             try clear p6
             obtain ⟨x10_3, x11_3, rfl, rfl, HA, HK3, HO_3, HO_5, HB⟩ := hrel
             cases gk with
             | zero => exact absurd HA.out (by simp [wigeonlaw08_PurseParts.l2])
             | succ k3 =>
              have H := HA.out
              clear HA
              simp only [wigeonlaw08_PurseParts.l2] at H
              by_cases c20 : x11_3 < (t503.length : Int)
              ·rw [if_pos c20] at H
               have c20b0 : decide (x11_3 < (t503.length : Int)) = true := decide_eq_true c20
               clear c20
               obtain ⟨ji21, hji21⟩ : ∃ j_ : Int, (IntKind.u64.wrap (x11_3)) = j_ := ⟨_, rfl⟩
               replace H : (if 0 ≤ (ji21) then (wigeonlaw08_PurseParts.l2 k3 t503 t507 x7_1 x8_2 x9_2 (wrap64 (x10_3 + (Go.bits .and .i64 (shr .i64 x9_2 (ji21)) 1))) (wrap64 (x11_3 + 1))) else (none)) = some r := by first | (rw [hji21] at H; exact H) | (simp only [hji21] at H ⊢; exact H)
               by_cases c22 : 0 ≤ (ji21)
               ·rw [if_pos c22] at H
                have c22b0 := eq_true c22
                have c22b1 : decide (0 ≤ (ji21)) = true := decide_eq_true c22
                clear c22
                obtain ⟨ji23, hji23⟩ : ∃ j_ : Int, (shr .i64 x9_2 (ji21)) = j_ := ⟨_, rfl⟩
                replace H : (wigeonlaw08_PurseParts.l2 k3 t503 t507 x7_1 x8_2 x9_2 (wrap64 (x10_3 + (Go.bits .and .i64 (ji23) 1))) (wrap64 (x11_3 + 1))) = some r := by first | (rw [hji23] at H; exact H) | (simp only [hji23] at H ⊢; exact H)
                have hji23_ : (x9_2 / 2 ^ min (ji21).toNat 64) = ji23 := hji23
                have hji23z : (ji21) ≤ 64 → (x9_2 / 2 ^ (ji21).toNat) = ji23 := shr_small hji23
                have H' := Aside0.mk H
                clear H
                go_wp2
                repeat (go_quiet (fail); try go_wp2)
                go_roundg k3
                case measure => have := HK1.out; have := HK2.out; have := HK3.out; omega
                case rel => exact ⟨(wrap64 (x10_3 + (Go.bits .and .i64 (ji23) 1))), (wrap64 (x11_3 + 1)), (by first | rfl | (simp; done) | (simp only [← hji23] <;> (first | rfl | simp)) | (simp [*]; done)), (by first | rfl | (simp only [i64_w]; done) | (simp only [i64_w, Int.tdiv_eq_ediv_of_nonneg (show (0 : Int) ≤ 60 by decide)]; done) | (simp; done) | (simp [*]; done)), H', ⟨by have := HK1.out; have := HK2.out; have := HK3.out; omega⟩, ⟨by (with_reducible repeat (first | apply Kd.R_alloc | apply Kd.R_drewN | apply Kd.R_drew)); exact HO_3.out⟩, ⟨by (with_reducible repeat (first | apply Kd.R_alloc | apply Kd.R_drewN | apply Kd.R_drew)); exact HO_5.out⟩, ⟨by repeat (first | (with_reducible first | exact HB.out | apply below_alloc | apply pw_below_drewN | apply below_drew1) | exact HB.out)⟩⟩
               ·rw [if_neg c22] at H
                exact absurd H (by simp)
              ·rw [if_neg c20] at H
               have c20b0 : decide (x11_3 < (t503.length : Int)) = false := decide_eq_false c20
               clear c20
               obtain ⟨ji24, hji24⟩ : ∃ j_ : Int, (IntKind.u64.wrap (x7_1)) = j_ := ⟨_, rfl⟩
               replace H : (if 0 ≤ (ji24) then (if (Go.bits .and .i64 (shr .i64 x9_2 (ji24)) 1) = 1 then (if 0 ≤ x9_2 then (if x9_2 < (t507.length : Int) then (if x10_3 = 0 then (none) else (wigeonlaw08_PurseParts.l1 k3 t503 t507 x7_1 (wrap64 (x8_2 + (wrap64 ((rd t507 x9_2) * (wrap64 ((60 : Int) / x10_3)))))) (wrap64 (x9_2 + 1)))) else (none)) else (none)) else (wigeonlaw08_PurseParts.l1 k3 t503 t507 x7_1 x8_2 (wrap64 (x9_2 + 1)))) else (none)) = some r := by first | (rw [hji24] at H; exact H) | (simp only [hji24] at H ⊢; exact H)
               by_cases c25 : 0 ≤ (ji24)
               ·rw [if_pos c25] at H
                have c25b0 := eq_true c25
                have c25b1 : decide (0 ≤ (ji24)) = true := decide_eq_true c25
                clear c25
                obtain ⟨ji26, hji26⟩ : ∃ j_ : Int, (shr .i64 x9_2 (ji24)) = j_ := ⟨_, rfl⟩
                replace H : (if (Go.bits .and .i64 (ji26) 1) = 1 then (if 0 ≤ x9_2 then (if x9_2 < (t507.length : Int) then (if x10_3 = 0 then (none) else (wigeonlaw08_PurseParts.l1 k3 t503 t507 x7_1 (wrap64 (x8_2 + (wrap64 ((rd t507 x9_2) * (wrap64 ((60 : Int) / x10_3)))))) (wrap64 (x9_2 + 1)))) else (none)) else (none)) else (wigeonlaw08_PurseParts.l1 k3 t503 t507 x7_1 x8_2 (wrap64 (x9_2 + 1)))) = some r := by first | (rw [hji26] at H; exact H) | (simp only [hji26] at H ⊢; exact H)
                have hji26_ : (x9_2 / 2 ^ min (ji24).toNat 64) = ji26 := hji26
                have hji26z : (ji24) ≤ 64 → (x9_2 / 2 ^ (ji24).toNat) = ji26 := shr_small hji26
                by_cases c27 : (Go.bits .and .i64 (ji26) 1) = 1
                ·rw [if_pos c27] at H
                 have c27b0 : ((Go.bits .and .i64 (ji26) 1) == 1) = true := beq_iff_eq.mpr c27
                 have c27b1 : ((Go.bits .and .i64 (ji26) 1) != 1) = false := bne_eq_false_iff_eq.mpr c27
                 clear c27
                 by_cases c28 : 0 ≤ x9_2
                 ·rw [if_pos c28] at H
                  have c28b0 : decide (0 ≤ x9_2) = true := decide_eq_true c28
                  clear c28
                  by_cases c29 : x9_2 < (t507.length : Int)
                  ·rw [if_pos c29] at H
                   have c29b0 : decide (x9_2 < (t507.length : Int)) = true := decide_eq_true c29
                   clear c29
                   by_cases c30 : x10_3 = 0
                   ·rw [if_pos c30] at H
                    exact absurd H (by simp)
                   ·rw [if_neg c30] at H
                    have c30b0 : (x10_3 == 0) = false := beq_eq_false_iff_ne.mpr c30
                    have c30b1 : (x10_3 != 0) = true := bne_iff_ne.mpr c30
                    have H' := Aside0.mk H
                    clear H
                    have p515 : 0 ≤ (x9_2 : Int) := of_decide_eq_true (by first | (with_reducible assumption) | assumption)
                    have q515 : x9_2 < (t507.length : Int) := of_decide_eq_true (by first | (with_reducible assumption) | assumption)
                    obtain ⟨ad515, e515, hx515_0⟩ := Kd.at_int (Kd.R_reads' HO_5.out).2.2 x9_2 p515 q515
                    cases e515
                    replace p515 := eq_true p515
                    replace q515 := eq_true q515
                    go_wp2
                    repeat (go_quiet (fail); try go_wp2)
                    go_roundg k3
                    case measure => have := HK1.out; have := HK2.out; have := HK3.out; omega
                    case rel => exact ⟨(wrap64 (x8_2 + (wrap64 ((rd t507 x9_2) * (wrap64 ((60 : Int) / x10_3)))))), (wrap64 (x9_2 + 1)), (by first | rfl | (simp only [i64_w]; done) | (simp only [i64_w, Int.tdiv_eq_ediv_of_nonneg (show (0 : Int) ≤ 60 by decide)]; done) | (simp; done) | (simp [*]; done)), (by first | rfl | (simp only [i64_w]; done) | (simp only [i64_w, Int.tdiv_eq_ediv_of_nonneg (show (0 : Int) ≤ 60 by decide)]; done) | (simp; done) | (simp [*]; done)), H', ⟨by have := HK1.out; have := HK2.out; have := HK3.out; omega⟩, ⟨by (with_reducible repeat (first | apply Kd.R_alloc | apply Kd.R_drewN | apply Kd.R_drew)); exact HO_3.out⟩, ⟨by (with_reducible repeat (first | apply Kd.R_alloc | apply Kd.R_drewN | apply Kd.R_drew)); exact HO_5.out⟩, ⟨by repeat (first | (with_reducible first | exact HB.out | apply below_alloc | apply pw_below_drewN | apply below_drew1) | exact HB.out)⟩⟩
                  ·rw [if_neg c29] at H
                   exact absurd H (by simp)
                 ·rw [if_neg c28] at H
                  exact absurd H (by simp)
                ·rw [if_neg c27] at H
                 have c27b0 : ((Go.bits .and .i64 (ji26) 1) == 1) = false := beq_eq_false_iff_ne.mpr c27
                 have c27b1 : ((Go.bits .and .i64 (ji26) 1) != 1) = true := bne_iff_ne.mpr c27
                 have H' := Aside0.mk H
                 clear H
                 go_wp2
                 repeat (go_quiet (fail); try go_wp2)
                 go_roundg k3
                 case measure => have := HK1.out; have := HK2.out; have := HK3.out; omega
                 case rel => exact ⟨(x8_2), (wrap64 (x9_2 + 1)), (by first | rfl | (simp only [i64_w]; done) | (simp only [i64_w, Int.tdiv_eq_ediv_of_nonneg (show (0 : Int) ≤ 60 by decide)]; done) | (simp; done) | (simp [*]; done)), (by first | rfl | (simp only [i64_w]; done) | (simp only [i64_w, Int.tdiv_eq_ediv_of_nonneg (show (0 : Int) ≤ 60 by decide)]; done) | (simp; done) | (simp [*]; done)), H', ⟨by have := HK1.out; have := HK2.out; have := HK3.out; omega⟩, ⟨by (with_reducible repeat (first | apply Kd.R_alloc | apply Kd.R_drewN | apply Kd.R_drew)); exact HO_3.out⟩, ⟨by (with_reducible repeat (first | apply Kd.R_alloc | apply Kd.R_drewN | apply Kd.R_drew)); exact HO_5.out⟩, ⟨by repeat (first | (with_reducible first | exact HB.out | apply below_alloc | apply pw_below_drewN | apply below_drew1) | exact HB.out)⟩⟩
               ·rw [if_neg c25] at H
                exact absurd H (by simp)
           ·rw [if_neg c19] at H
            have c19b0 : decide (x9_2 < (t507.length : Int)) = false := decide_eq_false c19
            clear c19
            by_cases c31 : 0 ≤ x7_1
            ·rw [if_pos c31] at H
             have c31b0 : decide (0 ≤ x7_1) = true := decide_eq_true c31
             clear c31
             by_cases c32 : x7_1 < (t503.length : Int)
             ·rw [if_pos c32] at H
              have c32b0 : decide (x7_1 < (t503.length : Int)) = true := decide_eq_true c32
              clear c32
              by_cases c33 : (wrap64 (((rd_T42 t503 x7_1).f0) * 60)) = (wrap64 (x8_2 * ((rd_T42 t503 x7_1).f1)))
              ·rw [if_pos c33] at H
               have c33b0 : ((wrap64 (((rd_T42 t503 x7_1).f0) * 60)) == (wrap64 (x8_2 * ((rd_T42 t503 x7_1).f1)))) = true := beq_iff_eq.mpr c33
               have c33b1 : ((wrap64 (((rd_T42 t503 x7_1).f0) * 60)) != (wrap64 (x8_2 * ((rd_T42 t503 x7_1).f1)))) = false := bne_eq_false_iff_eq.mpr c33
               clear c33
               have H' := Aside0.mk H
               clear H
               have p513 : 0 ≤ (x7_1 : Int) := of_decide_eq_true (by first | (with_reducible assumption) | assumption)
               have q513 : x7_1 < (t503.length : Int) := of_decide_eq_true (by first | (with_reducible assumption) | assumption)
               obtain ⟨ad513, e513, hx513_0, hx513_1⟩ := at_T42 (Kd.R_reads' HO_3.out).2.2 x7_1 p513 q513
               cases e513
               replace p513 := eq_true p513
               replace q513 := eq_true q513
               have p514 : 0 ≤ (x7_1 : Int) := of_decide_eq_true (by first | (with_reducible assumption) | assumption)
               have q514 : x7_1 < (t503.length : Int) := of_decide_eq_true (by first | (with_reducible assumption) | assumption)
               obtain ⟨ad514, e514, hx514_0, hx514_1⟩ := at_T42 (Kd.R_reads' HO_3.out).2.2 x7_1 p514 q514
               obtain rfl : ad513 = ad514 := (by injection e514)
               replace p514 := eq_true p514
               replace q514 := eq_true q514
               go_wp2
               repeat (go_quiet (fail); try go_wp2)
               go_roundg k2
               case measure => have := HK1.out; have := HK2.out; omega
               case rel => exact ⟨(wrap64 (x7_1 + 1)), (by first | rfl | (simp only [i64_w]; done) | (simp only [i64_w, Int.tdiv_eq_ediv_of_nonneg (show (0 : Int) ≤ 60 by decide)]; done) | (simp; done) | (simp [*]; done)), H', ⟨by have := HK1.out; have := HK2.out; omega⟩, ⟨by (with_reducible repeat (first | apply Kd.R_alloc | apply Kd.R_drewN | apply Kd.R_drew)); exact HO_3.out⟩, ⟨by (with_reducible repeat (first | apply Kd.R_alloc | apply Kd.R_drewN | apply Kd.R_drew)); exact HO_5.out⟩, ⟨by repeat (first | (with_reducible first | exact HB.out | apply below_alloc | apply pw_below_drewN | apply below_drew1) | exact HB.out)⟩⟩
              ·rw [if_neg c33] at H
               exact absurd H (by simp)
             ·rw [if_neg c32] at H
              exact absurd H (by simp)
            ·rw [if_neg c31] at H
             exact absurd H (by simp)
        ·rw [if_neg c18] at H
         have c18b0 : decide (x7_1 < (t503.length : Int)) = false := decide_eq_false c18
         clear c18
         replace H := Option.bind_eq_some_iff.mp H
         obtain ⟨t512, A340, H⟩ := H
         replace H : (some t512) = some r := H
         have A34 := Aside0.mk A340
         clear A340
         obtain rfl := Option.some.inj H
         go_wp2_with (first | (go_at_call 16; (with_reducible refine (wigeonlaw08_known.calls k1  t512 _ A34.out).mono ?_); rintro e w35 ⟨rfl, hb⟩; have n0_ := Aside0.mk (Kd.R_below (by (with_reducible repeat (first | apply Kd.R_alloc | apply Kd.R_drewN | apply Kd.R_drew)); exact HO_3.out) hb); have n1_ := Aside0.mk (Kd.R_below (by (with_reducible repeat (first | apply Kd.R_alloc | apply Kd.R_drewN | apply Kd.R_drew)); exact HO_5.out) hb); have n2_ := Aside0.mk (below_step (by repeat (first | (with_reducible first | exact HB.out | apply below_alloc | apply pw_below_drewN | apply below_drew1) | exact HB.out)) hb); clear HO_3; clear HO_5; clear HB; have HO_3 := n0_; have HO_5 := n1_; have HB := n2_; clear n0_ n1_ n2_; (try clear hb); (try clear hb2); (try clear hk); (try clear hi)))
         repeat (go_quiet (first | (go_at_call 16; (with_reducible refine (wigeonlaw08_known.calls k1  t512 _ A34.out).mono ?_); rintro e w35 ⟨rfl, hb⟩; have n0_ := Aside0.mk (Kd.R_below (by (with_reducible repeat (first | apply Kd.R_alloc | apply Kd.R_drewN | apply Kd.R_drew)); exact HO_3.out) hb); have n1_ := Aside0.mk (Kd.R_below (by (with_reducible repeat (first | apply Kd.R_alloc | apply Kd.R_drewN | apply Kd.R_drew)); exact HO_5.out) hb); have n2_ := Aside0.mk (below_step (by repeat (first | (with_reducible first | exact HB.out | apply below_alloc | apply pw_below_drewN | apply below_drew1) | exact HB.out)) hb); clear HO_3; clear HO_5; clear HB; have HO_3 := n0_; have HO_5 := n1_; have HB := n2_; clear n0_ n1_ n2_; (try clear hb); (try clear hb2); (try clear hk); (try clear hi))); try go_wp2_with (first | (go_at_call 16; (with_reducible refine (wigeonlaw08_known.calls k1  t512 _ A34.out).mono ?_); rintro e w35 ⟨rfl, hb⟩; have n0_ := Aside0.mk (Kd.R_below (by (with_reducible repeat (first | apply Kd.R_alloc | apply Kd.R_drewN | apply Kd.R_drew)); exact HO_3.out) hb); have n1_ := Aside0.mk (Kd.R_below (by (with_reducible repeat (first | apply Kd.R_alloc | apply Kd.R_drewN | apply Kd.R_drew)); exact HO_5.out) hb); have n2_ := Aside0.mk (below_step (by repeat (first | (with_reducible first | exact HB.out | apply below_alloc | apply pw_below_drewN | apply below_drew1) | exact HB.out)) hb); clear HO_3; clear HO_5; clear HB; have HO_3 := n0_; have HO_5 := n1_; have HB := n2_; clear n0_ n1_ n2_; (try clear hb); (try clear hb2); (try clear hk); (try clear hi))))
         go_ret
         exact ⟨by first | rfl | (simp [errW_none, errW_some] <;> rfl) | (simp only [← hji10, ← hji12]; first | rfl | (simp [errW_none, errW_some] <;> rfl)) | (simp [*, errW_none, errW_some] <;> rfl), by repeat (first | (with_reducible first | exact HB.out | apply below_alloc | apply pw_below_drewN | apply below_drew1) | exact HB.out)⟩
     ·rw [if_neg c13] at H
      exact absurd H (by simp)
    ·rw [if_neg c11] at H
     exact absurd H (by simp)
   ·rw [if_neg c9] at H
    have c9b0 : (t504 == 0) = false := beq_eq_false_iff_ne.mpr c9
    have c9b1 : (t504 != 0) = true := bne_iff_ne.mpr c9
    replace H := Option.bind_eq_some_iff.mp H
    obtain ⟨t511, A400, H⟩ := H
    replace H : (some t511) = some r := H
    have A40 := Aside0.mk A400
    clear A400
    obtain rfl := Option.some.inj H
    go_enter Tryd.func6, Tryd.ntmps6
    go_wp2_with (first | (go_at_call 15; (refine (wigeonlaw08_long.calls _ _ l0 _ _ ([] : List Int) false _ ?side1 ?side2 ?side3 ?side4 A2.out).mono ?_); (case side1 => repeat (first | exact HR0.out | (with_reducible refine Kd.C_alloc ?_ _) | (with_reducible refine Kd.C_drewN ?_ _) | (with_reducible refine Kd.C_drew ?_))); (case side2 => exact HC0.out); (case side3 => exact Kd.C_nil _ _); (case side4 => exact Nat.le_refl _); rintro e w' ⟨rfl, ⟨nd, rfl⟩⟩; (try first | exact ⟨rfl, _, World.drewN_drewN _ _ _⟩ | exact ⟨rfl, _, Eq.trans (World.drewN_drewN _ _ _) (congrArg (World.drewN _) (Nat.add_assoc _ _ _))⟩)) | (go_at_call 21; (with_reducible refine (purse_Shapley.calls k _ _ l0 t503 t504 _ ?side1 ?side2 A6.out).mono ?_); (case side1 => repeat (first | exact HR0.out | (with_reducible refine Kd.C_alloc ?_ _) | (with_reducible refine Kd.C_drewN ?_ _) | (with_reducible refine Kd.C_drew ?_))); (case side2 => exact HC0.out); rintro e w41 ⟨v505, rfl, ho0, hb⟩; have n0_ := Aside0.mk (Kd.R_lower ho0 (below_size (by repeat (first | (with_reducible first | exact HB.out | apply below_alloc | apply pw_below_drewN | apply below_drew1) | exact HB.out)))); have n1_ := Aside0.mk (below_step (by repeat (first | (with_reducible first | exact HB.out | apply below_alloc | apply pw_below_drewN | apply below_drew1) | exact HB.out)) hb); clear HB; have HO506 := n0_; have HB := n1_; clear n0_ n1_; (try clear hb); (try clear hb2); (try clear hk); (try clear hi); (try clear ho0)) | (go_at_call 26; (with_reducible refine (purse_Dividends.calls k _ _ l0 t507 t508 _ ?side1 ?side2 A7.out).mono ?_); (case side1 => repeat (first | exact (Kd.C_below HR0.out HB.out) | (with_reducible refine Kd.C_alloc ?_ _) | (with_reducible refine Kd.C_drewN ?_ _) | (with_reducible refine Kd.C_drew ?_))); (case side2 => exact HC0.out); rintro e w42 ⟨v509, rfl, ho0, hb⟩; have n0_ := Aside0.mk (Kd.R_below (by (with_reducible repeat (first | apply Kd.R_alloc | apply Kd.R_drewN | apply Kd.R_drew)); exact HO506.out) hb); have n1_ := Aside0.mk (Kd.R_lower ho0 (below_size (by repeat (first | (with_reducible first | exact HB.out | apply below_alloc | apply pw_below_drewN | apply below_drew1) | exact HB.out)))); have n2_ := Aside0.mk (below_step (by repeat (first | (with_reducible first | exact HB.out | apply below_alloc | apply pw_below_drewN | apply below_drew1) | exact HB.out)) hb); clear HO506; clear HB; have HO506 := n0_; have HO510 := n1_; have HB := n2_; clear n0_ n1_ n2_; (try clear hb); (try clear hb2); (try clear hk); (try clear hi); (try clear ho0)) | (go_at_call 16; (with_reducible refine (wigeonlaw08_known.calls k  t511 _ A40.out).mono ?_); rintro e w43 ⟨rfl, hb⟩; have n0_ := Aside0.mk (Kd.R_below (by (with_reducible repeat (first | apply Kd.R_alloc | apply Kd.R_drewN | apply Kd.R_drew)); exact HO506.out) hb); have n1_ := Aside0.mk (Kd.R_below (by (with_reducible repeat (first | apply Kd.R_alloc | apply Kd.R_drewN | apply Kd.R_drew)); exact HO510.out) hb); have n2_ := Aside0.mk (below_step (by repeat (first | (with_reducible first | exact HB.out | apply below_alloc | apply pw_below_drewN | apply below_drew1) | exact HB.out)) hb); clear HO506; clear HO510; clear HB; have HO506 := n0_; have HO510 := n1_; have HB := n2_; clear n0_ n1_ n2_; (try clear hb); (try clear hb2); (try clear hk); (try clear hi)))
    repeat (go_quiet (first | (go_at_call 15; (refine (wigeonlaw08_long.calls _ _ l0 _ _ ([] : List Int) false _ ?side1 ?side2 ?side3 ?side4 A2.out).mono ?_); (case side1 => repeat (first | exact HR0.out | (with_reducible refine Kd.C_alloc ?_ _) | (with_reducible refine Kd.C_drewN ?_ _) | (with_reducible refine Kd.C_drew ?_))); (case side2 => exact HC0.out); (case side3 => exact Kd.C_nil _ _); (case side4 => exact Nat.le_refl _); rintro e w' ⟨rfl, ⟨nd, rfl⟩⟩; (try first | exact ⟨rfl, _, World.drewN_drewN _ _ _⟩ | exact ⟨rfl, _, Eq.trans (World.drewN_drewN _ _ _) (congrArg (World.drewN _) (Nat.add_assoc _ _ _))⟩)) | (go_at_call 21; (with_reducible refine (purse_Shapley.calls k _ _ l0 t503 t504 _ ?side1 ?side2 A6.out).mono ?_); (case side1 => repeat (first | exact HR0.out | (with_reducible refine Kd.C_alloc ?_ _) | (with_reducible refine Kd.C_drewN ?_ _) | (with_reducible refine Kd.C_drew ?_))); (case side2 => exact HC0.out); rintro e w41 ⟨v505, rfl, ho0, hb⟩; have n0_ := Aside0.mk (Kd.R_lower ho0 (below_size (by repeat (first | (with_reducible first | exact HB.out | apply below_alloc | apply pw_below_drewN | apply below_drew1) | exact HB.out)))); have n1_ := Aside0.mk (below_step (by repeat (first | (with_reducible first | exact HB.out | apply below_alloc | apply pw_below_drewN | apply below_drew1) | exact HB.out)) hb); clear HB; have HO506 := n0_; have HB := n1_; clear n0_ n1_; (try clear hb); (try clear hb2); (try clear hk); (try clear hi); (try clear ho0)) | (go_at_call 26; (with_reducible refine (purse_Dividends.calls k _ _ l0 t507 t508 _ ?side1 ?side2 A7.out).mono ?_); (case side1 => repeat (first | exact (Kd.C_below HR0.out HB.out) | (with_reducible refine Kd.C_alloc ?_ _) | (with_reducible refine Kd.C_drewN ?_ _) | (with_reducible refine Kd.C_drew ?_))); (case side2 => exact HC0.out); rintro e w42 ⟨v509, rfl, ho0, hb⟩; have n0_ := Aside0.mk (Kd.R_below (by (with_reducible repeat (first | apply Kd.R_alloc | apply Kd.R_drewN | apply Kd.R_drew)); exact HO506.out) hb); have n1_ := Aside0.mk (Kd.R_lower ho0 (below_size (by repeat (first | (with_reducible first | exact HB.out | apply below_alloc | apply pw_below_drewN | apply below_drew1) | exact HB.out)))); have n2_ := Aside0.mk (below_step (by repeat (first | (with_reducible first | exact HB.out | apply below_alloc | apply pw_below_drewN | apply below_drew1) | exact HB.out)) hb); clear HO506; clear HB; have HO506 := n0_; have HO510 := n1_; have HB := n2_; clear n0_ n1_ n2_; (try clear hb); (try clear hb2); (try clear hk); (try clear hi); (try clear ho0)) | (go_at_call 16; (with_reducible refine (wigeonlaw08_known.calls k  t511 _ A40.out).mono ?_); rintro e w43 ⟨rfl, hb⟩; have n0_ := Aside0.mk (Kd.R_below (by (with_reducible repeat (first | apply Kd.R_alloc | apply Kd.R_drewN | apply Kd.R_drew)); exact HO506.out) hb); have n1_ := Aside0.mk (Kd.R_below (by (with_reducible repeat (first | apply Kd.R_alloc | apply Kd.R_drewN | apply Kd.R_drew)); exact HO510.out) hb); have n2_ := Aside0.mk (below_step (by repeat (first | (with_reducible first | exact HB.out | apply below_alloc | apply pw_below_drewN | apply below_drew1) | exact HB.out)) hb); clear HO506; clear HO510; clear HB; have HO506 := n0_; have HO510 := n1_; have HB := n2_; clear n0_ n1_ n2_; (try clear hb); (try clear hb2); (try clear hk); (try clear hi))); try go_wp2_with (first | (go_at_call 15; (refine (wigeonlaw08_long.calls _ _ l0 _ _ ([] : List Int) false _ ?side1 ?side2 ?side3 ?side4 A2.out).mono ?_); (case side1 => repeat (first | exact HR0.out | (with_reducible refine Kd.C_alloc ?_ _) | (with_reducible refine Kd.C_drewN ?_ _) | (with_reducible refine Kd.C_drew ?_))); (case side2 => exact HC0.out); (case side3 => exact Kd.C_nil _ _); (case side4 => exact Nat.le_refl _); rintro e w' ⟨rfl, ⟨nd, rfl⟩⟩; (try first | exact ⟨rfl, _, World.drewN_drewN _ _ _⟩ | exact ⟨rfl, _, Eq.trans (World.drewN_drewN _ _ _) (congrArg (World.drewN _) (Nat.add_assoc _ _ _))⟩)) | (go_at_call 21; (with_reducible refine (purse_Shapley.calls k _ _ l0 t503 t504 _ ?side1 ?side2 A6.out).mono ?_); (case side1 => repeat (first | exact HR0.out | (with_reducible refine Kd.C_alloc ?_ _) | (with_reducible refine Kd.C_drewN ?_ _) | (with_reducible refine Kd.C_drew ?_))); (case side2 => exact HC0.out); rintro e w41 ⟨v505, rfl, ho0, hb⟩; have n0_ := Aside0.mk (Kd.R_lower ho0 (below_size (by repeat (first | (with_reducible first | exact HB.out | apply below_alloc | apply pw_below_drewN | apply below_drew1) | exact HB.out)))); have n1_ := Aside0.mk (below_step (by repeat (first | (with_reducible first | exact HB.out | apply below_alloc | apply pw_below_drewN | apply below_drew1) | exact HB.out)) hb); clear HB; have HO506 := n0_; have HB := n1_; clear n0_ n1_; (try clear hb); (try clear hb2); (try clear hk); (try clear hi); (try clear ho0)) | (go_at_call 26; (with_reducible refine (purse_Dividends.calls k _ _ l0 t507 t508 _ ?side1 ?side2 A7.out).mono ?_); (case side1 => repeat (first | exact (Kd.C_below HR0.out HB.out) | (with_reducible refine Kd.C_alloc ?_ _) | (with_reducible refine Kd.C_drewN ?_ _) | (with_reducible refine Kd.C_drew ?_))); (case side2 => exact HC0.out); rintro e w42 ⟨v509, rfl, ho0, hb⟩; have n0_ := Aside0.mk (Kd.R_below (by (with_reducible repeat (first | apply Kd.R_alloc | apply Kd.R_drewN | apply Kd.R_drew)); exact HO506.out) hb); have n1_ := Aside0.mk (Kd.R_lower ho0 (below_size (by repeat (first | (with_reducible first | exact HB.out | apply below_alloc | apply pw_below_drewN | apply below_drew1) | exact HB.out)))); have n2_ := Aside0.mk (below_step (by repeat (first | (with_reducible first | exact HB.out | apply below_alloc | apply pw_below_drewN | apply below_drew1) | exact HB.out)) hb); clear HO506; clear HB; have HO506 := n0_; have HO510 := n1_; have HB := n2_; clear n0_ n1_ n2_; (try clear hb); (try clear hb2); (try clear hk); (try clear hi); (try clear ho0)) | (go_at_call 16; (with_reducible refine (wigeonlaw08_known.calls k  t511 _ A40.out).mono ?_); rintro e w43 ⟨rfl, hb⟩; have n0_ := Aside0.mk (Kd.R_below (by (with_reducible repeat (first | apply Kd.R_alloc | apply Kd.R_drewN | apply Kd.R_drew)); exact HO506.out) hb); have n1_ := Aside0.mk (Kd.R_below (by (with_reducible repeat (first | apply Kd.R_alloc | apply Kd.R_drewN | apply Kd.R_drew)); exact HO510.out) hb); have n2_ := Aside0.mk (below_step (by repeat (first | (with_reducible first | exact HB.out | apply below_alloc | apply pw_below_drewN | apply below_drew1) | exact HB.out)) hb); clear HO506; clear HO510; clear HB; have HO506 := n0_; have HO510 := n1_; have HB := n2_; clear n0_ n1_ n2_; (try clear hb); (try clear hb2); (try clear hk); (try clear hi))))
    go_ret
    exact ⟨by first | rfl | (simp [errW_none, errW_some] <;> rfl) | (simp [*, errW_none, errW_some] <;> rfl), by repeat (first | (with_reducible first | exact HB.out | apply below_alloc | apply pw_below_drewN | apply below_drew1) | exact HB.out)⟩
  ·rw [if_neg c8] at H
   exact absurd H (by simp)
/-- THE ONE PURE STATEMENT of wigeonlaw08_PurseParts: yours. -/
def wigeonlaw08_PurseParts.Pure : Prop := ∀ (l0 : List Int), l0.length ≤ maxLen → l0.length * 8 ≤ 140737488351232 → (∀ x ∈ l0, (Lit.int .i64 x).wf = true) → ∃ k, wigeonlaw08_PurseParts.f k l0 = some true
theorem wigeonlaw08_PurseParts.walk (P : wigeonlaw08_PurseParts.Pure) (a0 : Option Addr) (len0 cap0 : Nat) (z0 : List Int) (w : World) (HT : Hid (BitsW w)) (w0 : (a0 = none ∧ len0 = 0 ∧ cap0 = 0 ∧ z0 = []) ∨ ∃ x, a0 = some x ∧ len0 ≤ cap0 ∧ cap0 ≤ maxLen ∧ z0.length = cap0 ∧ (∀ i, i < z0.length → w.cell? (x.add i) = some (.int .i64 (z0.getD i 0))) ∧ ∀ n ∈ z0, (Lit.int .i64 n).wf = true) (y0 : len0 * 8 ≤ 140737488351232) :
  Calls Tryd.prog 6 #[.slice a0 len0 cap0] w fun e w' => e = .returned (.bool true) ∧ Below w.heap.size w w' := by
 obtain ⟨l0, rfl, hr0, hm0, hw0, hc0⟩ := ReadsInt.ofRowC w0
 obtain ⟨k, h⟩ := P l0 hm0 y0 hw0
 refine (wigeonlaw08_PurseParts.calls k _ _ l0 true w HT (Kd.C_of_reads (d := (0 : Int)) (h1 := fun _ => rfl) hr0) hc0 h).mono ?_
 rintro e w' ⟨rfl, hd⟩
 exact ⟨rfl, hd⟩

end Go.Proofs.YtjphklemnhgkiaaDoor.Q
