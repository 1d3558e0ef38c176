-- Written by a program of this session (wip/tools/gprint.py, over the kit's print); Lean checks it.
import Derived.Test.YtjphklemnhgkiaaDoorPuA
import Derived.Test.YtjphklemnhgkiaaDoorQx0
import Derived.Test.YtjphklemnhgkiaaDoorQx2
import Derived.Test.YtjphklemnhgkiaaDoorQx9
import Derived.Test.YtjphklemnhgkiaaDoorQx10
import Derived.Test.YtjphklemnhgkiaaDoorQx11
import Derived.Test.YtjphklemnhgkiaaDoorQx20
namespace Go.Proofs.YtjphklemnhgkiaaDoor.Q
open Go.RowKit Go.Proofs.YtjphklemnhgkiaaDoorW.PrintWords Go.Proofs.YtjphklemnhgkiaaDoorW.PrintLast Go.Proofs.YtjphklemnhgkiaaDoorW.PrintMore
attribute [local go_sem] max2_int min2_int max_two min_two max_three min_three max_four min_four   -- for this text's walks alone
set_option linter.unusedVariables false
set_option linter.unusedSimpArgs false

/-! ### wigeonlaw08_PurseAdds: function 9 -/
mutual
def wigeonlaw08_PurseAdds.j0 : Nat → List Int → List Int → List Int → Int → Bool → Option (Bool)
 | 0, _, _, _, _, _ => none
 | k + 1, x0, x1, x5, x6, x40 => if x40 = true then (none) else (if x6 = 0 then ((purse_Shapley.f k x0).bind fun bt553 => ((purse_Shapley.f k x1).bind fun bt557 => ((purse_Shapley.f k x5).bind fun bt561 => (if bt553.2 = 0 then (if bt557.2 = 0 then (if bt561.2 = 0 then (if (bt553.1.length : Int) = (bt561.1.length : Int) then (wigeonlaw08_PurseAdds.j1 k bt553.1 bt557.1 bt561.1 ((bt557.1.length : Int) != (bt561.1.length : Int))) else (wigeonlaw08_PurseAdds.j1 k bt553.1 bt557.1 bt561.1 true)) else (wigeonlaw08_PurseAdds.j1 k bt553.1 bt557.1 bt561.1 true)) else (wigeonlaw08_PurseAdds.j1 k bt553.1 bt557.1 bt561.1 true)) else (wigeonlaw08_PurseAdds.j1 k bt553.1 bt557.1 bt561.1 true))))) else ((wigeonlaw08_known.f k).bind fun t552 => (some t552)))
def wigeonlaw08_PurseAdds.j1 : Nat → List (S42) → List (S42) → List (S42) → Bool → Option (Bool)
 | 0, _, _, _, _ => none
 | k + 1, x9, x11, x13, x82 => if x82 = true then (none) else (wigeonlaw08_PurseAdds.l0 k x9 x11 x13 0)
def wigeonlaw08_PurseAdds.l0 : Nat → List (S42) → List (S42) → List (S42) → Int → Option (Bool)
 | 0, _, _, _, _ => none
 | k + 1, x9, x11, x13, x15 => if x15 < (x13.length : Int) then (if 0 ≤ x15 then (if x15 < (x9.length : Int) then (if ((rd_T42 x9 x15).f1) < 1 then (wigeonlaw08_PurseAdds.j3 k x9 x11 x13 x15 true) else (if x15 < (x11.length : Int) then (if ((rd_T42 x11 x15).f1) < 1 then (wigeonlaw08_PurseAdds.j3 k x9 x11 x13 x15 true) else (wigeonlaw08_PurseAdds.j3 k x9 x11 x13 x15 (decide (((rd_T42 x13 x15).f1) < 1)))) else (none))) else (none)) else (none)) else ((wigeonlaw08_known.f k).bind fun t565 => (some t565))
def wigeonlaw08_PurseAdds.j3 : Nat → List (S42) → List (S42) → List (S42) → Int → Bool → Option (Bool)
 | 0, _, _, _, _, _ => none
 | k + 1, x9, x11, x13, x15, x110 => if x110 = true then (none) else (if 0 ≤ x15 then (if x15 < (x9.length : Int) then (if ((rd_T42 x9 x15).f1) = 0 then (none) else (if x15 < (x11.length : Int) then (if ((rd_T42 x11 x15).f1) = 0 then (none) else (if x15 < (x13.length : Int) then (if ((rd_T42 x13 x15).f1) = 0 then (none) else (if (wrap64 ((wrap64 (((rd_T42 x9 x15).f0) * (wrap64 ((120 : Int) / ((rd_T42 x9 x15).f1))))) + (wrap64 (((rd_T42 x11 x15).f0) * (wrap64 ((120 : Int) / ((rd_T42 x11 x15).f1))))))) = (wrap64 (((rd_T42 x13 x15).f0) * (wrap64 ((120 : Int) / ((rd_T42 x13 x15).f1))))) then (wigeonlaw08_PurseAdds.l0 k x9 x11 x13 (wrap64 (x15 + 1))) else (none))) else (none))) else (none))) else (none)) else (none))
end
def wigeonlaw08_PurseAdds.f (k : Nat) (l0 : List Int) (l1 : List Int) : Option (Bool) := (wigeonlaw08_long.f l0 l1).bind fun t541 => (if t541 = true then ((wigeonlaw08_known.f k).bind fun t542 => (some t542)) else ((purse_Add.f k l0 l1).bind fun bt543 => ((wigeonref08_Add.f k l0 l1).bind fun bt547 => (if bt543.2 = bt547.2 then ((wigeonref08_SameInts.f k bt543.1 bt547.1).bind fun t551 => (wigeonlaw08_PurseAdds.j0 k l0 l1 bt543.1 bt543.2 (!t551))) else (wigeonlaw08_PurseAdds.j0 k l0 l1 bt543.1 bt543.2 true)))))
theorem wigeonlaw08_PurseAdds.j0.dead {k x0 x1 x2 x3} : wigeonlaw08_PurseAdds.j0 k x0 x1 x2 x3 true = none := by cases k <;> simp [wigeonlaw08_PurseAdds.j0]
theorem wigeonlaw08_PurseAdds.j1.dead {k x0 x1 x2} : wigeonlaw08_PurseAdds.j1 k x0 x1 x2 true = none := by cases k <;> simp [wigeonlaw08_PurseAdds.j1]
theorem wigeonlaw08_PurseAdds.j3.dead {k x0 x1 x2 x3} : wigeonlaw08_PurseAdds.j3 k x0 x1 x2 x3 true = none := by cases k <;> simp [wigeonlaw08_PurseAdds.j3]
theorem wigeonlaw08_PurseAdds.mono_l : ∀ k, (∀ y0 y1 y2 y3 y4, LeO (wigeonlaw08_PurseAdds.j0 k y0 y1 y2 y3 y4) (wigeonlaw08_PurseAdds.j0 (k + 1) y0 y1 y2 y3 y4)) ∧ (∀ y0 y1 y2 y3, LeO (wigeonlaw08_PurseAdds.j1 k y0 y1 y2 y3) (wigeonlaw08_PurseAdds.j1 (k + 1) y0 y1 y2 y3)) ∧ (∀ y0 y1 y2 y3, LeO (wigeonlaw08_PurseAdds.l0 k y0 y1 y2 y3) (wigeonlaw08_PurseAdds.l0 (k + 1) y0 y1 y2 y3)) ∧ (∀ y0 y1 y2 y3 y4, LeO (wigeonlaw08_PurseAdds.j3 k y0 y1 y2 y3 y4) (wigeonlaw08_PurseAdds.j3 (k + 1) y0 y1 y2 y3 y4))
 | 0 => ⟨fun _ _ _ _ _ r h => by simp [wigeonlaw08_PurseAdds.j0] at h, fun _ _ _ _ r h => by simp [wigeonlaw08_PurseAdds.j1] at h, fun _ _ _ _ r h => by simp [wigeonlaw08_PurseAdds.l0] at h, fun _ _ _ _ _ r h => by simp [wigeonlaw08_PurseAdds.j3] at h⟩
 | k + 1 => by
  obtain ⟨ih0, ih1, ih2, ih3⟩ := wigeonlaw08_PurseAdds.mono_l k
  refine ⟨?_, ?_, ?_, ?_⟩
  ·intro y0 y1 y2 y3 y4
   unfold wigeonlaw08_PurseAdds.j0
   repeat' first
   | (with_reducible exact ih0 _ _ _ _ _)
   | (with_reducible exact ih1 _ _ _ _)
   | (with_reducible exact ih2 _ _ _ _)
   | (with_reducible exact ih3 _ _ _ _ _)
   | (with_reducible exact purse_Add.mono _ _ _)
   | (with_reducible exact purse_Shapley.mono _ _)
   | (with_reducible exact wigeonlaw08_known.mono _)
   | (with_reducible exact wigeonref08_Add.mono _ _ _)
   | (with_reducible exact wigeonref08_SameInts.mono _ _ _)
   | (with_reducible exact LeO.refl _)
   | (with_reducible exact LeO.none _)
   | (with_reducible refine LeO.ite ?_ ?_)
   | (with_reducible refine LeO.bind ?_ (fun _ => ?_))
   | exact ih0 _ _ _ _ _
   | exact ih1 _ _ _ _
   | exact ih2 _ _ _ _
   | exact ih3 _ _ _ _ _
   | exact purse_Add.mono _ _ _
   | exact purse_Shapley.mono _ _
   | exact wigeonlaw08_known.mono _
   | exact wigeonref08_Add.mono _ _ _
   | exact wigeonref08_SameInts.mono _ _ _
   | exact LeO.none _
   | refine LeO.ite ?_ ?_
   | refine LeO.bind ?_ (fun _ => ?_)
  ·intro y0 y1 y2 y3
   unfold wigeonlaw08_PurseAdds.j1
   repeat' first
   | (with_reducible exact ih0 _ _ _ _ _)
   | (with_reducible exact ih1 _ _ _ _)
   | (with_reducible exact ih2 _ _ _ _)
   | (with_reducible exact ih3 _ _ _ _ _)
   | (with_reducible exact purse_Add.mono _ _ _)
   | (with_reducible exact purse_Shapley.mono _ _)
   | (with_reducible exact wigeonlaw08_known.mono _)
   | (with_reducible exact wigeonref08_Add.mono _ _ _)
   | (with_reducible exact wigeonref08_SameInts.mono _ _ _)
   | (with_reducible exact LeO.refl _)
   | (with_reducible exact LeO.none _)
   | (with_reducible refine LeO.ite ?_ ?_)
   | (with_reducible refine LeO.bind ?_ (fun _ => ?_))
   | exact ih0 _ _ _ _ _
   | exact ih1 _ _ _ _
   | exact ih2 _ _ _ _
   | exact ih3 _ _ _ _ _
   | exact purse_Add.mono _ _ _
   | exact purse_Shapley.mono _ _
   | exact wigeonlaw08_known.mono _
   | exact wigeonref08_Add.mono _ _ _
   | exact wigeonref08_SameInts.mono _ _ _
   | exact LeO.none _
   | refine LeO.ite ?_ ?_
   | refine LeO.bind ?_ (fun _ => ?_)
  ·intro y0 y1 y2 y3
   unfold wigeonlaw08_PurseAdds.l0
   repeat' first
   | (with_reducible exact ih0 _ _ _ _ _)
   | (with_reducible exact ih1 _ _ _ _)
   | (with_reducible exact ih2 _ _ _ _)
   | (with_reducible exact ih3 _ _ _ _ _)
   | (with_reducible exact purse_Add.mono _ _ _)
   | (with_reducible exact purse_Shapley.mono _ _)
   | (with_reducible exact wigeonlaw08_known.mono _)
   | (with_reducible exact wigeonref08_Add.mono _ _ _)
   | (with_reducible exact wigeonref08_SameInts.mono _ _ _)
   | (with_reducible exact LeO.refl _)
   | (with_reducible exact LeO.none _)
   | (with_reducible refine LeO.ite ?_ ?_)
   | (with_reducible refine LeO.bind ?_ (fun _ => ?_))
   | exact ih0 _ _ _ _ _
   | exact ih1 _ _ _ _
   | exact ih2 _ _ _ _
   | exact ih3 _ _ _ _ _
   | exact purse_Add.mono _ _ _
   | exact purse_Shapley.mono _ _
   | exact wigeonlaw08_known.mono _
   | exact wigeonref08_Add.mono _ _ _
   | exact wigeonref08_SameInts.mono _ _ _
   | exact LeO.none _
   | refine LeO.ite ?_ ?_
   | refine LeO.bind ?_ (fun _ => ?_)
  ·intro y0 y1 y2 y3 y4
   unfold wigeonlaw08_PurseAdds.j3
   repeat' first
   | (with_reducible exact ih0 _ _ _ _ _)
   | (with_reducible exact ih1 _ _ _ _)
   | (with_reducible exact ih2 _ _ _ _)
   | (with_reducible exact ih3 _ _ _ _ _)
   | (with_reducible exact purse_Add.mono _ _ _)
   | (with_reducible exact purse_Shapley.mono _ _)
   | (with_reducible exact wigeonlaw08_known.mono _)
   | (with_reducible exact wigeonref08_Add.mono _ _ _)
   | (with_reducible exact wigeonref08_SameInts.mono _ _ _)
   | (with_reducible exact LeO.refl _)
   | (with_reducible exact LeO.none _)
   | (with_reducible refine LeO.ite ?_ ?_)
   | (with_reducible refine LeO.bind ?_ (fun _ => ?_))
   | exact ih0 _ _ _ _ _
   | exact ih1 _ _ _ _
   | exact ih2 _ _ _ _
   | exact ih3 _ _ _ _ _
   | exact purse_Add.mono _ _ _
   | exact purse_Shapley.mono _ _
   | exact wigeonlaw08_known.mono _
   | exact wigeonref08_Add.mono _ _ _
   | exact wigeonref08_SameInts.mono _ _ _
   | exact LeO.none _
   | refine LeO.ite ?_ ?_
   | refine LeO.bind ?_ (fun _ => ?_)
theorem wigeonlaw08_PurseAdds.mono : ∀ a0 a1 k, LeO (wigeonlaw08_PurseAdds.f k a0 a1) (wigeonlaw08_PurseAdds.f (k + 1) a0 a1) := by
 intro a0 a1 k
 obtain ⟨ih0, ih1, ih2, ih3⟩ := wigeonlaw08_PurseAdds.mono_l k
 unfold wigeonlaw08_PurseAdds.f
 repeat' first
   | (with_reducible exact ih0 _ _ _ _ _)
   | (with_reducible exact ih1 _ _ _ _)
   | (with_reducible exact ih2 _ _ _ _)
   | (with_reducible exact ih3 _ _ _ _ _)
   | (with_reducible exact purse_Add.mono _ _ _)
   | (with_reducible exact purse_Shapley.mono _ _)
   | (with_reducible exact wigeonlaw08_known.mono _)
   | (with_reducible exact wigeonref08_Add.mono _ _ _)
   | (with_reducible exact wigeonref08_SameInts.mono _ _ _)
   | (with_reducible exact LeO.refl _)
   | (with_reducible exact LeO.none _)
   | (with_reducible refine LeO.ite ?_ ?_)
   | (with_reducible refine LeO.bind ?_ (fun _ => ?_))
   | exact ih0 _ _ _ _ _
   | exact ih1 _ _ _ _
   | exact ih2 _ _ _ _
   | exact ih3 _ _ _ _ _
   | exact purse_Add.mono _ _ _
   | exact purse_Shapley.mono _ _
   | exact wigeonlaw08_known.mono _
   | exact wigeonref08_Add.mono _ _ _
   | exact wigeonref08_SameInts.mono _ _ _
   | exact LeO.none _
   | refine LeO.ite ?_ ?_
   | refine LeO.bind ?_ (fun _ => ?_)
set_option maxHeartbeats 8000000 in
set_option maxRecDepth 100000 in
theorem wigeonlaw08_PurseAdds.calls (k : Nat) (A0 : Option Addr) (c0 : Nat) (l0 : List Int) (A1 : Option Addr) (c1 : Nat) (l1 : List Int) (r : Bool) (w : World) (HT : Hid (BitsW w)) (hr0 : Kd.C (Kd.int .i64) w A0 l0.length l0) (hc0 : l0.length ≤ c0) (hr1 : Kd.C (Kd.int .i64) w A1 l1.length l1) (hc1 : l1.length ≤ c1) (h : wigeonlaw08_PurseAdds.f k l0 l1 = some r) :
  Calls Tryd.prog 9 #[.slice A0 l0.length c0, .slice A1 l1.length c1] w fun e w' => e = .returned (.bool r) ∧ Below w.heap.size w w' := by
 have HR0 := Aside0.mk hr0
 have HC0 := Aside0.mk hc0
 clear hr0 hc0
 have HR1 := Aside0.mk hr1
 have HC1 := Aside0.mk hc1
 clear hr1 hc1
 have HB := Aside0.mk (Below.refl w.heap.size w)
 have H : ((wigeonlaw08_long.f l0 l1).bind fun t541 => (if t541 = true then ((wigeonlaw08_known.f k).bind fun t542 => (some t542)) else ((purse_Add.f k l0 l1).bind fun bt543 => ((wigeonref08_Add.f k l0 l1).bind fun bt547 => (if bt543.2 = bt547.2 then ((wigeonref08_SameInts.f k bt543.1 bt547.1).bind fun t551 => (wigeonlaw08_PurseAdds.j0 k l0 l1 bt543.1 bt543.2 (!t551))) else (wigeonlaw08_PurseAdds.j0 k l0 l1 bt543.1 bt543.2 true)))))) = some r := h
 clear h
 replace H := Option.bind_eq_some_iff.mp H
 obtain ⟨t541, A30, H⟩ := H
 replace H : (if t541 = true then ((wigeonlaw08_known.f k).bind fun t542 => (some t542)) else ((purse_Add.f k l0 l1).bind fun bt543 => ((wigeonref08_Add.f k l0 l1).bind fun bt547 => (if bt543.2 = bt547.2 then ((wigeonref08_SameInts.f k bt543.1 bt547.1).bind fun t551 => (wigeonlaw08_PurseAdds.j0 k l0 l1 bt543.1 bt543.2 (!t551))) else (wigeonlaw08_PurseAdds.j0 k l0 l1 bt543.1 bt543.2 true))))) = some r := H
 have A3 := Aside0.mk A30
 clear A30
 by_cases c4 : t541 = true
 ·subst c4
  have H1 : ((wigeonlaw08_known.f k).bind fun t542 => (some t542)) = some r := by rw [if_pos rfl] at H; exact H
  clear H
  have H := H1
  clear H1
  replace H := Option.bind_eq_some_iff.mp H
  obtain ⟨t542, A50, H⟩ := H
  replace H : (some t542) = some r := H
  have A5 := Aside0.mk A50
  clear A50
  obtain rfl := Option.some.inj H
  go_enter Tryd.func9, Tryd.ntmps9
  go_wp2_with (first | (go_at_call 15; (with_reducible refine (wigeonlaw08_long.calls _ _ l0 _ _ l1 true _ ?side1 ?side2 ?side3 ?side4 A3.out).mono ?_); (case side1 => repeat (first | exact HR0.out | (with_reducible refine Kd.C_alloc ?_ _) | (with_reducible refine Kd.C_drewN ?_ _) | (with_reducible refine Kd.C_drew ?_))); (case side2 => exact HC0.out); (case side3 => repeat (first | exact HR1.out | (with_reducible refine Kd.C_alloc ?_ _) | (with_reducible refine Kd.C_drewN ?_ _) | (with_reducible refine Kd.C_drew ?_))); (case side4 => exact HC1.out); rintro e w' ⟨rfl, ⟨nd, rfl⟩⟩; (try first | exact ⟨rfl, _, World.drewN_drewN _ _ _⟩ | exact ⟨rfl, _, Eq.trans (World.drewN_drewN _ _ _) (congrArg (World.drewN _) (Nat.add_assoc _ _ _))⟩)) | (go_at_call 16; (with_reducible refine (wigeonlaw08_known.calls k  t542 _ A5.out).mono ?_); rintro e w6 ⟨rfl, hb⟩; have n0_ := Aside0.mk (below_step (by repeat (first | (with_reducible first | exact HB.out | apply below_alloc | apply pw_below_drewN | apply below_drew1) | exact HB.out)) hb); clear HB; have HB := n0_; clear n0_; (try clear hb); (try clear hb2); (try clear hk); (try clear hi)))
  repeat (go_quiet (first | (go_at_call 15; (with_reducible refine (wigeonlaw08_long.calls _ _ l0 _ _ l1 true _ ?side1 ?side2 ?side3 ?side4 A3.out).mono ?_); (case side1 => repeat (first | exact HR0.out | (with_reducible refine Kd.C_alloc ?_ _) | (with_reducible refine Kd.C_drewN ?_ _) | (with_reducible refine Kd.C_drew ?_))); (case side2 => exact HC0.out); (case side3 => repeat (first | exact HR1.out | (with_reducible refine Kd.C_alloc ?_ _) | (with_reducible refine Kd.C_drewN ?_ _) | (with_reducible refine Kd.C_drew ?_))); (case side4 => exact HC1.out); rintro e w' ⟨rfl, ⟨nd, rfl⟩⟩; (try first | exact ⟨rfl, _, World.drewN_drewN _ _ _⟩ | exact ⟨rfl, _, Eq.trans (World.drewN_drewN _ _ _) (congrArg (World.drewN _) (Nat.add_assoc _ _ _))⟩)) | (go_at_call 16; (with_reducible refine (wigeonlaw08_known.calls k  t542 _ A5.out).mono ?_); rintro e w6 ⟨rfl, hb⟩; have n0_ := Aside0.mk (below_step (by repeat (first | (with_reducible first | exact HB.out | apply below_alloc | apply pw_below_drewN | apply below_drew1) | exact HB.out)) hb); clear HB; have HB := n0_; clear n0_; (try clear hb); (try clear hb2); (try clear hk); (try clear hi))); try go_wp2_with (first | (go_at_call 15; (with_reducible refine (wigeonlaw08_long.calls _ _ l0 _ _ l1 true _ ?side1 ?side2 ?side3 ?side4 A3.out).mono ?_); (case side1 => repeat (first | exact HR0.out | (with_reducible refine Kd.C_alloc ?_ _) | (with_reducible refine Kd.C_drewN ?_ _) | (with_reducible refine Kd.C_drew ?_))); (case side2 => exact HC0.out); (case side3 => repeat (first | exact HR1.out | (with_reducible refine Kd.C_alloc ?_ _) | (with_reducible refine Kd.C_drewN ?_ _) | (with_reducible refine Kd.C_drew ?_))); (case side4 => exact HC1.out); rintro e w' ⟨rfl, ⟨nd, rfl⟩⟩; (try first | exact ⟨rfl, _, World.drewN_drewN _ _ _⟩ | exact ⟨rfl, _, Eq.trans (World.drewN_drewN _ _ _) (congrArg (World.drewN _) (Nat.add_assoc _ _ _))⟩)) | (go_at_call 16; (with_reducible refine (wigeonlaw08_known.calls k  t542 _ A5.out).mono ?_); rintro e w6 ⟨rfl, hb⟩; have n0_ := Aside0.mk (below_step (by repeat (first | (with_reducible first | exact HB.out | apply below_alloc | apply pw_below_drewN | apply below_drew1) | exact HB.out)) hb); clear HB; have HB := n0_; clear n0_; (try clear hb); (try clear hb2); (try clear hk); (try clear hi))))
  go_ret
  exact ⟨by first | rfl | (simp [errW_none, errW_some] <;> rfl) | (simp [*, errW_none, errW_some] <;> rfl), by repeat (first | (with_reducible first | exact HB.out | apply below_alloc | apply pw_below_drewN | apply below_drew1) | exact HB.out)⟩
 ·replace c4 := Bool.eq_false_iff.mpr c4
  subst c4
  have H1 : ((purse_Add.f k l0 l1).bind fun bt543 => ((wigeonref08_Add.f k l0 l1).bind fun bt547 => (if bt543.2 = bt547.2 then ((wigeonref08_SameInts.f k bt543.1 bt547.1).bind fun t551 => (wigeonlaw08_PurseAdds.j0 k l0 l1 bt543.1 bt543.2 (!t551))) else (wigeonlaw08_PurseAdds.j0 k l0 l1 bt543.1 bt543.2 true)))) = some r := by rw [if_neg (show ¬ (false = true) by decide)] at H; exact H
  clear H
  have H := H1
  clear H1
  replace H := Option.bind_eq_some_iff.mp H
  obtain ⟨⟨t543, t544⟩, A70, H⟩ := H
  replace H : ((wigeonref08_Add.f k l0 l1).bind fun bt547 => (if t544 = bt547.2 then ((wigeonref08_SameInts.f k t543 bt547.1).bind fun t551 => (wigeonlaw08_PurseAdds.j0 k l0 l1 t543 t544 (!t551))) else (wigeonlaw08_PurseAdds.j0 k l0 l1 t543 t544 true))) = some r := H
  have A7 := Aside0.mk A70
  clear A70
  replace H := Option.bind_eq_some_iff.mp H
  obtain ⟨⟨t547, t548⟩, A80, H⟩ := H
  replace H : (if t544 = t548 then ((wigeonref08_SameInts.f k t543 t547).bind fun t551 => (wigeonlaw08_PurseAdds.j0 k l0 l1 t543 t544 (!t551))) else (wigeonlaw08_PurseAdds.j0 k l0 l1 t543 t544 true)) = some r := H
  have A8 := Aside0.mk A80
  clear A80
  have HC9 := Aside0.mk H
  clear H
  go_enter Tryd.func9, Tryd.ntmps9
  go_upto_region 5 with (first | (go_at_call 15; (with_reducible refine (wigeonlaw08_long.calls _ _ l0 _ _ l1 false _ ?side1 ?side2 ?side3 ?side4 A3.out).mono ?_); (case side1 => repeat (first | exact HR0.out | (with_reducible refine Kd.C_alloc ?_ _) | (with_reducible refine Kd.C_drewN ?_ _) | (with_reducible refine Kd.C_drew ?_))); (case side2 => exact HC0.out); (case side3 => repeat (first | exact HR1.out | (with_reducible refine Kd.C_alloc ?_ _) | (with_reducible refine Kd.C_drewN ?_ _) | (with_reducible refine Kd.C_drew ?_))); (case side4 => exact HC1.out); rintro e w' ⟨rfl, ⟨nd, rfl⟩⟩; (try first | exact ⟨rfl, _, World.drewN_drewN _ _ _⟩ | exact ⟨rfl, _, Eq.trans (World.drewN_drewN _ _ _) (congrArg (World.drewN _) (Nat.add_assoc _ _ _))⟩)) | (go_at_call 30; (with_reducible refine (purse_Add.calls k _ _ l0 _ _ l1 t543 t544 _ ?side1 ?side2 ?side3 ?side4 A7.out).mono ?_); (case side1 => repeat (first | exact HR0.out | (with_reducible refine Kd.C_alloc ?_ _) | (with_reducible refine Kd.C_drewN ?_ _) | (with_reducible refine Kd.C_drew ?_))); (case side2 => exact HC0.out); (case side3 => repeat (first | exact HR1.out | (with_reducible refine Kd.C_alloc ?_ _) | (with_reducible refine Kd.C_drewN ?_ _) | (with_reducible refine Kd.C_drew ?_))); (case side4 => exact HC1.out); rintro e w10 ⟨v545, rfl, ho0, hb⟩; have n0_ := Aside0.mk (Kd.R_lower ho0 (below_size (by repeat (first | (with_reducible first | exact HB.out | apply below_alloc | apply pw_below_drewN | apply below_drew1) | exact HB.out)))); have n1_ := Aside0.mk (below_step (by repeat (first | (with_reducible first | exact HB.out | apply below_alloc | apply pw_below_drewN | apply below_drew1) | exact HB.out)) hb); clear HB; have HO546 := n0_; have HB := n1_; clear n0_ n1_; (try clear hb); (try clear hb2); (try clear hk); (try clear hi); (try clear ho0)) | (go_at_call 31; (with_reducible refine (wigeonref08_Add.calls k _ _ l0 _ _ l1 t547 t548 _ ?side1 ?side2 ?side3 ?side4 A8.out).mono ?_); (case side1 => repeat (first | exact (Kd.C_below HR0.out HB.out) | (with_reducible refine Kd.C_alloc ?_ _) | (with_reducible refine Kd.C_drewN ?_ _) | (with_reducible refine Kd.C_drew ?_))); (case side2 => exact HC0.out); (case side3 => repeat (first | exact (Kd.C_below HR1.out HB.out) | (with_reducible refine Kd.C_alloc ?_ _) | (with_reducible refine Kd.C_drewN ?_ _) | (with_reducible refine Kd.C_drew ?_))); (case side4 => exact HC1.out); rintro e w11 ⟨v549, rfl, ho0, hb⟩; have n0_ := Aside0.mk (Kd.R_elder' (by (with_reducible repeat (first | apply Kd.R_alloc | apply Kd.R_drewN | apply Kd.R_drew)); exact HO546.out) (Kd.R_base ho0) hb); have n1_ := Aside0.mk (Kd.R_lower (Kd.R_new' ho0 (Kd.R_lt (by (with_reducible repeat (first | apply Kd.R_alloc | apply Kd.R_drewN | apply Kd.R_drew)); exact HO546.out))) (below_size (by repeat (first | (with_reducible first | exact HB.out | apply below_alloc | apply pw_below_drewN | apply below_drew1) | exact HB.out)))); have n2_ := Aside0.mk (below_step (by repeat (first | (with_reducible first | exact HB.out | apply below_alloc | apply pw_below_drewN | apply below_drew1) | exact HB.out)) hb); clear HO546; clear HB; have HO546 := n0_; have HO550 := n1_; have HB := n2_; clear n0_ n1_ n2_; (try clear hb); (try clear hb2); (try clear hk); (try clear hi); (try clear ho0)))
  repeat (go_quiet (first | (go_at_call 15; (with_reducible refine (wigeonlaw08_long.calls _ _ l0 _ _ l1 false _ ?side1 ?side2 ?side3 ?side4 A3.out).mono ?_); (case side1 => repeat (first | exact HR0.out | (with_reducible refine Kd.C_alloc ?_ _) | (with_reducible refine Kd.C_drewN ?_ _) | (with_reducible refine Kd.C_drew ?_))); (case side2 => exact HC0.out); (case side3 => repeat (first | exact HR1.out | (with_reducible refine Kd.C_alloc ?_ _) | (with_reducible refine Kd.C_drewN ?_ _) | (with_reducible refine Kd.C_drew ?_))); (case side4 => exact HC1.out); rintro e w' ⟨rfl, ⟨nd, rfl⟩⟩; (try first | exact ⟨rfl, _, World.drewN_drewN _ _ _⟩ | exact ⟨rfl, _, Eq.trans (World.drewN_drewN _ _ _) (congrArg (World.drewN _) (Nat.add_assoc _ _ _))⟩)) | (go_at_call 30; (with_reducible refine (purse_Add.calls k _ _ l0 _ _ l1 t543 t544 _ ?side1 ?side2 ?side3 ?side4 A7.out).mono ?_); (case side1 => repeat (first | exact HR0.out | (with_reducible refine Kd.C_alloc ?_ _) | (with_reducible refine Kd.C_drewN ?_ _) | (with_reducible refine Kd.C_drew ?_))); (case side2 => exact HC0.out); (case side3 => repeat (first | exact HR1.out | (with_reducible refine Kd.C_alloc ?_ _) | (with_reducible refine Kd.C_drewN ?_ _) | (with_reducible refine Kd.C_drew ?_))); (case side4 => exact HC1.out); rintro e w10 ⟨v545, rfl, ho0, hb⟩; have n0_ := Aside0.mk (Kd.R_lower ho0 (below_size (by repeat (first | (with_reducible first | exact HB.out | apply below_alloc | apply pw_below_drewN | apply below_drew1) | exact HB.out)))); have n1_ := Aside0.mk (below_step (by repeat (first | (with_reducible first | exact HB.out | apply below_alloc | apply pw_below_drewN | apply below_drew1) | exact HB.out)) hb); clear HB; have HO546 := n0_; have HB := n1_; clear n0_ n1_; (try clear hb); (try clear hb2); (try clear hk); (try clear hi); (try clear ho0)) | (go_at_call 31; (with_reducible refine (wigeonref08_Add.calls k _ _ l0 _ _ l1 t547 t548 _ ?side1 ?side2 ?side3 ?side4 A8.out).mono ?_); (case side1 => repeat (first | exact (Kd.C_below HR0.out HB.out) | (with_reducible refine Kd.C_alloc ?_ _) | (with_reducible refine Kd.C_drewN ?_ _) | (with_reducible refine Kd.C_drew ?_))); (case side2 => exact HC0.out); (case side3 => repeat (first | exact (Kd.C_below HR1.out HB.out) | (with_reducible refine Kd.C_alloc ?_ _) | (with_reducible refine Kd.C_drewN ?_ _) | (with_reducible refine Kd.C_drew ?_))); (case side4 => exact HC1.out); rintro e w11 ⟨v549, rfl, ho0, hb⟩; have n0_ := Aside0.mk (Kd.R_elder' (by (with_reducible repeat (first | apply Kd.R_alloc | apply Kd.R_drewN | apply Kd.R_drew)); exact HO546.out) (Kd.R_base ho0) hb); have n1_ := Aside0.mk (Kd.R_lower (Kd.R_new' ho0 (Kd.R_lt (by (with_reducible repeat (first | apply Kd.R_alloc | apply Kd.R_drewN | apply Kd.R_drew)); exact HO546.out))) (below_size (by repeat (first | (with_reducible first | exact HB.out | apply below_alloc | apply pw_below_drewN | apply below_drew1) | exact HB.out)))); have n2_ := Aside0.mk (below_step (by repeat (first | (with_reducible first | exact HB.out | apply below_alloc | apply pw_below_drewN | apply below_drew1) | exact HB.out)) hb); clear HO546; clear HB; have HO546 := n0_; have HO550 := n1_; have HB := n2_; clear n0_ n1_ n2_; (try clear hb); (try clear hb2); (try clear hk); (try clear hi); (try clear ho0))); go_upto_region 5 with (first | (go_at_call 15; (with_reducible refine (wigeonlaw08_long.calls _ _ l0 _ _ l1 false _ ?side1 ?side2 ?side3 ?side4 A3.out).mono ?_); (case side1 => repeat (first | exact HR0.out | (with_reducible refine Kd.C_alloc ?_ _) | (with_reducible refine Kd.C_drewN ?_ _) | (with_reducible refine Kd.C_drew ?_))); (case side2 => exact HC0.out); (case side3 => repeat (first | exact HR1.out | (with_reducible refine Kd.C_alloc ?_ _) | (with_reducible refine Kd.C_drewN ?_ _) | (with_reducible refine Kd.C_drew ?_))); (case side4 => exact HC1.out); rintro e w' ⟨rfl, ⟨nd, rfl⟩⟩; (try first | exact ⟨rfl, _, World.drewN_drewN _ _ _⟩ | exact ⟨rfl, _, Eq.trans (World.drewN_drewN _ _ _) (congrArg (World.drewN _) (Nat.add_assoc _ _ _))⟩)) | (go_at_call 30; (with_reducible refine (purse_Add.calls k _ _ l0 _ _ l1 t543 t544 _ ?side1 ?side2 ?side3 ?side4 A7.out).mono ?_); (case side1 => repeat (first | exact HR0.out | (with_reducible refine Kd.C_alloc ?_ _) | (with_reducible refine Kd.C_drewN ?_ _) | (with_reducible refine Kd.C_drew ?_))); (case side2 => exact HC0.out); (case side3 => repeat (first | exact HR1.out | (with_reducible refine Kd.C_alloc ?_ _) | (with_reducible refine Kd.C_drewN ?_ _) | (with_reducible refine Kd.C_drew ?_))); (case side4 => exact HC1.out); rintro e w10 ⟨v545, rfl, ho0, hb⟩; have n0_ := Aside0.mk (Kd.R_lower ho0 (below_size (by repeat (first | (with_reducible first | exact HB.out | apply below_alloc | apply pw_below_drewN | apply below_drew1) | exact HB.out)))); have n1_ := Aside0.mk (below_step (by repeat (first | (with_reducible first | exact HB.out | apply below_alloc | apply pw_below_drewN | apply below_drew1) | exact HB.out)) hb); clear HB; have HO546 := n0_; have HB := n1_; clear n0_ n1_; (try clear hb); (try clear hb2); (try clear hk); (try clear hi); (try clear ho0)) | (go_at_call 31; (with_reducible refine (wigeonref08_Add.calls k _ _ l0 _ _ l1 t547 t548 _ ?side1 ?side2 ?side3 ?side4 A8.out).mono ?_); (case side1 => repeat (first | exact (Kd.C_below HR0.out HB.out) | (with_reducible refine Kd.C_alloc ?_ _) | (with_reducible refine Kd.C_drewN ?_ _) | (with_reducible refine Kd.C_drew ?_))); (case side2 => exact HC0.out); (case side3 => repeat (first | exact (Kd.C_below HR1.out HB.out) | (with_reducible refine Kd.C_alloc ?_ _) | (with_reducible refine Kd.C_drewN ?_ _) | (with_reducible refine Kd.C_drew ?_))); (case side4 => exact HC1.out); rintro e w11 ⟨v549, rfl, ho0, hb⟩; have n0_ := Aside0.mk (Kd.R_elder' (by (with_reducible repeat (first | apply Kd.R_alloc | apply Kd.R_drewN | apply Kd.R_drew)); exact HO546.out) (Kd.R_base ho0) hb); have n1_ := Aside0.mk (Kd.R_lower (Kd.R_new' ho0 (Kd.R_lt (by (with_reducible repeat (first | apply Kd.R_alloc | apply Kd.R_drewN | apply Kd.R_drew)); exact HO546.out))) (below_size (by repeat (first | (with_reducible first | exact HB.out | apply below_alloc | apply pw_below_drewN | apply below_drew1) | exact HB.out)))); have n2_ := Aside0.mk (below_step (by repeat (first | (with_reducible first | exact HB.out | apply below_alloc | apply pw_below_drewN | apply below_drew1) | exact HB.out)) hb); clear HO546; clear HB; have HO546 := n0_; have HO550 := n1_; have HB := n2_; clear n0_ n1_ n2_; (try clear hb); (try clear hb2); (try clear hk); (try clear hi); (try clear ho0))))
  (try simp only [Act.put, List.setIfInBounds_toArray, List.set_cons_zero, List.set_cons_succ])
  go_cut [40] (fun v40 wc => ∃ (kq : Nat) (x40_8 : Bool), v40 = .bool x40_8 ∧ Aside0 (wigeonlaw08_PurseAdds.j0 kq l0 l1 t543 t544 x40_8 = some r) ∧ Aside0 (kq ≤ k) ∧ Aside0 (Kd.R (Kd.int .i64) 3 wc w.heap.size (fun _ => True) v545 t543) ∧ Aside0 (Below w.heap.size w wc))
  case first =>
   have H := HC9.out
   clear HC9
   by_cases c12 : t544 = t548
   ·rw [if_pos c12] at H
    have c12b0 : (t544 == t548) = true := beq_iff_eq.mpr c12
    have c12b1 : (t544 != t548) = false := bne_eq_false_iff_eq.mpr c12
    clear c12
    (first | rw [c12b0] | (simp only [i64_w, i32_w]; rw [c12b0]) | skip)
    replace H := Option.bind_eq_some_iff.mp H
    obtain ⟨t551, A130, H⟩ := H
    replace H : (wigeonlaw08_PurseAdds.j0 k l0 l1 t543 t544 (!t551)) = some r := H
    have A13 := Aside0.mk A130
    clear A130
    have H' := Aside0.mk H
    clear H
    obtain ⟨Ao14, co14, eo14⟩ := Kd.R_slice HO546.out
    subst eo14
    obtain ⟨Ao15, co15, eo15⟩ := Kd.R_slice HO550.out
    subst eo15
    go_wp2_with (first | (go_at_call 32; (with_reducible refine (wigeonref08_SameInts.calls k _ _ t543 _ _ t547 t551 _ ?side1 ?side2 ?side3 ?side4 A13.out).mono ?_); (case side1 => repeat (first | exact (Kd.R_reads' HO546.out).2.2 | (with_reducible refine Kd.C_alloc ?_ _) | (with_reducible refine Kd.C_drewN ?_ _) | (with_reducible refine Kd.C_drew ?_))); (case side2 => exact (Kd.R_reads' HO546.out).2.1); (case side3 => repeat (first | exact (Kd.R_reads' HO550.out).2.2 | (with_reducible refine Kd.C_alloc ?_ _) | (with_reducible refine Kd.C_drewN ?_ _) | (with_reducible refine Kd.C_drew ?_))); (case side4 => exact (Kd.R_reads' HO550.out).2.1); rintro e w' ⟨rfl, ⟨nd, rfl⟩⟩; (try first | exact ⟨rfl, _, World.drewN_drewN _ _ _⟩ | exact ⟨rfl, _, Eq.trans (World.drewN_drewN _ _ _) (congrArg (World.drewN _) (Nat.add_assoc _ _ _))⟩)))
    repeat (go_quiet (first | (go_at_call 32; (with_reducible refine (wigeonref08_SameInts.calls k _ _ t543 _ _ t547 t551 _ ?side1 ?side2 ?side3 ?side4 A13.out).mono ?_); (case side1 => repeat (first | exact (Kd.R_reads' HO546.out).2.2 | (with_reducible refine Kd.C_alloc ?_ _) | (with_reducible refine Kd.C_drewN ?_ _) | (with_reducible refine Kd.C_drew ?_))); (case side2 => exact (Kd.R_reads' HO546.out).2.1); (case side3 => repeat (first | exact (Kd.R_reads' HO550.out).2.2 | (with_reducible refine Kd.C_alloc ?_ _) | (with_reducible refine Kd.C_drewN ?_ _) | (with_reducible refine Kd.C_drew ?_))); (case side4 => exact (Kd.R_reads' HO550.out).2.1); rintro e w' ⟨rfl, ⟨nd, rfl⟩⟩; (try first | exact ⟨rfl, _, World.drewN_drewN _ _ _⟩ | exact ⟨rfl, _, Eq.trans (World.drewN_drewN _ _ _) (congrArg (World.drewN _) (Nat.add_assoc _ _ _))⟩))); try go_wp2_with (first | (go_at_call 32; (with_reducible refine (wigeonref08_SameInts.calls k _ _ t543 _ _ t547 t551 _ ?side1 ?side2 ?side3 ?side4 A13.out).mono ?_); (case side1 => repeat (first | exact (Kd.R_reads' HO546.out).2.2 | (with_reducible refine Kd.C_alloc ?_ _) | (with_reducible refine Kd.C_drewN ?_ _) | (with_reducible refine Kd.C_drew ?_))); (case side2 => exact (Kd.R_reads' HO546.out).2.1); (case side3 => repeat (first | exact (Kd.R_reads' HO550.out).2.2 | (with_reducible refine Kd.C_alloc ?_ _) | (with_reducible refine Kd.C_drewN ?_ _) | (with_reducible refine Kd.C_drew ?_))); (case side4 => exact (Kd.R_reads' HO550.out).2.1); rintro e w' ⟨rfl, ⟨nd, rfl⟩⟩; (try first | exact ⟨rfl, _, World.drewN_drewN _ _ _⟩ | exact ⟨rfl, _, Eq.trans (World.drewN_drewN _ _ _) (congrArg (World.drewN _) (Nat.add_assoc _ _ _))⟩))))
    go_meet
    case rel => exact ⟨_, (!t551), (by first | rfl | (simp only [i64_w]; done) | (simp; done) | (simp [*]; done)), H', ⟨by first | omega | exact Nat.le_refl _⟩, ⟨by (with_reducible repeat (first | apply Kd.R_alloc | apply Kd.R_drewN | apply Kd.R_drew)); exact Kd.R_mono HO546.out (fun _ hk => trivial)⟩, ⟨by repeat (first | (with_reducible first | exact HB.out | apply below_alloc | apply pw_below_drewN | apply below_drew1) | exact HB.out)⟩⟩
   ·rw [if_neg c12] at H
    exact absurd H (by rw [wigeonlaw08_PurseAdds.j0.dead]; simp)
  case rest =>
   clear HC9
   try clear c1
   try clear p2
   try clear c4
   try clear c9
   try clear c12
   try clear c12b0
   try clear c12b1
   obtain ⟨kq, x40_8, rfl, HA, HJ8, HO_5, HB⟩ := hcut
   cases kq with
   | zero => exact absurd HA.out (by simp [wigeonlaw08_PurseAdds.j0])
   | succ kj8 =>
    have H := HA.out
    clear HA
    simp only [wigeonlaw08_PurseAdds.j0] at H
    by_cases c16 : x40_8 = true
    ·subst c16
     have H1 : (none) = some r := by rw [if_pos rfl] at H; exact H
     exact absurd H1 (by simp)
    ·replace c16 := Bool.eq_false_iff.mpr c16
     subst c16
     have H1 : (if t544 = 0 then ((purse_Shapley.f kj8 l0).bind fun bt553 => ((purse_Shapley.f kj8 l1).bind fun bt557 => ((purse_Shapley.f kj8 t543).bind fun bt561 => (if bt553.2 = 0 then (if bt557.2 = 0 then (if bt561.2 = 0 then (if (bt553.1.length : Int) = (bt561.1.length : Int) then (wigeonlaw08_PurseAdds.j1 kj8 bt553.1 bt557.1 bt561.1 ((bt557.1.length : Int) != (bt561.1.length : Int))) else (wigeonlaw08_PurseAdds.j1 kj8 bt553.1 bt557.1 bt561.1 true)) else (wigeonlaw08_PurseAdds.j1 kj8 bt553.1 bt557.1 bt561.1 true)) else (wigeonlaw08_PurseAdds.j1 kj8 bt553.1 bt557.1 bt561.1 true)) else (wigeonlaw08_PurseAdds.j1 kj8 bt553.1 bt557.1 bt561.1 true))))) else ((wigeonlaw08_known.f kj8).bind fun t552 => (some t552))) = some r := by rw [if_neg (show ¬ (false = true) by decide)] at H; exact H
     clear H
     have H := H1
     clear H1
     by_cases c17 : t544 = 0
     ·rw [if_pos c17] at H
      have c17b0 : (t544 == 0) = true := beq_iff_eq.mpr c17
      have c17b1 : (t544 != 0) = false := bne_eq_false_iff_eq.mpr c17
      clear c17
      replace H := Option.bind_eq_some_iff.mp H
      obtain ⟨⟨t553, t554⟩, A180, H⟩ := H
      replace H : ((purse_Shapley.f kj8 l1).bind fun bt557 => ((purse_Shapley.f kj8 t543).bind fun bt561 => (if t554 = 0 then (if bt557.2 = 0 then (if bt561.2 = 0 then (if (t553.length : Int) = (bt561.1.length : Int) then (wigeonlaw08_PurseAdds.j1 kj8 t553 bt557.1 bt561.1 ((bt557.1.length : Int) != (bt561.1.length : Int))) else (wigeonlaw08_PurseAdds.j1 kj8 t553 bt557.1 bt561.1 true)) else (wigeonlaw08_PurseAdds.j1 kj8 t553 bt557.1 bt561.1 true)) else (wigeonlaw08_PurseAdds.j1 kj8 t553 bt557.1 bt561.1 true)) else (wigeonlaw08_PurseAdds.j1 kj8 t553 bt557.1 bt561.1 true)))) = some r := H
      have A18 := Aside0.mk A180
      clear A180
      replace H := Option.bind_eq_some_iff.mp H
      obtain ⟨⟨t557, t558⟩, A190, H⟩ := H
      replace H : ((purse_Shapley.f kj8 t543).bind fun bt561 => (if t554 = 0 then (if t558 = 0 then (if bt561.2 = 0 then (if (t553.length : Int) = (bt561.1.length : Int) then (wigeonlaw08_PurseAdds.j1 kj8 t553 t557 bt561.1 ((t557.length : Int) != (bt561.1.length : Int))) else (wigeonlaw08_PurseAdds.j1 kj8 t553 t557 bt561.1 true)) else (wigeonlaw08_PurseAdds.j1 kj8 t553 t557 bt561.1 true)) else (wigeonlaw08_PurseAdds.j1 kj8 t553 t557 bt561.1 true)) else (wigeonlaw08_PurseAdds.j1 kj8 t553 t557 bt561.1 true))) = some r := H
      have A19 := Aside0.mk A190
      clear A190
      replace H := Option.bind_eq_some_iff.mp H
      obtain ⟨⟨t561, t562⟩, A200, H⟩ := H
      replace H : (if t554 = 0 then (if t558 = 0 then (if t562 = 0 then (if (t553.length : Int) = (t561.length : Int) then (wigeonlaw08_PurseAdds.j1 kj8 t553 t557 t561 ((t557.length : Int) != (t561.length : Int))) else (wigeonlaw08_PurseAdds.j1 kj8 t553 t557 t561 true)) else (wigeonlaw08_PurseAdds.j1 kj8 t553 t557 t561 true)) else (wigeonlaw08_PurseAdds.j1 kj8 t553 t557 t561 true)) else (wigeonlaw08_PurseAdds.j1 kj8 t553 t557 t561 true)) = some r := H
      have A20 := Aside0.mk A200
      clear A200
      have HC21 := Aside0.mk H
      clear H
      go_upto_region 12 with (first | (go_at_call 21; (with_reducible refine (purse_Shapley.calls kj8 _ _ l0 t553 t554 _ ?side1 ?side2 A18.out).mono ?_); (case side1 => repeat (first | exact (Kd.C_below HR0.out HB.out) | (with_reducible refine Kd.C_alloc ?_ _) | (with_reducible refine Kd.C_drewN ?_ _) | (with_reducible refine Kd.C_drew ?_))); (case side2 => exact HC0.out); rintro e w22 ⟨v555, rfl, ho0, hb⟩; have n0_ := Aside0.mk (Kd.R_below (by (with_reducible repeat (first | apply Kd.R_alloc | apply Kd.R_drewN | apply Kd.R_drew)); exact HO_5.out) hb); have n1_ := Aside0.mk (Kd.R_lower ho0 (below_size (by repeat (first | (with_reducible first | exact HB.out | apply below_alloc | apply pw_below_drewN | apply below_drew1) | exact HB.out)))); have n2_ := Aside0.mk (below_step (by repeat (first | (with_reducible first | exact HB.out | apply below_alloc | apply pw_below_drewN | apply below_drew1) | exact HB.out)) hb); clear HO_5; clear HB; have HO_5 := n0_; have HO556 := n1_; have HB := n2_; clear n0_ n1_ n2_; (try clear hb); (try clear hb2); (try clear hk); (try clear hi); (try clear ho0)) | (go_at_call 21; (with_reducible refine (purse_Shapley.calls kj8 _ _ l1 t557 t558 _ ?side1 ?side2 A19.out).mono ?_); (case side1 => repeat (first | exact (Kd.C_below HR1.out HB.out) | (with_reducible refine Kd.C_alloc ?_ _) | (with_reducible refine Kd.C_drewN ?_ _) | (with_reducible refine Kd.C_drew ?_))); (case side2 => exact HC1.out); rintro e w23 ⟨v559, rfl, ho0, hb⟩; have n0_ := Aside0.mk (Kd.R_below (by (with_reducible repeat (first | apply Kd.R_alloc | apply Kd.R_drewN | apply Kd.R_drew)); exact HO_5.out) hb); have n1_ := Aside0.mk (Kd.R_elder' (by (with_reducible repeat (first | apply Kd.R_alloc | apply Kd.R_drewN | apply Kd.R_drew)); exact HO556.out) (Kd.R_base ho0) hb); have n2_ := Aside0.mk (Kd.R_lower (Kd.R_new' ho0 (Kd.R_lt (by (with_reducible repeat (first | apply Kd.R_alloc | apply Kd.R_drewN | apply Kd.R_drew)); exact HO556.out))) (below_size (by repeat (first | (with_reducible first | exact HB.out | apply below_alloc | apply pw_below_drewN | apply below_drew1) | exact HB.out)))); have n3_ := Aside0.mk (below_step (by repeat (first | (with_reducible first | exact HB.out | apply below_alloc | apply pw_below_drewN | apply below_drew1) | exact HB.out)) hb); clear HO_5; clear HO556; clear HB; have HO_5 := n0_; have HO556 := n1_; have HO560 := n2_; have HB := n3_; clear n0_ n1_ n2_ n3_; (try clear hb); (try clear hb2); (try clear hk); (try clear hi); (try clear ho0); obtain ⟨Ao24, co24, eo24⟩ := Kd.R_slice HO_5.out; subst eo24) | (go_at_call 21; (with_reducible refine (purse_Shapley.calls kj8 _ _ t543 t561 t562 _ ?side1 ?side2 A20.out).mono ?_); (case side1 => repeat (first | exact (Kd.R_reads' HO_5.out).2.2 | (with_reducible refine Kd.C_alloc ?_ _) | (with_reducible refine Kd.C_drewN ?_ _) | (with_reducible refine Kd.C_drew ?_))); (case side2 => exact (Kd.R_reads' HO_5.out).2.1); rintro e w25 ⟨v563, rfl, ho0, hb⟩; have n0_ := Aside0.mk (Kd.R_below (by (with_reducible repeat (first | apply Kd.R_alloc | apply Kd.R_drewN | apply Kd.R_drew)); exact HO_5.out) hb); have n1_ := Aside0.mk (Kd.R_elder' (by (with_reducible repeat (first | apply Kd.R_alloc | apply Kd.R_drewN | apply Kd.R_drew)); exact HO556.out) (Kd.R_base ho0) hb); have n2_ := Aside0.mk (Kd.R_elder' (by (with_reducible repeat (first | apply Kd.R_alloc | apply Kd.R_drewN | apply Kd.R_drew)); exact HO560.out) (Kd.R_base ho0) hb); have n3_ := Aside0.mk (Kd.R_lower (Kd.R_new' (Kd.R_new' ho0 (Kd.R_lt (by (with_reducible repeat (first | apply Kd.R_alloc | apply Kd.R_drewN | apply Kd.R_drew)); exact HO556.out))) (Kd.R_lt (by (with_reducible repeat (first | apply Kd.R_alloc | apply Kd.R_drewN | apply Kd.R_drew)); exact HO560.out))) (below_size (by repeat (first | (with_reducible first | exact HB.out | apply below_alloc | apply pw_below_drewN | apply below_drew1) | exact HB.out)))); have n4_ := Aside0.mk (below_step (by repeat (first | (with_reducible first | exact HB.out | apply below_alloc | apply pw_below_drewN | apply below_drew1) | exact HB.out)) hb); clear HO_5; clear HO556; clear HO560; clear HB; have HO_5 := n0_; have HO556 := n1_; have HO560 := n2_; have HO564 := n3_; have HB := n4_; clear n0_ n1_ n2_ n3_ n4_; (try clear hb); (try clear hb2); (try clear hk); (try clear hi); (try clear ho0)))
      repeat (go_quiet (first | (go_at_call 21; (with_reducible refine (purse_Shapley.calls kj8 _ _ l0 t553 t554 _ ?side1 ?side2 A18.out).mono ?_); (case side1 => repeat (first | exact (Kd.C_below HR0.out HB.out) | (with_reducible refine Kd.C_alloc ?_ _) | (with_reducible refine Kd.C_drewN ?_ _) | (with_reducible refine Kd.C_drew ?_))); (case side2 => exact HC0.out); rintro e w22 ⟨v555, rfl, ho0, hb⟩; have n0_ := Aside0.mk (Kd.R_below (by (with_reducible repeat (first | apply Kd.R_alloc | apply Kd.R_drewN | apply Kd.R_drew)); exact HO_5.out) hb); have n1_ := Aside0.mk (Kd.R_lower ho0 (below_size (by repeat (first | (with_reducible first | exact HB.out | apply below_alloc | apply pw_below_drewN | apply below_drew1) | exact HB.out)))); have n2_ := Aside0.mk (below_step (by repeat (first | (with_reducible first | exact HB.out | apply below_alloc | apply pw_below_drewN | apply below_drew1) | exact HB.out)) hb); clear HO_5; clear HB; have HO_5 := n0_; have HO556 := n1_; have HB := n2_; clear n0_ n1_ n2_; (try clear hb); (try clear hb2); (try clear hk); (try clear hi); (try clear ho0)) | (go_at_call 21; (with_reducible refine (purse_Shapley.calls kj8 _ _ l1 t557 t558 _ ?side1 ?side2 A19.out).mono ?_); (case side1 => repeat (first | exact (Kd.C_below HR1.out HB.out) | (with_reducible refine Kd.C_alloc ?_ _) | (with_reducible refine Kd.C_drewN ?_ _) | (with_reducible refine Kd.C_drew ?_))); (case side2 => exact HC1.out); rintro e w23 ⟨v559, rfl, ho0, hb⟩; have n0_ := Aside0.mk (Kd.R_below (by (with_reducible repeat (first | apply Kd.R_alloc | apply Kd.R_drewN | apply Kd.R_drew)); exact HO_5.out) hb); have n1_ := Aside0.mk (Kd.R_elder' (by (with_reducible repeat (first | apply Kd.R_alloc | apply Kd.R_drewN | apply Kd.R_drew)); exact HO556.out) (Kd.R_base ho0) hb); have n2_ := Aside0.mk (Kd.R_lower (Kd.R_new' ho0 (Kd.R_lt (by (with_reducible repeat (first | apply Kd.R_alloc | apply Kd.R_drewN | apply Kd.R_drew)); exact HO556.out))) (below_size (by repeat (first | (with_reducible first | exact HB.out | apply below_alloc | apply pw_below_drewN | apply below_drew1) | exact HB.out)))); have n3_ := Aside0.mk (below_step (by repeat (first | (with_reducible first | exact HB.out | apply below_alloc | apply pw_below_drewN | apply below_drew1) | exact HB.out)) hb); clear HO_5; clear HO556; clear HB; have HO_5 := n0_; have HO556 := n1_; have HO560 := n2_; have HB := n3_; clear n0_ n1_ n2_ n3_; (try clear hb); (try clear hb2); (try clear hk); (try clear hi); (try clear ho0); obtain ⟨Ao24, co24, eo24⟩ := Kd.R_slice HO_5.out; subst eo24) | (go_at_call 21; (with_reducible refine (purse_Shapley.calls kj8 _ _ t543 t561 t562 _ ?side1 ?side2 A20.out).mono ?_); (case side1 => repeat (first | exact (Kd.R_reads' HO_5.out).2.2 | (with_reducible refine Kd.C_alloc ?_ _) | (with_reducible refine Kd.C_drewN ?_ _) | (with_reducible refine Kd.C_drew ?_))); (case side2 => exact (Kd.R_reads' HO_5.out).2.1); rintro e w25 ⟨v563, rfl, ho0, hb⟩; have n0_ := Aside0.mk (Kd.R_below (by (with_reducible repeat (first | apply Kd.R_alloc | apply Kd.R_drewN | apply Kd.R_drew)); exact HO_5.out) hb); have n1_ := Aside0.mk (Kd.R_elder' (by (with_reducible repeat (first | apply Kd.R_alloc | apply Kd.R_drewN | apply Kd.R_drew)); exact HO556.out) (Kd.R_base ho0) hb); have n2_ := Aside0.mk (Kd.R_elder' (by (with_reducible repeat (first | apply Kd.R_alloc | apply Kd.R_drewN | apply Kd.R_drew)); exact HO560.out) (Kd.R_base ho0) hb); have n3_ := Aside0.mk (Kd.R_lower (Kd.R_new' (Kd.R_new' ho0 (Kd.R_lt (by (with_reducible repeat (first | apply Kd.R_alloc | apply Kd.R_drewN | apply Kd.R_drew)); exact HO556.out))) (Kd.R_lt (by (with_reducible repeat (first | apply Kd.R_alloc | apply Kd.R_drewN | apply Kd.R_drew)); exact HO560.out))) (below_size (by repeat (first | (with_reducible first | exact HB.out | apply below_alloc | apply pw_below_drewN | apply below_drew1) | exact HB.out)))); have n4_ := Aside0.mk (below_step (by repeat (first | (with_reducible first | exact HB.out | apply below_alloc | apply pw_below_drewN | apply below_drew1) | exact HB.out)) hb); clear HO_5; clear HO556; clear HO560; clear HB; have HO_5 := n0_; have HO556 := n1_; have HO560 := n2_; have HO564 := n3_; have HB := n4_; clear n0_ n1_ n2_ n3_ n4_; (try clear hb); (try clear hb2); (try clear hk); (try clear hi); (try clear ho0))); go_upto_region 12 with (first | (go_at_call 21; (with_reducible refine (purse_Shapley.calls kj8 _ _ l0 t553 t554 _ ?side1 ?side2 A18.out).mono ?_); (case side1 => repeat (first | exact (Kd.C_below HR0.out HB.out) | (with_reducible refine Kd.C_alloc ?_ _) | (with_reducible refine Kd.C_drewN ?_ _) | (with_reducible refine Kd.C_drew ?_))); (case side2 => exact HC0.out); rintro e w22 ⟨v555, rfl, ho0, hb⟩; have n0_ := Aside0.mk (Kd.R_below (by (with_reducible repeat (first | apply Kd.R_alloc | apply Kd.R_drewN | apply Kd.R_drew)); exact HO_5.out) hb); have n1_ := Aside0.mk (Kd.R_lower ho0 (below_size (by repeat (first | (with_reducible first | exact HB.out | apply below_alloc | apply pw_below_drewN | apply below_drew1) | exact HB.out)))); have n2_ := Aside0.mk (below_step (by repeat (first | (with_reducible first | exact HB.out | apply below_alloc | apply pw_below_drewN | apply below_drew1) | exact HB.out)) hb); clear HO_5; clear HB; have HO_5 := n0_; have HO556 := n1_; have HB := n2_; clear n0_ n1_ n2_; (try clear hb); (try clear hb2); (try clear hk); (try clear hi); (try clear ho0)) | (go_at_call 21; (with_reducible refine (purse_Shapley.calls kj8 _ _ l1 t557 t558 _ ?side1 ?side2 A19.out).mono ?_); (case side1 => repeat (first | exact (Kd.C_below HR1.out HB.out) | (with_reducible refine Kd.C_alloc ?_ _) | (with_reducible refine Kd.C_drewN ?_ _) | (with_reducible refine Kd.C_drew ?_))); (case side2 => exact HC1.out); rintro e w23 ⟨v559, rfl, ho0, hb⟩; have n0_ := Aside0.mk (Kd.R_below (by (with_reducible repeat (first | apply Kd.R_alloc | apply Kd.R_drewN | apply Kd.R_drew)); exact HO_5.out) hb); have n1_ := Aside0.mk (Kd.R_elder' (by (with_reducible repeat (first | apply Kd.R_alloc | apply Kd.R_drewN | apply Kd.R_drew)); exact HO556.out) (Kd.R_base ho0) hb); have n2_ := Aside0.mk (Kd.R_lower (Kd.R_new' ho0 (Kd.R_lt (by (with_reducible repeat (first | apply Kd.R_alloc | apply Kd.R_drewN | apply Kd.R_drew)); exact HO556.out))) (below_size (by repeat (first | (with_reducible first | exact HB.out | apply below_alloc | apply pw_below_drewN | apply below_drew1) | exact HB.out)))); have n3_ := Aside0.mk (below_step (by repeat (first | (with_reducible first | exact HB.out | apply below_alloc | apply pw_below_drewN | apply below_drew1) | exact HB.out)) hb); clear HO_5; clear HO556; clear HB; have HO_5 := n0_; have HO556 := n1_; have HO560 := n2_; have HB := n3_; clear n0_ n1_ n2_ n3_; (try clear hb); (try clear hb2); (try clear hk); (try clear hi); (try clear ho0); obtain ⟨Ao24, co24, eo24⟩ := Kd.R_slice HO_5.out; subst eo24) | (go_at_call 21; (with_reducible refine (purse_Shapley.calls kj8 _ _ t543 t561 t562 _ ?side1 ?side2 A20.out).mono ?_); (case side1 => repeat (first | exact (Kd.R_reads' HO_5.out).2.2 | (with_reducible refine Kd.C_alloc ?_ _) | (with_reducible refine Kd.C_drewN ?_ _) | (with_reducible refine Kd.C_drew ?_))); (case side2 => exact (Kd.R_reads' HO_5.out).2.1); rintro e w25 ⟨v563, rfl, ho0, hb⟩; have n0_ := Aside0.mk (Kd.R_below (by (with_reducible repeat (first | apply Kd.R_alloc | apply Kd.R_drewN | apply Kd.R_drew)); exact HO_5.out) hb); have n1_ := Aside0.mk (Kd.R_elder' (by (with_reducible repeat (first | apply Kd.R_alloc | apply Kd.R_drewN | apply Kd.R_drew)); exact HO556.out) (Kd.R_base ho0) hb); have n2_ := Aside0.mk (Kd.R_elder' (by (with_reducible repeat (first | apply Kd.R_alloc | apply Kd.R_drewN | apply Kd.R_drew)); exact HO560.out) (Kd.R_base ho0) hb); have n3_ := Aside0.mk (Kd.R_lower (Kd.R_new' (Kd.R_new' ho0 (Kd.R_lt (by (with_reducible repeat (first | apply Kd.R_alloc | apply Kd.R_drewN | apply Kd.R_drew)); exact HO556.out))) (Kd.R_lt (by (with_reducible repeat (first | apply Kd.R_alloc | apply Kd.R_drewN | apply Kd.R_drew)); exact HO560.out))) (below_size (by repeat (first | (with_reducible first | exact HB.out | apply below_alloc | apply pw_below_drewN | apply below_drew1) | exact HB.out)))); have n4_ := Aside0.mk (below_step (by repeat (first | (with_reducible first | exact HB.out | apply below_alloc | apply pw_below_drewN | apply below_drew1) | exact HB.out)) hb); clear HO_5; clear HO556; clear HO560; clear HB; have HO_5 := n0_; have HO556 := n1_; have HO560 := n2_; have HO564 := n3_; have HB := n4_; clear n0_ n1_ n2_ n3_ n4_; (try clear hb); (try clear hb2); (try clear hk); (try clear hi); (try clear ho0))))
      (try simp only [Act.put, List.setIfInBounds_toArray, List.set_cons_zero, List.set_cons_succ])
      go_cut [82] (fun v82 wc => ∃ (kq : Nat) (x82_20 : Bool), v82 = .bool x82_20 ∧ Aside0 (wigeonlaw08_PurseAdds.j1 kq t553 t557 t561 x82_20 = some r) ∧ Aside0 (kq ≤ kj8) ∧ Aside0 (Kd.R k42 42 wc w.heap.size (fun k_ => some k_ ≠ (v559 : Value).ownBlock ∧ some k_ ≠ (v563 : Value).ownBlock) v555 t553) ∧ Aside0 (Kd.R k42 42 wc w.heap.size (fun k_ => some k_ ≠ (v555 : Value).ownBlock ∧ some k_ ≠ (v563 : Value).ownBlock) v559 t557) ∧ Aside0 (Kd.R k42 42 wc w.heap.size (fun k_ => some k_ ≠ (v555 : Value).ownBlock ∧ some k_ ≠ (v559 : Value).ownBlock) v563 t561) ∧ Aside0 (Below w.heap.size w wc))
      case first =>
       have H := HC21.out
       clear HC21
       by_cases c26 : t554 = 0
       ·rw [if_pos c26] at H
        have c26b0 : (t554 == 0) = true := beq_iff_eq.mpr c26
        have c26b1 : (t554 != 0) = false := bne_eq_false_iff_eq.mpr c26
        clear c26
        (first | rw [c26b0] | (simp only [i64_w, i32_w]; rw [c26b0]) | skip)
        by_cases c27 : t558 = 0
        ·rw [if_pos c27] at H
         have c27b0 : (t558 == 0) = true := beq_iff_eq.mpr c27
         have c27b1 : (t558 != 0) = false := bne_eq_false_iff_eq.mpr c27
         clear c27
         by_cases c28 : t562 = 0
         ·rw [if_pos c28] at H
          have c28b0 : (t562 == 0) = true := beq_iff_eq.mpr c28
          have c28b1 : (t562 != 0) = false := bne_eq_false_iff_eq.mpr c28
          clear c28
          by_cases c29 : (t553.length : Int) = (t561.length : Int)
          ·rw [if_pos c29] at H
           have c29b0 : ((t553.length : Int) == (t561.length : Int)) = true := beq_iff_eq.mpr c29
           have c29b1 : ((t553.length : Int) != (t561.length : Int)) = false := bne_eq_false_iff_eq.mpr c29
           have c29b2 : (t553.length == t561.length) = true := by first | simpa using c29 | (simp at c29 ⊢; omega)
           clear c29
           have H' := Aside0.mk H
           clear H
           obtain ⟨Ao30, co30, eo30⟩ := Kd.R_slice HO556.out
           subst eo30
           obtain ⟨Ao31, co31, eo31⟩ := Kd.R_slice HO564.out
           subst eo31
           obtain ⟨Ao32, co32, eo32⟩ := Kd.R_slice HO560.out
           subst eo32
           go_wp2
           repeat (go_quiet (fail); try go_wp2)
           go_meet
           case rel => exact ⟨_, (((t557.length : Int) != (t561.length : Int))), (by first | rfl | (simp only [i64_w]; done) | (simp; done) | (simp [*]; done)), H', ⟨by have := HJ8.out; first | omega | exact Nat.le_refl _⟩, ⟨by (with_reducible repeat (first | apply Kd.R_alloc | apply Kd.R_drewN | apply Kd.R_drew)); exact Kd.R_mono HO556.out (fun _ hk => ⟨hk.1.2, hk.2⟩)⟩, ⟨by (with_reducible repeat (first | apply Kd.R_alloc | apply Kd.R_drewN | apply Kd.R_drew)); exact Kd.R_mono HO560.out (fun _ hk => ⟨hk.1.2, hk.2⟩)⟩, ⟨by (with_reducible repeat (first | apply Kd.R_alloc | apply Kd.R_drewN | apply Kd.R_drew)); exact Kd.R_mono HO564.out (fun _ hk => ⟨hk.1.2, hk.2⟩)⟩, ⟨by repeat (first | (with_reducible first | exact HB.out | apply below_alloc | apply pw_below_drewN | apply below_drew1) | exact HB.out)⟩⟩
          ·rw [if_neg c29] at H
           exact absurd H (by rw [wigeonlaw08_PurseAdds.j1.dead]; simp)
         ·rw [if_neg c28] at H
          exact absurd H (by rw [wigeonlaw08_PurseAdds.j1.dead]; simp)
        ·rw [if_neg c27] at H
         exact absurd H (by rw [wigeonlaw08_PurseAdds.j1.dead]; simp)
       ·rw [if_neg c26] at H
        exact absurd H (by rw [wigeonlaw08_PurseAdds.j1.dead]; simp)
      case rest =>
       clear HC21
       try clear c1
       try clear c2
       try clear p2
       try clear c4
       try clear c9
       try clear c12
       try clear c12b0
       try clear c12b1
       try clear c16
       try clear c17
       try clear c17b0
       try clear c17b1
       try clear c26
       try clear c26b0
       try clear c26b1
       try clear c27
       try clear c27b0
       try clear c27b1
       try clear c28
       try clear c28b0
       try clear c28b1
       try clear c29
       try clear c29b0
       try clear c29b1
       try clear c29b2
       try clear p2
       obtain ⟨kq, x82_20, rfl, HA, HJ20, HO_9, HO_11, HO_13, HB⟩ := hcut
       cases kq with
       | zero => exact absurd HA.out (by simp [wigeonlaw08_PurseAdds.j1])
       | succ kj20 =>
        have H := HA.out
        clear HA
        simp only [wigeonlaw08_PurseAdds.j1] at H
        by_cases c35 : x82_20 = true
        ·subst c35
         have H1 : (none) = some r := by rw [if_pos rfl] at H; exact H
         exact absurd H1 (by simp)
        ·replace c35 := Bool.eq_false_iff.mpr c35
         subst c35
         have H1 : (wigeonlaw08_PurseAdds.l0 kj20 t553 t557 t561 0) = some r := by rw [if_neg (show ¬ (false = true) by decide)] at H; exact H
         clear H
         have H := H1
         clear H1
         have H' := Aside0.mk H
         clear H
         go_wp2
         repeat (go_quiet (fail); try go_wp2)
         go_loopg [15] kj20 (fun kq v15 w' => ∃ (x15_3 : Int), v15 = .int .i64 x15_3 ∧ Aside0 (wigeonlaw08_PurseAdds.l0 kq t553 t557 t561 x15_3 = some r) ∧ Aside0 (kq ≤ kj20) ∧ Aside0 (Kd.R k42 42 w' w.heap.size (fun k_ => some k_ ≠ (v559 : Value).ownBlock ∧ some k_ ≠ (v563 : Value).ownBlock) v555 t553) ∧ Aside0 (Kd.R k42 42 w' w.heap.size (fun k_ => some k_ ≠ (v555 : Value).ownBlock ∧ some k_ ≠ (v563 : Value).ownBlock) v559 t557) ∧ Aside0 (Kd.R k42 42 w' w.heap.size (fun k_ => some k_ ≠ (v555 : Value).ownBlock ∧ some k_ ≠ (v559 : Value).ownBlock) v563 t561) ∧ Aside0 (Below w.heap.size w w'))
         case atStart => exact ⟨(0), (by first | rfl | (simp only [i64_w]; done) | (simp; done) | (simp [*]; done)), H', ⟨Nat.le_refl _⟩, ⟨by (with_reducible repeat (first | apply Kd.R_alloc | apply Kd.R_drewN | apply Kd.R_drew)); exact HO_9.out⟩, ⟨by (with_reducible repeat (first | apply Kd.R_alloc | apply Kd.R_drewN | apply Kd.R_drew)); exact HO_11.out⟩, ⟨by (with_reducible repeat (first | apply Kd.R_alloc | apply Kd.R_drewN | apply Kd.R_drew)); exact HO_13.out⟩, ⟨by repeat (first | (with_reducible first | exact HB.out | apply below_alloc | apply pw_below_drewN | apply below_drew1) | exact HB.out)⟩⟩
         case round =>
          clear H'
          try clear c1
          try clear c2
          try clear p2
          try clear c3
          try clear c4
          try clear c9
          try clear c12
          try clear c12b0
          try clear c12b1
          try clear c16
          try clear c17
          try clear c17b0
          try clear c17b1
          try clear c26
          try clear c26b0
          try clear c26b1
          try clear c27
          try clear c27b0
          try clear c27b1
          try clear c28
          try clear c28b0
          try clear c28b1
          try clear c29
          try clear c29b0
          try clear c29b1
          try clear c29b2
          try clear c35
          try clear p2
          obtain ⟨x15_3, rfl, HA, HK3, HO_9, HO_11, HO_13, HB⟩ := hrel
          cases gk with
          | zero => exact absurd HA.out (by simp [wigeonlaw08_PurseAdds.l0])
          | succ k3 =>
           have H := HA.out
           clear HA
           simp only [wigeonlaw08_PurseAdds.l0] at H
           by_cases c36 : x15_3 < (t561.length : Int)
           ·rw [if_pos c36] at H
            have c36b0 : decide (x15_3 < (t561.length : Int)) = true := decide_eq_true c36
            clear c36
            have HC37 := Aside0.mk H
            clear H
            obtain ⟨Ao38, co38, eo38⟩ := Kd.R_slice HO_13.out
            subst eo38
            go_upto_region 17 with (fail)
            repeat (go_quiet (fail); go_upto_region 17 with (fail))
            go_cut [110] (fun v110 wc => ∃ (kq : Nat) (x110_36 : Bool), v110 = .bool x110_36 ∧ Aside0 (wigeonlaw08_PurseAdds.j3 kq t553 t557 t561 x15_3 x110_36 = some r) ∧ Aside0 (kq ≤ k3) ∧ Aside0 (Kd.R k42 42 wc w.heap.size (fun k_ => some k_ ≠ (v559 : Value).ownBlock ∧ some k_ ≠ ((.slice Ao38 t561.length co38) : Value).ownBlock) v555 t553) ∧ Aside0 (Kd.R k42 42 wc w.heap.size (fun k_ => some k_ ≠ (v555 : Value).ownBlock ∧ some k_ ≠ ((.slice Ao38 t561.length co38) : Value).ownBlock) v559 t557) ∧ Aside0 (Kd.R k42 42 wc w.heap.size (fun k_ => some k_ ≠ (v555 : Value).ownBlock ∧ some k_ ≠ (v559 : Value).ownBlock) (.slice Ao38 t561.length co38) t561) ∧ Aside0 (Below w.heap.size w wc))
            case first =>
             have H := HC37.out
             clear HC37
             by_cases c39 : 0 ≤ x15_3
             ·rw [if_pos c39] at H
              have c39b0 : decide (0 ≤ x15_3) = true := decide_eq_true c39
              clear c39
              (first | rw [c39b0] | (simp only [i64_w, i32_w]; rw [c39b0]) | skip)
              by_cases c40 : x15_3 < (t553.length : Int)
              ·rw [if_pos c40] at H
               have c40b0 : decide (x15_3 < (t553.length : Int)) = true := decide_eq_true c40
               clear c40
               by_cases c41 : ((rd_T42 t553 x15_3).f1) < 1
               ·rw [if_pos c41] at H
                exact absurd H (by rw [wigeonlaw08_PurseAdds.j3.dead]; simp)
               ·rw [if_neg c41] at H
                have c41b0 : decide (((rd_T42 t553 x15_3).f1) < 1) = false := decide_eq_false c41
                clear c41
                by_cases c43 : x15_3 < (t557.length : Int)
                ·rw [if_pos c43] at H
                 have c43b0 : decide (x15_3 < (t557.length : Int)) = true := decide_eq_true c43
                 clear c43
                 by_cases c44 : ((rd_T42 t557 x15_3).f1) < 1
                 ·rw [if_pos c44] at H
                  exact absurd H (by rw [wigeonlaw08_PurseAdds.j3.dead]; simp)
                 ·rw [if_neg c44] at H
                  have c44b0 : decide (((rd_T42 t557 x15_3).f1) < 1) = false := decide_eq_false c44
                  clear c44
                  have H' := Aside0.mk H
                  clear H
                  obtain ⟨Ao47, co47, eo47⟩ := Kd.R_slice HO_9.out
                  subst eo47
                  have p566 : 0 ≤ (x15_3 : Int) := of_decide_eq_true (by first | (with_reducible assumption) | assumption)
                  have q566 : x15_3 < (t553.length : Int) := of_decide_eq_true (by first | (with_reducible assumption) | assumption)
                  obtain ⟨ad566, e566, hx566_0, hx566_1⟩ := at_T42 (Kd.R_reads' HO_9.out).2.2 x15_3 p566 q566
                  cases e566
                  replace p566 := eq_true p566
                  replace q566 := eq_true q566
                  obtain ⟨Ao48, co48, eo48⟩ := Kd.R_slice HO_11.out
                  subst eo48
                  have p567 : 0 ≤ (x15_3 : Int) := of_decide_eq_true (by first | (with_reducible assumption) | assumption)
                  have q567 : x15_3 < (t557.length : Int) := of_decide_eq_true (by first | (with_reducible assumption) | assumption)
                  obtain ⟨ad567, e567, hx567_0, hx567_1⟩ := at_T42 (Kd.R_reads' HO_11.out).2.2 x15_3 p567 q567
                  cases e567
                  replace p567 := eq_true p567
                  replace q567 := eq_true q567
                  have p568 : 0 ≤ (x15_3 : Int) := of_decide_eq_true (by first | (with_reducible assumption) | assumption)
                  have q568 : x15_3 < (t561.length : Int) := of_decide_eq_true (by first | (with_reducible assumption) | assumption)
                  obtain ⟨ad568, e568, hx568_0, hx568_1⟩ := at_T42 (Kd.R_reads' HO_13.out).2.2 x15_3 p568 q568
                  cases e568
                  replace p568 := eq_true p568
                  replace q568 := eq_true q568
                  go_wp2
                  repeat (go_quiet (fail); try go_wp2)
                  go_meet
                  case rel => exact ⟨_, (decide (((rd_T42 t561 x15_3).f1) < 1)), (by first | rfl | (simp only [i64_w]; done) | (simp; done) | (simp [*]; done)), H', ⟨by have := HJ8.out; have := HJ20.out; have := HK3.out; first | omega | exact Nat.le_refl _⟩, ⟨by (with_reducible repeat (first | apply Kd.R_alloc | apply Kd.R_drewN | apply Kd.R_drew)); exact HO_9.out⟩, ⟨by (with_reducible repeat (first | apply Kd.R_alloc | apply Kd.R_drewN | apply Kd.R_drew)); exact HO_11.out⟩, ⟨by (with_reducible repeat (first | apply Kd.R_alloc | apply Kd.R_drewN | apply Kd.R_drew)); exact HO_13.out⟩, ⟨by repeat (first | (with_reducible first | exact HB.out | apply below_alloc | apply pw_below_drewN | apply below_drew1) | exact HB.out)⟩⟩
                ·rw [if_neg c43] at H
                 exact absurd H (by simp)
              ·rw [if_neg c40] at H
               exact absurd H (by simp)
             ·rw [if_neg c39] at H
              exact absurd H (by simp)
            case rest =>
             clear HC37
             try clear c1
             try clear c2
             try clear p2
             try clear c3
             try clear c4
             try clear p5
             try clear q5
             try clear hx5
             try clear c9
             try clear c12
             try clear c12b0
             try clear c12b1
             try clear c16
             try clear c17
             try clear c17b0
             try clear c17b1
             try clear c26
             try clear c26b0
             try clear c26b1
             try clear c27
             try clear c27b0
             try clear c27b1
             try clear c28
             try clear c28b0
             try clear c28b1
             try clear c29
             try clear c29b0
             try clear c29b1
             try clear c29b2
             try clear c35
             try clear c36
             try clear c36b0
             try clear c39
             try clear c39b0
             try clear c40
             try clear c40b0
             try clear c41
             try clear c41b0
             try clear c43
             try clear c43b0
             try clear c44
             try clear c44b0
             try clear hx566_0
             try clear hx566_1
             try clear hx567_0
             try clear hx567_1
             try clear hx568_0
             try clear hx568_1
             try clear p2
             try clear p566
             try clear p567
             try clear p568
             try clear q566
             try clear q567
             try clear q568
             obtain ⟨kq, x110_36, rfl, HA, HJ36, HO_9, HO_11, HO_13, HB⟩ := hcut
             cases kq with
             | zero => exact absurd HA.out (by simp [wigeonlaw08_PurseAdds.j3])
             | succ kj36 =>
              have H := HA.out
              clear HA
              simp only [wigeonlaw08_PurseAdds.j3] at H
              by_cases c49 : x110_36 = true
              ·subst c49
               have H1 : (none) = some r := by rw [if_pos rfl] at H; exact H
               exact absurd H1 (by simp)
              ·replace c49 := Bool.eq_false_iff.mpr c49
               subst c49
               have H1 : (if 0 ≤ x15_3 then (if x15_3 < (t553.length : Int) then (if ((rd_T42 t553 x15_3).f1) = 0 then (none) else (if x15_3 < (t557.length : Int) then (if ((rd_T42 t557 x15_3).f1) = 0 then (none) else (if x15_3 < (t561.length : Int) then (if ((rd_T42 t561 x15_3).f1) = 0 then (none) else (if (wrap64 ((wrap64 (((rd_T42 t553 x15_3).f0) * (wrap64 ((120 : Int) / ((rd_T42 t553 x15_3).f1))))) + (wrap64 (((rd_T42 t557 x15_3).f0) * (wrap64 ((120 : Int) / ((rd_T42 t557 x15_3).f1))))))) = (wrap64 (((rd_T42 t561 x15_3).f0) * (wrap64 ((120 : Int) / ((rd_T42 t561 x15_3).f1))))) then (wigeonlaw08_PurseAdds.l0 kj36 t553 t557 t561 (wrap64 (x15_3 + 1))) else (none))) else (none))) else (none))) else (none)) else (none)) = some r := by rw [if_neg (show ¬ (false = true) by decide)] at H; exact H
               clear H
               have H := H1
               clear H1
               by_cases c50 : 0 ≤ x15_3
               ·rw [if_pos c50] at H
                have c50b0 : decide (0 ≤ x15_3) = true := decide_eq_true c50
                clear c50
                by_cases c51 : x15_3 < (t553.length : Int)
                ·rw [if_pos c51] at H
                 have c51b0 : decide (x15_3 < (t553.length : Int)) = true := decide_eq_true c51
                 clear c51
                 by_cases c52 : ((rd_T42 t553 x15_3).f1) = 0
                 ·rw [if_pos c52] at H
                  exact absurd H (by simp)
                 ·rw [if_neg c52] at H
                  have c52b0 : (((rd_T42 t553 x15_3).f1) == 0) = false := beq_eq_false_iff_ne.mpr c52
                  have c52b1 : (((rd_T42 t553 x15_3).f1) != 0) = true := bne_iff_ne.mpr c52
                  by_cases c53 : x15_3 < (t557.length : Int)
                  ·rw [if_pos c53] at H
                   have c53b0 : decide (x15_3 < (t557.length : Int)) = true := decide_eq_true c53
                   clear c53
                   by_cases c54 : ((rd_T42 t557 x15_3).f1) = 0
                   ·rw [if_pos c54] at H
                    exact absurd H (by simp)
                   ·rw [if_neg c54] at H
                    have c54b0 : (((rd_T42 t557 x15_3).f1) == 0) = false := beq_eq_false_iff_ne.mpr c54
                    have c54b1 : (((rd_T42 t557 x15_3).f1) != 0) = true := bne_iff_ne.mpr c54
                    by_cases c55 : x15_3 < (t561.length : Int)
                    ·rw [if_pos c55] at H
                     have c55b0 : decide (x15_3 < (t561.length : Int)) = true := decide_eq_true c55
                     clear c55
                     by_cases c56 : ((rd_T42 t561 x15_3).f1) = 0
                     ·rw [if_pos c56] at H
                      exact absurd H (by simp)
                     ·rw [if_neg c56] at H
                      have c56b0 : (((rd_T42 t561 x15_3).f1) == 0) = false := beq_eq_false_iff_ne.mpr c56
                      have c56b1 : (((rd_T42 t561 x15_3).f1) != 0) = true := bne_iff_ne.mpr c56
                      by_cases c57 : (wrap64 ((wrap64 (((rd_T42 t553 x15_3).f0) * (wrap64 ((120 : Int) / ((rd_T42 t553 x15_3).f1))))) + (wrap64 (((rd_T42 t557 x15_3).f0) * (wrap64 ((120 : Int) / ((rd_T42 t557 x15_3).f1))))))) = (wrap64 (((rd_T42 t561 x15_3).f0) * (wrap64 ((120 : Int) / ((rd_T42 t561 x15_3).f1)))))
                      ·rw [if_pos c57] at H
                       have c57b0 : ((wrap64 ((wrap64 (((rd_T42 t553 x15_3).f0) * (wrap64 ((120 : Int) / ((rd_T42 t553 x15_3).f1))))) + (wrap64 (((rd_T42 t557 x15_3).f0) * (wrap64 ((120 : Int) / ((rd_T42 t557 x15_3).f1))))))) == (wrap64 (((rd_T42 t561 x15_3).f0) * (wrap64 ((120 : Int) / ((rd_T42 t561 x15_3).f1)))))) = true := beq_iff_eq.mpr c57
                       have c57b0v := c57b0
                       simp only [← Int.tdiv_eq_ediv_of_nonneg (show (0 : Int) ≤ 120 by decide)] at c57b0v
                       have c57b0w := c57b0v
                       simp only [← i64_w] at c57b0w
                       have c57b1 : ((wrap64 ((wrap64 (((rd_T42 t553 x15_3).f0) * (wrap64 ((120 : Int) / ((rd_T42 t553 x15_3).f1))))) + (wrap64 (((rd_T42 t557 x15_3).f0) * (wrap64 ((120 : Int) / ((rd_T42 t557 x15_3).f1))))))) != (wrap64 (((rd_T42 t561 x15_3).f0) * (wrap64 ((120 : Int) / ((rd_T42 t561 x15_3).f1)))))) = false := bne_eq_false_iff_eq.mpr c57
                       have c57b1v := c57b1
                       simp only [← Int.tdiv_eq_ediv_of_nonneg (show (0 : Int) ≤ 120 by decide)] at c57b1v
                       have c57b1w := c57b1v
                       simp only [← i64_w] at c57b1w
                       clear c57
                       have H' := Aside0.mk H
                       clear H
                       obtain ⟨Ao58, co58, eo58⟩ := Kd.R_slice HO_9.out
                       subst eo58
                       have p569 : 0 ≤ (x15_3 : Int) := of_decide_eq_true (by first | (with_reducible assumption) | assumption)
                       have q569 : x15_3 < (t553.length : Int) := of_decide_eq_true (by first | (with_reducible assumption) | assumption)
                       obtain ⟨ad569, e569, hx569_0, hx569_1⟩ := at_T42 (Kd.R_reads' HO_9.out).2.2 x15_3 p569 q569
                       cases e569
                       replace p569 := eq_true p569
                       replace q569 := eq_true q569
                       have p570 : 0 ≤ (x15_3 : Int) := of_decide_eq_true (by first | (with_reducible assumption) | assumption)
                       have q570 : x15_3 < (t553.length : Int) := of_decide_eq_true (by first | (with_reducible assumption) | assumption)
                       obtain ⟨ad570, e570, hx570_0, hx570_1⟩ := at_T42 (Kd.R_reads' HO_9.out).2.2 x15_3 p570 q570
                       obtain rfl : ad569 = ad570 := (by injection e570)
                       replace p570 := eq_true p570
                       replace q570 := eq_true q570
                       obtain ⟨Ao59, co59, eo59⟩ := Kd.R_slice HO_11.out
                       subst eo59
                       have p571 : 0 ≤ (x15_3 : Int) := of_decide_eq_true (by first | (with_reducible assumption) | assumption)
                       have q571 : x15_3 < (t557.length : Int) := of_decide_eq_true (by first | (with_reducible assumption) | assumption)
                       obtain ⟨ad571, e571, hx571_0, hx571_1⟩ := at_T42 (Kd.R_reads' HO_11.out).2.2 x15_3 p571 q571
                       cases e571
                       replace p571 := eq_true p571
                       replace q571 := eq_true q571
                       have p572 : 0 ≤ (x15_3 : Int) := of_decide_eq_true (by first | (with_reducible assumption) | assumption)
                       have q572 : x15_3 < (t557.length : Int) := of_decide_eq_true (by first | (with_reducible assumption) | assumption)
                       obtain ⟨ad572, e572, hx572_0, hx572_1⟩ := at_T42 (Kd.R_reads' HO_11.out).2.2 x15_3 p572 q572
                       obtain rfl : ad571 = ad572 := (by injection e572)
                       replace p572 := eq_true p572
                       replace q572 := eq_true q572
                       have p573 : 0 ≤ (x15_3 : Int) := of_decide_eq_true (by first | (with_reducible assumption) | assumption)
                       have q573 : x15_3 < (t561.length : Int) := of_decide_eq_true (by first | (with_reducible assumption) | assumption)
                       obtain ⟨ad573, e573, hx573_0, hx573_1⟩ := at_T42 (Kd.R_reads' HO_13.out).2.2 x15_3 p573 q573
                       cases e573
                       replace p573 := eq_true p573
                       replace q573 := eq_true q573
                       have p574 : 0 ≤ (x15_3 : Int) := of_decide_eq_true (by first | (with_reducible assumption) | assumption)
                       have q574 : x15_3 < (t561.length : Int) := of_decide_eq_true (by first | (with_reducible assumption) | assumption)
                       obtain ⟨ad574, e574, hx574_0, hx574_1⟩ := at_T42 (Kd.R_reads' HO_13.out).2.2 x15_3 p574 q574
                       obtain rfl : ad573 = ad574 := (by injection e574)
                       replace p574 := eq_true p574
                       replace q574 := eq_true q574
                       go_wp2
                       repeat (go_quiet (fail); try go_wp2)
                       go_roundg kj36
                       case measure => have := HJ8.out; have := HJ20.out; have := HK3.out; have := HJ36.out; omega
                       case rel => exact ⟨(wrap64 (x15_3 + 1)), (by first | rfl | (simp only [i64_w]; done) | (simp; done) | (simp [*]; done)), H', ⟨by have := HJ8.out; have := HJ20.out; have := HK3.out; have := HJ36.out; omega⟩, ⟨by (with_reducible repeat (first | apply Kd.R_alloc | apply Kd.R_drewN | apply Kd.R_drew)); exact HO_9.out⟩, ⟨by (with_reducible repeat (first | apply Kd.R_alloc | apply Kd.R_drewN | apply Kd.R_drew)); exact HO_11.out⟩, ⟨by (with_reducible repeat (first | apply Kd.R_alloc | apply Kd.R_drewN | apply Kd.R_drew)); exact HO_13.out⟩, ⟨by repeat (first | (with_reducible first | exact HB.out | apply below_alloc | apply pw_below_drewN | apply below_drew1) | exact HB.out)⟩⟩
                      ·rw [if_neg c57] at H
                       exact absurd H (by simp)
                    ·rw [if_neg c55] at H
                     exact absurd H (by simp)
                  ·rw [if_neg c53] at H
                   exact absurd H (by simp)
                ·rw [if_neg c51] at H
                 exact absurd H (by simp)
               ·rw [if_neg c50] at H
                exact absurd H (by simp)
           ·rw [if_neg c36] at H
            have c36b0 : decide (x15_3 < (t561.length : Int)) = false := decide_eq_false c36
            clear c36
            replace H := Option.bind_eq_some_iff.mp H
            obtain ⟨t565, A620, H⟩ := H
            replace H : (some t565) = some r := H
            have A62 := Aside0.mk A620
            clear A620
            obtain rfl := Option.some.inj H
            obtain ⟨Ao63, co63, eo63⟩ := Kd.R_slice HO_13.out
            subst eo63
            go_wp2_with (first | (go_at_call 16; (with_reducible refine (wigeonlaw08_known.calls k3  t565 _ A62.out).mono ?_); rintro e w64 ⟨rfl, hb⟩; have n0_ := Aside0.mk (Kd.R_below (by (with_reducible repeat (first | apply Kd.R_alloc | apply Kd.R_drewN | apply Kd.R_drew)); exact HO_9.out) hb); have n1_ := Aside0.mk (Kd.R_below (by (with_reducible repeat (first | apply Kd.R_alloc | apply Kd.R_drewN | apply Kd.R_drew)); exact HO_11.out) hb); have n2_ := Aside0.mk (Kd.R_below (by (with_reducible repeat (first | apply Kd.R_alloc | apply Kd.R_drewN | apply Kd.R_drew)); exact HO_13.out) hb); have n3_ := Aside0.mk (below_step (by repeat (first | (with_reducible first | exact HB.out | apply below_alloc | apply pw_below_drewN | apply below_drew1) | exact HB.out)) hb); clear HO_9; clear HO_11; clear HO_13; clear HB; have HO_9 := n0_; have HO_11 := n1_; have HO_13 := n2_; have HB := n3_; clear n0_ n1_ n2_ n3_; (try clear hb); (try clear hb2); (try clear hk); (try clear hi)))
            repeat (go_quiet (first | (go_at_call 16; (with_reducible refine (wigeonlaw08_known.calls k3  t565 _ A62.out).mono ?_); rintro e w64 ⟨rfl, hb⟩; have n0_ := Aside0.mk (Kd.R_below (by (with_reducible repeat (first | apply Kd.R_alloc | apply Kd.R_drewN | apply Kd.R_drew)); exact HO_9.out) hb); have n1_ := Aside0.mk (Kd.R_below (by (with_reducible repeat (first | apply Kd.R_alloc | apply Kd.R_drewN | apply Kd.R_drew)); exact HO_11.out) hb); have n2_ := Aside0.mk (Kd.R_below (by (with_reducible repeat (first | apply Kd.R_alloc | apply Kd.R_drewN | apply Kd.R_drew)); exact HO_13.out) hb); have n3_ := Aside0.mk (below_step (by repeat (first | (with_reducible first | exact HB.out | apply below_alloc | apply pw_below_drewN | apply below_drew1) | exact HB.out)) hb); clear HO_9; clear HO_11; clear HO_13; clear HB; have HO_9 := n0_; have HO_11 := n1_; have HO_13 := n2_; have HB := n3_; clear n0_ n1_ n2_ n3_; (try clear hb); (try clear hb2); (try clear hk); (try clear hi))); try go_wp2_with (first | (go_at_call 16; (with_reducible refine (wigeonlaw08_known.calls k3  t565 _ A62.out).mono ?_); rintro e w64 ⟨rfl, hb⟩; have n0_ := Aside0.mk (Kd.R_below (by (with_reducible repeat (first | apply Kd.R_alloc | apply Kd.R_drewN | apply Kd.R_drew)); exact HO_9.out) hb); have n1_ := Aside0.mk (Kd.R_below (by (with_reducible repeat (first | apply Kd.R_alloc | apply Kd.R_drewN | apply Kd.R_drew)); exact HO_11.out) hb); have n2_ := Aside0.mk (Kd.R_below (by (with_reducible repeat (first | apply Kd.R_alloc | apply Kd.R_drewN | apply Kd.R_drew)); exact HO_13.out) hb); have n3_ := Aside0.mk (below_step (by repeat (first | (with_reducible first | exact HB.out | apply below_alloc | apply pw_below_drewN | apply below_drew1) | exact HB.out)) hb); clear HO_9; clear HO_11; clear HO_13; clear HB; have HO_9 := n0_; have HO_11 := n1_; have HO_13 := n2_; have HB := n3_; clear n0_ n1_ n2_ n3_; (try clear hb); (try clear hb2); (try clear hk); (try clear hi))))
            go_ret
            exact ⟨by first | rfl | (simp [errW_none, errW_some] <;> rfl) | (simp [*, errW_none, errW_some] <;> rfl), by repeat (first | (with_reducible first | exact HB.out | apply below_alloc | apply pw_below_drewN | apply below_drew1) | exact HB.out)⟩
     ·rw [if_neg c17] at H
      have c17b0 : (t544 == 0) = false := beq_eq_false_iff_ne.mpr c17
      have c17b1 : (t544 != 0) = true := bne_iff_ne.mpr c17
      replace H := Option.bind_eq_some_iff.mp H
      obtain ⟨t552, A650, H⟩ := H
      replace H : (some t552) = some r := H
      have A65 := Aside0.mk A650
      clear A650
      obtain rfl := Option.some.inj H
      go_wp2_with (first | (go_at_call 16; (with_reducible refine (wigeonlaw08_known.calls kj8  t552 _ A65.out).mono ?_); rintro e w66 ⟨rfl, hb⟩; have n0_ := Aside0.mk (Kd.R_below (by (with_reducible repeat (first | apply Kd.R_alloc | apply Kd.R_drewN | apply Kd.R_drew)); exact HO_5.out) hb); have n1_ := Aside0.mk (below_step (by repeat (first | (with_reducible first | exact HB.out | apply below_alloc | apply pw_below_drewN | apply below_drew1) | exact HB.out)) hb); clear HO_5; clear HB; have HO_5 := n0_; have HB := n1_; clear n0_ n1_; (try clear hb); (try clear hb2); (try clear hk); (try clear hi)))
      repeat (go_quiet (first | (go_at_call 16; (with_reducible refine (wigeonlaw08_known.calls kj8  t552 _ A65.out).mono ?_); rintro e w66 ⟨rfl, hb⟩; have n0_ := Aside0.mk (Kd.R_below (by (with_reducible repeat (first | apply Kd.R_alloc | apply Kd.R_drewN | apply Kd.R_drew)); exact HO_5.out) hb); have n1_ := Aside0.mk (below_step (by repeat (first | (with_reducible first | exact HB.out | apply below_alloc | apply pw_below_drewN | apply below_drew1) | exact HB.out)) hb); clear HO_5; clear HB; have HO_5 := n0_; have HB := n1_; clear n0_ n1_; (try clear hb); (try clear hb2); (try clear hk); (try clear hi))); try go_wp2_with (first | (go_at_call 16; (with_reducible refine (wigeonlaw08_known.calls kj8  t552 _ A65.out).mono ?_); rintro e w66 ⟨rfl, hb⟩; have n0_ := Aside0.mk (Kd.R_below (by (with_reducible repeat (first | apply Kd.R_alloc | apply Kd.R_drewN | apply Kd.R_drew)); exact HO_5.out) hb); have n1_ := Aside0.mk (below_step (by repeat (first | (with_reducible first | exact HB.out | apply below_alloc | apply pw_below_drewN | apply below_drew1) | exact HB.out)) hb); clear HO_5; clear HB; have HO_5 := n0_; have HB := n1_; clear n0_ n1_; (try clear hb); (try clear hb2); (try clear hk); (try clear hi))))
      go_ret
      exact ⟨by first | rfl | (simp [errW_none, errW_some] <;> rfl) | (simp [*, errW_none, errW_some] <;> rfl), by repeat (first | (with_reducible first | exact HB.out | apply below_alloc | apply pw_below_drewN | apply below_drew1) | exact HB.out)⟩

/-- THE ONE PURE STATEMENT of wigeonlaw08_PurseAdds: yours. -/
def wigeonlaw08_PurseAdds.Pure : Prop := ∀ (l0 : List Int) (l1 : List Int), l0.length ≤ maxLen → l0.length * 8 ≤ 140737488351232 → (∀ x ∈ l0, (Lit.int .i64 x).wf = true) → l1.length ≤ maxLen → l1.length * 8 ≤ 140737488351232 → (∀ x ∈ l1, (Lit.int .i64 x).wf = true) → ∃ k, wigeonlaw08_PurseAdds.f k l0 l1 = some true
theorem wigeonlaw08_PurseAdds.walk (P : wigeonlaw08_PurseAdds.Pure) (a0 : Option Addr) (len0 cap0 : Nat) (z0 : List Int) (a1 : Option Addr) (len1 cap1 : Nat) (z1 : List Int) (w : World) (HT : Hid (BitsW w)) (w0 : (a0 = none ∧ len0 = 0 ∧ cap0 = 0 ∧ z0 = []) ∨ ∃ x, a0 = some x ∧ len0 ≤ cap0 ∧ cap0 ≤ maxLen ∧ z0.length = cap0 ∧ (∀ i, i < z0.length → w.cell? (x.add i) = some (.int .i64 (z0.getD i 0))) ∧ ∀ n ∈ z0, (Lit.int .i64 n).wf = true) (y0 : len0 * 8 ≤ 140737488351232) (w1 : (a1 = none ∧ len1 = 0 ∧ cap1 = 0 ∧ z1 = []) ∨ ∃ x, a1 = some x ∧ len1 ≤ cap1 ∧ cap1 ≤ maxLen ∧ z1.length = cap1 ∧ (∀ i, i < z1.length → w.cell? (x.add i) = some (.int .i64 (z1.getD i 0))) ∧ ∀ n ∈ z1, (Lit.int .i64 n).wf = true) (y1 : len1 * 8 ≤ 140737488351232) :
  Calls Tryd.prog 9 #[.slice a0 len0 cap0, .slice a1 len1 cap1] w fun e w' => e = .returned (.bool true) ∧ Below w.heap.size w w' := by
 obtain ⟨l0, rfl, hr0, hm0, hw0, hc0⟩ := ReadsInt.ofRowC w0
 obtain ⟨l1, rfl, hr1, hm1, hw1, hc1⟩ := ReadsInt.ofRowC w1
 obtain ⟨k, h⟩ := P l0 l1 hm0 y0 hw0 hm1 y1 hw1
 refine (wigeonlaw08_PurseAdds.calls k _ _ l0 _ _ l1 true w HT (Kd.C_of_reads (d := (0 : Int)) (h1 := fun _ => rfl) hr0) hc0 (Kd.C_of_reads (d := (0 : Int)) (h1 := fun _ => rfl) hr1) hc1 h).mono ?_
 rintro e w' ⟨rfl, hd⟩
 exact ⟨rfl, hd⟩

end Go.Proofs.YtjphklemnhgkiaaDoor.Q
