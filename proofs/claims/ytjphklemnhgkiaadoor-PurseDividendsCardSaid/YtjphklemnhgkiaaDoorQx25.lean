-- Written by a program of this session (wip/tools/gprint.py, over the kit's print); Lean checks it.
import Derived.Test.YtjphklemnhgkiaaDoorPuA
import Derived.Test.YtjphklemnhgkiaaDoorQx0
import Derived.Test.YtjphklemnhgkiaaDoorQx2
import Derived.Test.YtjphklemnhgkiaaDoorQx10
import Derived.Test.YtjphklemnhgkiaaDoorQx11
import Derived.Test.YtjphklemnhgkiaaDoorQx18
import Derived.Test.YtjphklemnhgkiaaDoorQx22
import Derived.Test.YtjphklemnhgkiaaDoorQx23
import Derived.Test.YtjphklemnhgkiaaDoorQx24
namespace Go.Proofs.YtjphklemnhgkiaaDoor.Q
open Go.RowKit Go.Proofs.YtjphklemnhgkiaaDoorW.PrintWords Go.Proofs.YtjphklemnhgkiaaDoorW.PrintLast Go.Proofs.YtjphklemnhgkiaaDoorW.PrintMore
attribute [local go_sem] max2_int min2_int max_two min_two max_three min_three max_four min_four   -- for this text's walks alone
set_option linter.unusedVariables false
set_option linter.unusedSimpArgs false

/-! ### wigeonlaw08_PurseDividends: function 11 -/
def wigeonlaw08_PurseDividends.j0 : Nat → List Int → List Int → List Int → Int → List Int → Int → Bool → Option (Bool)
 | 0, _, _, _, _, _, _, _ => none
 | k + 1, x0, x1, x5, x6, x9, x10, x60 => if x60 = true then (none) else ((purse_FromDividends.f k x5).bind fun bt634 => ((purse_Dividends.f k x9).bind fun bt638 => (if x6 = 0 then (if bt634.2 = 0 then ((wigeonref08_SameInts.f k bt634.1 x0).bind fun t642 => (if t642 = true then (if x10 = 0 then (if bt638.2 = 0 then ((wigeonref08_SameInts.f k bt638.1 x1).bind fun t643 => (if t643 = true then ((wigeonlaw08_known.f k).bind fun t644 => (some t644)) else (none))) else (none)) else ((wigeonlaw08_known.f k).bind fun t645 => (some t645))) else (none))) else (none)) else (if x10 = 0 then (if bt638.2 = 0 then ((wigeonref08_SameInts.f k bt638.1 x1).bind fun t646 => (if t646 = true then ((wigeonlaw08_known.f k).bind fun t647 => (some t647)) else (none))) else (none)) else ((wigeonlaw08_known.f k).bind fun t648 => (some t648))))))
def wigeonlaw08_PurseDividends.f (k : Nat) (l0 : List Int) (l1 : List Int) : Option (Bool) := (wigeonlaw08_long.f l0 l1).bind fun t614 => (if t614 = true then ((wigeonlaw08_known.f k).bind fun t615 => (some t615)) else ((purse_Dividends.f k l0).bind fun bt616 => ((wigeonref08_Dividends.f k l0).bind fun bt620 => ((purse_FromDividends.f k l1).bind fun bt624 => ((wigeonref08_FromDividends.f k l1).bind fun bt628 => (if bt616.2 = bt620.2 then ((wigeonref08_SameInts.f k bt616.1 bt620.1).bind fun t632 => (if t632 = true then (if bt624.2 = bt628.2 then ((wigeonref08_SameInts.f k bt624.1 bt628.1).bind fun t633 => (wigeonlaw08_PurseDividends.j0 k l0 l1 bt616.1 bt616.2 bt624.1 bt624.2 (!t633))) else (wigeonlaw08_PurseDividends.j0 k l0 l1 bt616.1 bt616.2 bt624.1 bt624.2 true)) else (wigeonlaw08_PurseDividends.j0 k l0 l1 bt616.1 bt616.2 bt624.1 bt624.2 true))) else (wigeonlaw08_PurseDividends.j0 k l0 l1 bt616.1 bt616.2 bt624.1 bt624.2 true)))))))
theorem wigeonlaw08_PurseDividends.j0.dead {k x0 x1 x2 x3 x4 x5} : wigeonlaw08_PurseDividends.j0 k x0 x1 x2 x3 x4 x5 true = none := by cases k <;> simp [wigeonlaw08_PurseDividends.j0]
theorem wigeonlaw08_PurseDividends.mono_l : ∀ k, (∀ y0 y1 y2 y3 y4 y5 y6, LeO (wigeonlaw08_PurseDividends.j0 k y0 y1 y2 y3 y4 y5 y6) (wigeonlaw08_PurseDividends.j0 (k + 1) y0 y1 y2 y3 y4 y5 y6))
 | 0 => fun _ _ _ _ _ _ _ r h => by simp [wigeonlaw08_PurseDividends.j0] at h
 | k + 1 => by
  have ih0 := wigeonlaw08_PurseDividends.mono_l k
  ·intro y0 y1 y2 y3 y4 y5 y6
   unfold wigeonlaw08_PurseDividends.j0
   repeat' first
   | (with_reducible exact ih0 _ _ _ _ _ _ _)
   | (with_reducible exact purse_Dividends.mono _ _)
   | (with_reducible exact purse_FromDividends.mono _ _)
   | (with_reducible exact wigeonlaw08_known.mono _)
   | (with_reducible exact wigeonref08_Dividends.mono _ _)
   | (with_reducible exact wigeonref08_FromDividends.mono _ _)
   | (with_reducible exact wigeonref08_SameInts.mono _ _ _)
   | (with_reducible exact LeO.refl _)
   | (with_reducible exact LeO.none _)
   | (with_reducible refine LeO.ite ?_ ?_)
   | (with_reducible refine LeO.bind ?_ (fun _ => ?_))
   | exact ih0 _ _ _ _ _ _ _
   | exact purse_Dividends.mono _ _
   | exact purse_FromDividends.mono _ _
   | exact wigeonlaw08_known.mono _
   | exact wigeonref08_Dividends.mono _ _
   | exact wigeonref08_FromDividends.mono _ _
   | exact wigeonref08_SameInts.mono _ _ _
   | exact LeO.none _
   | refine LeO.ite ?_ ?_
   | refine LeO.bind ?_ (fun _ => ?_)
theorem wigeonlaw08_PurseDividends.mono : ∀ a0 a1 k, LeO (wigeonlaw08_PurseDividends.f k a0 a1) (wigeonlaw08_PurseDividends.f (k + 1) a0 a1) := by
 intro a0 a1 k
 have ih0 := wigeonlaw08_PurseDividends.mono_l k
 unfold wigeonlaw08_PurseDividends.f
 repeat' first
   | (with_reducible exact ih0 _ _ _ _ _ _ _)
   | (with_reducible exact purse_Dividends.mono _ _)
   | (with_reducible exact purse_FromDividends.mono _ _)
   | (with_reducible exact wigeonlaw08_known.mono _)
   | (with_reducible exact wigeonref08_Dividends.mono _ _)
   | (with_reducible exact wigeonref08_FromDividends.mono _ _)
   | (with_reducible exact wigeonref08_SameInts.mono _ _ _)
   | (with_reducible exact LeO.refl _)
   | (with_reducible exact LeO.none _)
   | (with_reducible refine LeO.ite ?_ ?_)
   | (with_reducible refine LeO.bind ?_ (fun _ => ?_))
   | exact ih0 _ _ _ _ _ _ _
   | exact purse_Dividends.mono _ _
   | exact purse_FromDividends.mono _ _
   | exact wigeonlaw08_known.mono _
   | exact wigeonref08_Dividends.mono _ _
   | exact wigeonref08_FromDividends.mono _ _
   | exact wigeonref08_SameInts.mono _ _ _
   | exact LeO.none _
   | refine LeO.ite ?_ ?_
   | refine LeO.bind ?_ (fun _ => ?_)
set_option maxHeartbeats 8000000 in
set_option maxRecDepth 100000 in
theorem wigeonlaw08_PurseDividends.calls (k : Nat) (A0 : Option Addr) (c0 : Nat) (l0 : List Int) (A1 : Option Addr) (c1 : Nat) (l1 : List Int) (r : Bool) (w : World) (HT : Hid (BitsW w)) (hr0 : Kd.C (Kd.int .i64) w A0 l0.length l0) (hc0 : l0.length ≤ c0) (hr1 : Kd.C (Kd.int .i64) w A1 l1.length l1) (hc1 : l1.length ≤ c1) (h : wigeonlaw08_PurseDividends.f k l0 l1 = some r) :
  Calls Tryd.prog 11 #[.slice A0 l0.length c0, .slice A1 l1.length c1] w fun e w' => e = .returned (.bool r) ∧ Below w.heap.size w w' := by
 have HR0 := Aside0.mk hr0
 have HC0 := Aside0.mk hc0
 clear hr0 hc0
 have HR1 := Aside0.mk hr1
 have HC1 := Aside0.mk hc1
 clear hr1 hc1
 have HB := Aside0.mk (Below.refl w.heap.size w)
 have H : ((wigeonlaw08_long.f l0 l1).bind fun t614 => (if t614 = true then ((wigeonlaw08_known.f k).bind fun t615 => (some t615)) else ((purse_Dividends.f k l0).bind fun bt616 => ((wigeonref08_Dividends.f k l0).bind fun bt620 => ((purse_FromDividends.f k l1).bind fun bt624 => ((wigeonref08_FromDividends.f k l1).bind fun bt628 => (if bt616.2 = bt620.2 then ((wigeonref08_SameInts.f k bt616.1 bt620.1).bind fun t632 => (if t632 = true then (if bt624.2 = bt628.2 then ((wigeonref08_SameInts.f k bt624.1 bt628.1).bind fun t633 => (wigeonlaw08_PurseDividends.j0 k l0 l1 bt616.1 bt616.2 bt624.1 bt624.2 (!t633))) else (wigeonlaw08_PurseDividends.j0 k l0 l1 bt616.1 bt616.2 bt624.1 bt624.2 true)) else (wigeonlaw08_PurseDividends.j0 k l0 l1 bt616.1 bt616.2 bt624.1 bt624.2 true))) else (wigeonlaw08_PurseDividends.j0 k l0 l1 bt616.1 bt616.2 bt624.1 bt624.2 true)))))))) = some r := h
 clear h
 replace H := Option.bind_eq_some_iff.mp H
 obtain ⟨t614, A30, H⟩ := H
 replace H : (if t614 = true then ((wigeonlaw08_known.f k).bind fun t615 => (some t615)) else ((purse_Dividends.f k l0).bind fun bt616 => ((wigeonref08_Dividends.f k l0).bind fun bt620 => ((purse_FromDividends.f k l1).bind fun bt624 => ((wigeonref08_FromDividends.f k l1).bind fun bt628 => (if bt616.2 = bt620.2 then ((wigeonref08_SameInts.f k bt616.1 bt620.1).bind fun t632 => (if t632 = true then (if bt624.2 = bt628.2 then ((wigeonref08_SameInts.f k bt624.1 bt628.1).bind fun t633 => (wigeonlaw08_PurseDividends.j0 k l0 l1 bt616.1 bt616.2 bt624.1 bt624.2 (!t633))) else (wigeonlaw08_PurseDividends.j0 k l0 l1 bt616.1 bt616.2 bt624.1 bt624.2 true)) else (wigeonlaw08_PurseDividends.j0 k l0 l1 bt616.1 bt616.2 bt624.1 bt624.2 true))) else (wigeonlaw08_PurseDividends.j0 k l0 l1 bt616.1 bt616.2 bt624.1 bt624.2 true))))))) = some r := H
 have A3 := Aside0.mk A30
 clear A30
 by_cases c4 : t614 = true
 ·subst c4
  have H1 : ((wigeonlaw08_known.f k).bind fun t615 => (some t615)) = some r := by rw [if_pos rfl] at H; exact H
  clear H
  have H := H1
  clear H1
  replace H := Option.bind_eq_some_iff.mp H
  obtain ⟨t615, A50, H⟩ := H
  replace H : (some t615) = some r := H
  have A5 := Aside0.mk A50
  clear A50
  obtain rfl := Option.some.inj H
  go_enter Tryd.func11, Tryd.ntmps11
  go_wp2_with (first | ((with_reducible refine gate_callee (f := 15) rfl ?_); refine goesL_ (some 19) rfl rfl Tryd.func15 (by kernel_rfl) rfl #[.slice A0 l0.length c0, .slice A1 l1.length c1] rfl (by (try simp only [List.map_toArray, List.map_cons, List.map_nil]); first | done | rfl | (simp only [List.length_drop, List.length_take]; rfl)) ?_; (with_reducible refine (wigeonlaw08_long.calls _ _ l0 _ _ l1 true _ ?side1 ?side2 ?side3 ?side4 A3.out).mono ?_); (case side1 => repeat (first | exact HR0.out | (with_reducible refine Kd.C_alloc ?_ _) | (with_reducible refine Kd.C_drewN ?_ _) | (with_reducible refine Kd.C_drew ?_))); (case side2 => exact HC0.out); (case side3 => repeat (first | exact HR1.out | (with_reducible refine Kd.C_alloc ?_ _) | (with_reducible refine Kd.C_drewN ?_ _) | (with_reducible refine Kd.C_drew ?_))); (case side4 => exact HC1.out); rintro e w' ⟨rfl, ⟨nd, rfl⟩⟩; refine ⟨_, rfl, ?_⟩) | ((with_reducible refine gate_callee (f := 16) rfl ?_); refine goesL_ (some 20) rfl rfl Tryd.func16 (by kernel_rfl) rfl #[] rfl (by (try simp only [List.map_toArray, List.map_cons, List.map_nil]); first | done | rfl | (simp only [List.length_drop, List.length_take]; rfl)) ?_; (with_reducible refine (wigeonlaw08_known.calls k  t615 _ A5.out).mono ?_); rintro e w6 ⟨rfl, hb⟩; refine ⟨_, rfl, ?_⟩; have n0_ := Aside0.mk (below_step (by repeat (first | (with_reducible first | exact HB.out | apply below_alloc | apply pw_below_drewN | apply below_drew1) | exact HB.out)) hb); clear HB; have HB := n0_; clear n0_; (try clear hb); (try clear hb2); (try clear hk); (try clear hi)))
  go_ret
  exact ⟨by first | rfl | (simp [errW_none, errW_some] <;> rfl) | (simp [*, errW_none, errW_some] <;> rfl), by repeat (first | (with_reducible first | exact HB.out | apply below_alloc | apply pw_below_drewN | apply below_drew1) | exact HB.out)⟩
 ·replace c4 := Bool.eq_false_iff.mpr c4
  subst c4
  have H1 : ((purse_Dividends.f k l0).bind fun bt616 => ((wigeonref08_Dividends.f k l0).bind fun bt620 => ((purse_FromDividends.f k l1).bind fun bt624 => ((wigeonref08_FromDividends.f k l1).bind fun bt628 => (if bt616.2 = bt620.2 then ((wigeonref08_SameInts.f k bt616.1 bt620.1).bind fun t632 => (if t632 = true then (if bt624.2 = bt628.2 then ((wigeonref08_SameInts.f k bt624.1 bt628.1).bind fun t633 => (wigeonlaw08_PurseDividends.j0 k l0 l1 bt616.1 bt616.2 bt624.1 bt624.2 (!t633))) else (wigeonlaw08_PurseDividends.j0 k l0 l1 bt616.1 bt616.2 bt624.1 bt624.2 true)) else (wigeonlaw08_PurseDividends.j0 k l0 l1 bt616.1 bt616.2 bt624.1 bt624.2 true))) else (wigeonlaw08_PurseDividends.j0 k l0 l1 bt616.1 bt616.2 bt624.1 bt624.2 true)))))) = some r := by rw [if_neg (show ¬ (false = true) by decide)] at H; exact H
  clear H
  have H := H1
  clear H1
  replace H := Option.bind_eq_some_iff.mp H
  obtain ⟨⟨t616, t617⟩, A70, H⟩ := H
  replace H : ((wigeonref08_Dividends.f k l0).bind fun bt620 => ((purse_FromDividends.f k l1).bind fun bt624 => ((wigeonref08_FromDividends.f k l1).bind fun bt628 => (if t617 = bt620.2 then ((wigeonref08_SameInts.f k t616 bt620.1).bind fun t632 => (if t632 = true then (if bt624.2 = bt628.2 then ((wigeonref08_SameInts.f k bt624.1 bt628.1).bind fun t633 => (wigeonlaw08_PurseDividends.j0 k l0 l1 t616 t617 bt624.1 bt624.2 (!t633))) else (wigeonlaw08_PurseDividends.j0 k l0 l1 t616 t617 bt624.1 bt624.2 true)) else (wigeonlaw08_PurseDividends.j0 k l0 l1 t616 t617 bt624.1 bt624.2 true))) else (wigeonlaw08_PurseDividends.j0 k l0 l1 t616 t617 bt624.1 bt624.2 true))))) = some r := H
  have A7 := Aside0.mk A70
  clear A70
  replace H := Option.bind_eq_some_iff.mp H
  obtain ⟨⟨t620, t621⟩, A80, H⟩ := H
  replace H : ((purse_FromDividends.f k l1).bind fun bt624 => ((wigeonref08_FromDividends.f k l1).bind fun bt628 => (if t617 = t621 then ((wigeonref08_SameInts.f k t616 t620).bind fun t632 => (if t632 = true then (if bt624.2 = bt628.2 then ((wigeonref08_SameInts.f k bt624.1 bt628.1).bind fun t633 => (wigeonlaw08_PurseDividends.j0 k l0 l1 t616 t617 bt624.1 bt624.2 (!t633))) else (wigeonlaw08_PurseDividends.j0 k l0 l1 t616 t617 bt624.1 bt624.2 true)) else (wigeonlaw08_PurseDividends.j0 k l0 l1 t616 t617 bt624.1 bt624.2 true))) else (wigeonlaw08_PurseDividends.j0 k l0 l1 t616 t617 bt624.1 bt624.2 true)))) = some r := H
  have A8 := Aside0.mk A80
  clear A80
  replace H := Option.bind_eq_some_iff.mp H
  obtain ⟨⟨t624, t625⟩, A90, H⟩ := H
  replace H : ((wigeonref08_FromDividends.f k l1).bind fun bt628 => (if t617 = t621 then ((wigeonref08_SameInts.f k t616 t620).bind fun t632 => (if t632 = true then (if t625 = bt628.2 then ((wigeonref08_SameInts.f k t624 bt628.1).bind fun t633 => (wigeonlaw08_PurseDividends.j0 k l0 l1 t616 t617 t624 t625 (!t633))) else (wigeonlaw08_PurseDividends.j0 k l0 l1 t616 t617 t624 t625 true)) else (wigeonlaw08_PurseDividends.j0 k l0 l1 t616 t617 t624 t625 true))) else (wigeonlaw08_PurseDividends.j0 k l0 l1 t616 t617 t624 t625 true))) = some r := H
  have A9 := Aside0.mk A90
  clear A90
  replace H := Option.bind_eq_some_iff.mp H
  obtain ⟨⟨t628, t629⟩, A100, H⟩ := H
  replace H : (if t617 = t621 then ((wigeonref08_SameInts.f k t616 t620).bind fun t632 => (if t632 = true then (if t625 = t629 then ((wigeonref08_SameInts.f k t624 t628).bind fun t633 => (wigeonlaw08_PurseDividends.j0 k l0 l1 t616 t617 t624 t625 (!t633))) else (wigeonlaw08_PurseDividends.j0 k l0 l1 t616 t617 t624 t625 true)) else (wigeonlaw08_PurseDividends.j0 k l0 l1 t616 t617 t624 t625 true))) else (wigeonlaw08_PurseDividends.j0 k l0 l1 t616 t617 t624 t625 true)) = some r := H
  have A10 := Aside0.mk A100
  clear A100
  have HC11 := Aside0.mk H
  clear H
  go_enter Tryd.func11, Tryd.ntmps11
  go_upto_region 7 with (first | ((with_reducible refine gate_callee (f := 15) rfl ?_); refine goesL_ (some 19) rfl rfl Tryd.func15 (by kernel_rfl) rfl #[.slice A0 l0.length c0, .slice A1 l1.length c1] rfl (by (try simp only [List.map_toArray, List.map_cons, List.map_nil]); first | done | rfl | (simp only [List.length_drop, List.length_take]; rfl)) ?_; (with_reducible refine (wigeonlaw08_long.calls _ _ l0 _ _ l1 false _ ?side1 ?side2 ?side3 ?side4 A3.out).mono ?_); (case side1 => repeat (first | exact HR0.out | (with_reducible refine Kd.C_alloc ?_ _) | (with_reducible refine Kd.C_drewN ?_ _) | (with_reducible refine Kd.C_drew ?_))); (case side2 => exact HC0.out); (case side3 => repeat (first | exact HR1.out | (with_reducible refine Kd.C_alloc ?_ _) | (with_reducible refine Kd.C_drewN ?_ _) | (with_reducible refine Kd.C_drew ?_))); (case side4 => exact HC1.out); rintro e w' ⟨rfl, ⟨nd, rfl⟩⟩; refine ⟨_, rfl, ?_⟩) | ((with_reducible refine gate_callee (f := 26) rfl ?_); refine goesL_ (some 23) rfl rfl Tryd.func26 (by kernel_rfl) rfl #[.slice A0 l0.length c0] rfl (by (try simp only [List.map_toArray, List.map_cons, List.map_nil]); first | done | rfl | (simp only [List.length_drop, List.length_take]; rfl)) ?_; (with_reducible refine (purse_Dividends.calls k _ _ l0 t616 t617 _ ?side1 ?side2 A7.out).mono ?_); (case side1 => repeat (first | exact HR0.out | (with_reducible refine Kd.C_alloc ?_ _) | (with_reducible refine Kd.C_drewN ?_ _) | (with_reducible refine Kd.C_drew ?_))); (case side2 => exact HC0.out); rintro e w12 ⟨v618, rfl, ho0, hb⟩; refine ⟨_, rfl, ?_⟩; have n0_ := Aside0.mk (Kd.R_lower ho0 (below_size (by repeat (first | (with_reducible first | exact HB.out | apply below_alloc | apply pw_below_drewN | apply below_drew1) | exact HB.out)))); have n1_ := Aside0.mk (below_step (by repeat (first | (with_reducible first | exact HB.out | apply below_alloc | apply pw_below_drewN | apply below_drew1) | exact HB.out)) hb); clear HB; have HO619 := n0_; have HB := n1_; clear n0_ n1_; (try clear hb); (try clear hb2); (try clear hk); (try clear hi); (try clear ho0)) | ((with_reducible refine gate_callee (f := 35) rfl ?_); refine goesL_ (some 28) rfl rfl Tryd.func35 (by kernel_rfl) rfl #[.slice A0 l0.length c0] rfl (by (try simp only [List.map_toArray, List.map_cons, List.map_nil]); first | done | rfl | (simp only [List.length_drop, List.length_take]; rfl)) ?_; (with_reducible refine (wigeonref08_Dividends.calls k _ _ l0 t620 t621 _ ?side1 ?side2 A8.out).mono ?_); (case side1 => repeat (first | exact (Kd.C_below HR0.out HB.out) | (with_reducible refine Kd.C_alloc ?_ _) | (with_reducible refine Kd.C_drewN ?_ _) | (with_reducible refine Kd.C_drew ?_))); (case side2 => exact HC0.out); rintro e w13 ⟨v622, rfl, ho0, hb⟩; refine ⟨_, rfl, ?_⟩; have n0_ := Aside0.mk (Kd.R_elder' (by (with_reducible repeat (first | apply Kd.R_alloc | apply Kd.R_drewN | apply Kd.R_drew)); exact HO619.out) (Kd.R_base ho0) hb); have n1_ := Aside0.mk (Kd.R_lower (Kd.R_new' ho0 (Kd.R_lt (by (with_reducible repeat (first | apply Kd.R_alloc | apply Kd.R_drewN | apply Kd.R_drew)); exact HO619.out))) (below_size (by repeat (first | (with_reducible first | exact HB.out | apply below_alloc | apply pw_below_drewN | apply below_drew1) | exact HB.out)))); have n2_ := Aside0.mk (below_step (by repeat (first | (with_reducible first | exact HB.out | apply below_alloc | apply pw_below_drewN | apply below_drew1) | exact HB.out)) hb); clear HO619; clear HB; have HO619 := n0_; have HO623 := n1_; have HB := n2_; clear n0_ n1_ n2_; (try clear hb); (try clear hb2); (try clear hk); (try clear hi); (try clear ho0)) | ((with_reducible refine gate_callee (f := 36) rfl ?_); refine goesL_ (some 33) rfl rfl Tryd.func36 (by kernel_rfl) rfl #[.slice A1 l1.length c1] rfl (by (try simp only [List.map_toArray, List.map_cons, List.map_nil]); first | done | rfl | (simp only [List.length_drop, List.length_take]; rfl)) ?_; (with_reducible refine (purse_FromDividends.calls k _ _ l1 t624 t625 _ ?side1 ?side2 A9.out).mono ?_); (case side1 => repeat (first | exact (Kd.C_below HR1.out HB.out) | (with_reducible refine Kd.C_alloc ?_ _) | (with_reducible refine Kd.C_drewN ?_ _) | (with_reducible refine Kd.C_drew ?_))); (case side2 => exact HC1.out); rintro e w14 ⟨v626, rfl, ho0, hb⟩; refine ⟨_, rfl, ?_⟩; have n0_ := Aside0.mk (Kd.R_elder' (by (with_reducible repeat (first | apply Kd.R_alloc | apply Kd.R_drewN | apply Kd.R_drew)); exact HO619.out) (Kd.R_base ho0) hb); have n1_ := Aside0.mk (Kd.R_elder' (by (with_reducible repeat (first | apply Kd.R_alloc | apply Kd.R_drewN | apply Kd.R_drew)); exact HO623.out) (Kd.R_base ho0) hb); have n2_ := Aside0.mk (Kd.R_lower (Kd.R_new' (Kd.R_new' ho0 (Kd.R_lt (by (with_reducible repeat (first | apply Kd.R_alloc | apply Kd.R_drewN | apply Kd.R_drew)); exact HO619.out))) (Kd.R_lt (by (with_reducible repeat (first | apply Kd.R_alloc | apply Kd.R_drewN | apply Kd.R_drew)); exact HO623.out))) (below_size (by repeat (first | (with_reducible first | exact HB.out | apply below_alloc | apply pw_below_drewN | apply below_drew1) | exact HB.out)))); have n3_ := Aside0.mk (below_step (by repeat (first | (with_reducible first | exact HB.out | apply below_alloc | apply pw_below_drewN | apply below_drew1) | exact HB.out)) hb); clear HO619; clear HO623; clear HB; have HO619 := n0_; have HO623 := n1_; have HO627 := n2_; have HB := n3_; clear n0_ n1_ n2_ n3_; (try clear hb); (try clear hb2); (try clear hk); (try clear hi); (try clear ho0)) | ((with_reducible refine gate_callee (f := 37) rfl ?_); refine goesL_ (some 38) rfl rfl Tryd.func37 (by kernel_rfl) rfl #[.slice A1 l1.length c1] rfl (by (try simp only [List.map_toArray, List.map_cons, List.map_nil]); first | done | rfl | (simp only [List.length_drop, List.length_take]; rfl)) ?_; (with_reducible refine (wigeonref08_FromDividends.calls k _ _ l1 t628 t629 _ ?side1 ?side2 A10.out).mono ?_); (case side1 => repeat (first | exact (Kd.C_below HR1.out HB.out) | (with_reducible refine Kd.C_alloc ?_ _) | (with_reducible refine Kd.C_drewN ?_ _) | (with_reducible refine Kd.C_drew ?_))); (case side2 => exact HC1.out); rintro e w15 ⟨v630, rfl, ho0, hb⟩; refine ⟨_, rfl, ?_⟩; have n0_ := Aside0.mk (Kd.R_elder' (by (with_reducible repeat (first | apply Kd.R_alloc | apply Kd.R_drewN | apply Kd.R_drew)); exact HO619.out) (Kd.R_base ho0) hb); have n1_ := Aside0.mk (Kd.R_elder' (by (with_reducible repeat (first | apply Kd.R_alloc | apply Kd.R_drewN | apply Kd.R_drew)); exact HO623.out) (Kd.R_base ho0) hb); have n2_ := Aside0.mk (Kd.R_elder' (by (with_reducible repeat (first | apply Kd.R_alloc | apply Kd.R_drewN | apply Kd.R_drew)); exact HO627.out) (Kd.R_base ho0) hb); have n3_ := Aside0.mk (Kd.R_lower (Kd.R_new' (Kd.R_new' (Kd.R_new' ho0 (Kd.R_lt (by (with_reducible repeat (first | apply Kd.R_alloc | apply Kd.R_drewN | apply Kd.R_drew)); exact HO619.out))) (Kd.R_lt (by (with_reducible repeat (first | apply Kd.R_alloc | apply Kd.R_drewN | apply Kd.R_drew)); exact HO623.out))) (Kd.R_lt (by (with_reducible repeat (first | apply Kd.R_alloc | apply Kd.R_drewN | apply Kd.R_drew)); exact HO627.out))) (below_size (by repeat (first | (with_reducible first | exact HB.out | apply below_alloc | apply pw_below_drewN | apply below_drew1) | exact HB.out)))); have n4_ := Aside0.mk (below_step (by repeat (first | (with_reducible first | exact HB.out | apply below_alloc | apply pw_below_drewN | apply below_drew1) | exact HB.out)) hb); clear HO619; clear HO623; clear HO627; clear HB; have HO619 := n0_; have HO623 := n1_; have HO627 := n2_; have HO631 := n3_; have HB := n4_; clear n0_ n1_ n2_ n3_ n4_; (try clear hb); (try clear hb2); (try clear hk); (try clear hi); (try clear ho0)))
  (try simp only [Act.put, List.setIfInBounds_toArray, List.set_cons_zero, List.set_cons_succ])
  go_cut [60] (fun v60 wc => ∃ (kq : Nat) (x60_10 : Bool), v60 = .bool x60_10 ∧ Aside0 (wigeonlaw08_PurseDividends.j0 kq l0 l1 t616 t617 t624 t625 x60_10 = some r) ∧ Aside0 (kq ≤ k) ∧ Aside0 (Kd.R (Kd.int .i64) 3 wc w.heap.size (fun k_ => some k_ ≠ (v626 : Value).ownBlock) v618 t616) ∧ Aside0 (Kd.R (Kd.int .i64) 3 wc w.heap.size (fun k_ => some k_ ≠ (v618 : Value).ownBlock) v626 t624) ∧ Aside0 (Below w.heap.size w wc))
  case first =>
   have H := HC11.out
   clear HC11
   by_cases c16 : t617 = t621
   ·rw [if_pos c16] at H
    have c16b0 : (t617 == t621) = true := beq_iff_eq.mpr c16
    have c16b1 : (t617 != t621) = false := bne_eq_false_iff_eq.mpr c16
    clear c16
    (first | rw [c16b0] | (simp only [i64_w, i32_w]; rw [c16b0]) | skip)
    replace H := Option.bind_eq_some_iff.mp H
    obtain ⟨t632, A170, H⟩ := H
    replace H : (if t632 = true then (if t625 = t629 then ((wigeonref08_SameInts.f k t624 t628).bind fun t633 => (wigeonlaw08_PurseDividends.j0 k l0 l1 t616 t617 t624 t625 (!t633))) else (wigeonlaw08_PurseDividends.j0 k l0 l1 t616 t617 t624 t625 true)) else (wigeonlaw08_PurseDividends.j0 k l0 l1 t616 t617 t624 t625 true)) = some r := H
    have A17 := Aside0.mk A170
    clear A170
    by_cases c18 : t632 = true
    ·subst c18
     have H1 : (if t625 = t629 then ((wigeonref08_SameInts.f k t624 t628).bind fun t633 => (wigeonlaw08_PurseDividends.j0 k l0 l1 t616 t617 t624 t625 (!t633))) else (wigeonlaw08_PurseDividends.j0 k l0 l1 t616 t617 t624 t625 true)) = some r := by rw [if_pos rfl] at H; exact H
     clear H
     have H := H1
     clear H1
     by_cases c19 : t625 = t629
     ·rw [if_pos c19] at H
      have c19b0 : (t625 == t629) = true := beq_iff_eq.mpr c19
      have c19b1 : (t625 != t629) = false := bne_eq_false_iff_eq.mpr c19
      clear c19
      replace H := Option.bind_eq_some_iff.mp H
      obtain ⟨t633, A200, H⟩ := H
      replace H : (wigeonlaw08_PurseDividends.j0 k l0 l1 t616 t617 t624 t625 (!t633)) = some r := H
      have A20 := Aside0.mk A200
      clear A200
      have H' := Aside0.mk H
      clear H
      obtain ⟨Ao21, co21, eo21⟩ := Kd.R_slice HO619.out
      subst eo21
      obtain ⟨Ao22, co22, eo22⟩ := Kd.R_slice HO623.out
      subst eo22
      go_wp2_with (first | (go_at_call 32; (with_reducible refine (wigeonref08_SameInts.calls k _ _ t616 _ _ t620 true _ ?side1 ?side2 ?side3 ?side4 A17.out).mono ?_); (case side1 => repeat (first | exact (Kd.R_reads' HO619.out).2.2 | (with_reducible refine Kd.C_alloc ?_ _) | (with_reducible refine Kd.C_drewN ?_ _) | (with_reducible refine Kd.C_drew ?_))); (case side2 => exact (Kd.R_reads' HO619.out).2.1); (case side3 => repeat (first | exact (Kd.R_reads' HO623.out).2.2 | (with_reducible refine Kd.C_alloc ?_ _) | (with_reducible refine Kd.C_drewN ?_ _) | (with_reducible refine Kd.C_drew ?_))); (case side4 => exact (Kd.R_reads' HO623.out).2.1); rintro e w' ⟨rfl, ⟨nd, rfl⟩⟩; obtain ⟨Ao23, co23, eo23⟩ := Kd.R_slice HO627.out; subst eo23; obtain ⟨Ao24, co24, eo24⟩ := Kd.R_slice HO631.out; subst eo24) | (go_at_call 32; (with_reducible refine (wigeonref08_SameInts.calls k _ _ t624 _ _ t628 t633 _ ?side1 ?side2 ?side3 ?side4 A20.out).mono ?_); (case side1 => repeat (first | exact (Kd.R_reads' HO627.out).2.2 | (with_reducible refine Kd.C_alloc ?_ _) | (with_reducible refine Kd.C_drewN ?_ _) | (with_reducible refine Kd.C_drew ?_))); (case side2 => exact (Kd.R_reads' HO627.out).2.1); (case side3 => repeat (first | exact (Kd.R_reads' HO631.out).2.2 | (with_reducible refine Kd.C_alloc ?_ _) | (with_reducible refine Kd.C_drewN ?_ _) | (with_reducible refine Kd.C_drew ?_))); (case side4 => exact (Kd.R_reads' HO631.out).2.1); rintro e w' ⟨rfl, ⟨nd, rfl⟩⟩))
      go_meet
      case rel => exact ⟨_, (!t633), (by first | rfl | (simp; done) | (simp [*]; done)), H', ⟨by first | omega | exact Nat.le_refl _⟩, ⟨by (with_reducible repeat (first | apply Kd.R_alloc | apply Kd.R_drewN | apply Kd.R_drew)); exact Kd.R_mono HO619.out (fun _ hk => hk.1.2)⟩, ⟨by (with_reducible repeat (first | apply Kd.R_alloc | apply Kd.R_drewN | apply Kd.R_drew)); exact Kd.R_mono HO627.out (fun _ hk => hk.1.1.2)⟩, ⟨by repeat (first | (with_reducible first | exact HB.out | apply below_alloc | apply pw_below_drewN | apply below_drew1) | exact HB.out)⟩⟩
     ·rw [if_neg c19] at H
      exact absurd H (by rw [wigeonlaw08_PurseDividends.j0.dead]; simp)
    ·replace c18 := Bool.eq_false_iff.mpr c18
     subst c18
     have H1 : (wigeonlaw08_PurseDividends.j0 k l0 l1 t616 t617 t624 t625 true) = some r := by rw [if_neg (show ¬ (false = true) by decide)] at H; exact H
     exact absurd H1 (by rw [wigeonlaw08_PurseDividends.j0.dead]; simp)
   ·rw [if_neg c16] at H
    exact absurd H (by rw [wigeonlaw08_PurseDividends.j0.dead]; simp)
  case rest =>
   clear HC11
   try clear c1
   try clear c2
   try clear p2
   try clear c3
   try clear c4
   try clear c11
   try clear c15
   try clear c16
   try clear c16b0
   try clear c16b1
   try clear c18
   try clear c19
   try clear c19b0
   try clear c19b1
   try clear c26
   obtain ⟨kq, x60_10, rfl, HA, HJ10, HO_5, HO_9, HB⟩ := hcut
   cases kq with
   | zero => exact absurd HA.out (by simp [wigeonlaw08_PurseDividends.j0])
   | succ kj10 =>
    have H := HA.out
    clear HA
    simp only [wigeonlaw08_PurseDividends.j0] at H
    by_cases c29 : x60_10 = true
    ·subst c29
     have H1 : (none) = some r := by rw [if_pos rfl] at H; exact H
     exact absurd H1 (by simp)
    ·replace c29 := Bool.eq_false_iff.mpr c29
     subst c29
     have H1 : ((purse_FromDividends.f kj10 t616).bind fun bt634 => ((purse_Dividends.f kj10 t624).bind fun bt638 => (if t617 = 0 then (if bt634.2 = 0 then ((wigeonref08_SameInts.f kj10 bt634.1 l0).bind fun t642 => (if t642 = true then (if t625 = 0 then (if bt638.2 = 0 then ((wigeonref08_SameInts.f kj10 bt638.1 l1).bind fun t643 => (if t643 = true then ((wigeonlaw08_known.f kj10).bind fun t644 => (some t644)) else (none))) else (none)) else ((wigeonlaw08_known.f kj10).bind fun t645 => (some t645))) else (none))) else (none)) else (if t625 = 0 then (if bt638.2 = 0 then ((wigeonref08_SameInts.f kj10 bt638.1 l1).bind fun t646 => (if t646 = true then ((wigeonlaw08_known.f kj10).bind fun t647 => (some t647)) else (none))) else (none)) else ((wigeonlaw08_known.f kj10).bind fun t648 => (some t648)))))) = some r := by rw [if_neg (show ¬ (false = true) by decide)] at H; exact H
     clear H
     have H := H1
     clear H1
     replace H := Option.bind_eq_some_iff.mp H
     obtain ⟨⟨t634, t635⟩, A300, H⟩ := H
     replace H : ((purse_Dividends.f kj10 t624).bind fun bt638 => (if t617 = 0 then (if t635 = 0 then ((wigeonref08_SameInts.f kj10 t634 l0).bind fun t642 => (if t642 = true then (if t625 = 0 then (if bt638.2 = 0 then ((wigeonref08_SameInts.f kj10 bt638.1 l1).bind fun t643 => (if t643 = true then ((wigeonlaw08_known.f kj10).bind fun t644 => (some t644)) else (none))) else (none)) else ((wigeonlaw08_known.f kj10).bind fun t645 => (some t645))) else (none))) else (none)) else (if t625 = 0 then (if bt638.2 = 0 then ((wigeonref08_SameInts.f kj10 bt638.1 l1).bind fun t646 => (if t646 = true then ((wigeonlaw08_known.f kj10).bind fun t647 => (some t647)) else (none))) else (none)) else ((wigeonlaw08_known.f kj10).bind fun t648 => (some t648))))) = some r := H
     have A30 := Aside0.mk A300
     clear A300
     replace H := Option.bind_eq_some_iff.mp H
     obtain ⟨⟨t638, t639⟩, A310, H⟩ := H
     replace H : (if t617 = 0 then (if t635 = 0 then ((wigeonref08_SameInts.f kj10 t634 l0).bind fun t642 => (if t642 = true then (if t625 = 0 then (if t639 = 0 then ((wigeonref08_SameInts.f kj10 t638 l1).bind fun t643 => (if t643 = true then ((wigeonlaw08_known.f kj10).bind fun t644 => (some t644)) else (none))) else (none)) else ((wigeonlaw08_known.f kj10).bind fun t645 => (some t645))) else (none))) else (none)) else (if t625 = 0 then (if t639 = 0 then ((wigeonref08_SameInts.f kj10 t638 l1).bind fun t646 => (if t646 = true then ((wigeonlaw08_known.f kj10).bind fun t647 => (some t647)) else (none))) else (none)) else ((wigeonlaw08_known.f kj10).bind fun t648 => (some t648)))) = some r := H
     have A31 := Aside0.mk A310
     clear A310
     by_cases c32 : t617 = 0
     ·rw [if_pos c32] at H
      have c32b0 : (t617 == 0) = true := beq_iff_eq.mpr c32
      have c32b1 : (t617 != 0) = false := bne_eq_false_iff_eq.mpr c32
      clear c32
      by_cases c33 : t635 = 0
      ·rw [if_pos c33] at H
       have c33b0 : (t635 == 0) = true := beq_iff_eq.mpr c33
       have c33b1 : (t635 != 0) = false := bne_eq_false_iff_eq.mpr c33
       clear c33
       replace H := Option.bind_eq_some_iff.mp H
       obtain ⟨t642, A340, H⟩ := H
       replace H : (if t642 = true then (if t625 = 0 then (if t639 = 0 then ((wigeonref08_SameInts.f kj10 t638 l1).bind fun t643 => (if t643 = true then ((wigeonlaw08_known.f kj10).bind fun t644 => (some t644)) else (none))) else (none)) else ((wigeonlaw08_known.f kj10).bind fun t645 => (some t645))) else (none)) = some r := H
       have A34 := Aside0.mk A340
       clear A340
       by_cases c35 : t642 = true
       ·subst c35
        have H1 : (if t625 = 0 then (if t639 = 0 then ((wigeonref08_SameInts.f kj10 t638 l1).bind fun t643 => (if t643 = true then ((wigeonlaw08_known.f kj10).bind fun t644 => (some t644)) else (none))) else (none)) else ((wigeonlaw08_known.f kj10).bind fun t645 => (some t645))) = some r := by rw [if_pos rfl] at H; exact H
        clear H
        have H := H1
        clear H1
        by_cases c36 : t625 = 0
        ·rw [if_pos c36] at H
         have c36b0 : (t625 == 0) = true := beq_iff_eq.mpr c36
         have c36b1 : (t625 != 0) = false := bne_eq_false_iff_eq.mpr c36
         clear c36
         by_cases c37 : t639 = 0
         ·rw [if_pos c37] at H
          have c37b0 : (t639 == 0) = true := beq_iff_eq.mpr c37
          have c37b1 : (t639 != 0) = false := bne_eq_false_iff_eq.mpr c37
          clear c37
          replace H := Option.bind_eq_some_iff.mp H
          obtain ⟨t643, A380, H⟩ := H
          replace H : (if t643 = true then ((wigeonlaw08_known.f kj10).bind fun t644 => (some t644)) else (none)) = some r := H
          have A38 := Aside0.mk A380
          clear A380
          by_cases c39 : t643 = true
          ·subst c39
           have H1 : ((wigeonlaw08_known.f kj10).bind fun t644 => (some t644)) = some r := by rw [if_pos rfl] at H; exact H
           clear H
           have H := H1
           clear H1
           replace H := Option.bind_eq_some_iff.mp H
           obtain ⟨t644, A400, H⟩ := H
           replace H : (some t644) = some r := H
           have A40 := Aside0.mk A400
           clear A400
           obtain rfl := Option.some.inj H
           obtain ⟨Ao41, co41, eo41⟩ := Kd.R_slice HO_5.out
           subst eo41
           go_wp2_with (first | ((with_reducible refine gate_callee (f := 36) rfl ?_); refine goesL_ (some 63) rfl rfl Tryd.func36 (by kernel_rfl) rfl #[.slice Ao41 t616.length co41] rfl (by (try simp only [List.map_toArray, List.map_cons, List.map_nil]); first | done | rfl | (simp only [List.length_drop, List.length_take]; rfl)) ?_; (with_reducible refine (purse_FromDividends.calls kj10 _ _ t616 t634 t635 _ ?side1 ?side2 A30.out).mono ?_); (case side1 => repeat (first | exact (Kd.R_reads' HO_5.out).2.2 | (with_reducible refine Kd.C_alloc ?_ _) | (with_reducible refine Kd.C_drewN ?_ _) | (with_reducible refine Kd.C_drew ?_))); (case side2 => exact (Kd.R_reads' HO_5.out).2.1); rintro e w42 ⟨v636, rfl, ho0, hb⟩; refine ⟨_, rfl, ?_⟩; have n0_ := Aside0.mk (Kd.R_elder' (by (with_reducible repeat (first | apply Kd.R_alloc | apply Kd.R_drewN | apply Kd.R_drew)); exact HO_5.out) (Kd.R_base ho0) hb); have n1_ := Aside0.mk (Kd.R_elder' (by (with_reducible repeat (first | apply Kd.R_alloc | apply Kd.R_drewN | apply Kd.R_drew)); exact HO_9.out) (Kd.R_base ho0) hb); have n2_ := Aside0.mk (Kd.R_lower (Kd.R_new' (Kd.R_new' ho0 (Kd.R_lt (by (with_reducible repeat (first | apply Kd.R_alloc | apply Kd.R_drewN | apply Kd.R_drew)); exact HO_5.out))) (Kd.R_lt (by (with_reducible repeat (first | apply Kd.R_alloc | apply Kd.R_drewN | apply Kd.R_drew)); exact HO_9.out))) (below_size (by repeat (first | (with_reducible first | exact HB.out | apply below_alloc | apply pw_below_drewN | apply below_drew1) | exact HB.out)))); have n3_ := Aside0.mk (below_step (by repeat (first | (with_reducible first | exact HB.out | apply below_alloc | apply pw_below_drewN | apply below_drew1) | exact HB.out)) hb); clear HO_5; clear HO_9; clear HB; have HO_5 := n0_; have HO_9 := n1_; have HO637 := n2_; have HB := n3_; clear n0_ n1_ n2_ n3_; (try clear hb); (try clear hb2); (try clear hk); (try clear hi); (try clear ho0); obtain ⟨Ao43, co43, eo43⟩ := Kd.R_slice HO_9.out; subst eo43) | ((with_reducible refine gate_callee (f := 26) rfl ?_); refine goesL_ (some 68) rfl rfl Tryd.func26 (by kernel_rfl) rfl #[.slice Ao43 t624.length co43] rfl (by (try simp only [List.map_toArray, List.map_cons, List.map_nil]); first | done | rfl | (simp only [List.length_drop, List.length_take]; rfl)) ?_; (with_reducible refine (purse_Dividends.calls kj10 _ _ t624 t638 t639 _ ?side1 ?side2 A31.out).mono ?_); (case side1 => repeat (first | exact (Kd.R_reads' HO_9.out).2.2 | (with_reducible refine Kd.C_alloc ?_ _) | (with_reducible refine Kd.C_drewN ?_ _) | (with_reducible refine Kd.C_drew ?_))); (case side2 => exact (Kd.R_reads' HO_9.out).2.1); rintro e w44 ⟨v640, rfl, ho0, hb⟩; refine ⟨_, rfl, ?_⟩; have n0_ := Aside0.mk (Kd.R_elder' (by (with_reducible repeat (first | apply Kd.R_alloc | apply Kd.R_drewN | apply Kd.R_drew)); exact HO_5.out) (Kd.R_base ho0) hb); have n1_ := Aside0.mk (Kd.R_elder' (by (with_reducible repeat (first | apply Kd.R_alloc | apply Kd.R_drewN | apply Kd.R_drew)); exact HO_9.out) (Kd.R_base ho0) hb); have n2_ := Aside0.mk (Kd.R_elder' (by (with_reducible repeat (first | apply Kd.R_alloc | apply Kd.R_drewN | apply Kd.R_drew)); exact HO637.out) (Kd.R_base ho0) hb); have n3_ := Aside0.mk (Kd.R_lower (Kd.R_new' (Kd.R_new' (Kd.R_new' ho0 (Kd.R_lt (by (with_reducible repeat (first | apply Kd.R_alloc | apply Kd.R_drewN | apply Kd.R_drew)); exact HO_5.out))) (Kd.R_lt (by (with_reducible repeat (first | apply Kd.R_alloc | apply Kd.R_drewN | apply Kd.R_drew)); exact HO_9.out))) (Kd.R_lt (by (with_reducible repeat (first | apply Kd.R_alloc | apply Kd.R_drewN | apply Kd.R_drew)); exact HO637.out))) (below_size (by repeat (first | (with_reducible first | exact HB.out | apply below_alloc | apply pw_below_drewN | apply below_drew1) | exact HB.out)))); have n4_ := Aside0.mk (below_step (by repeat (first | (with_reducible first | exact HB.out | apply below_alloc | apply pw_below_drewN | apply below_drew1) | exact HB.out)) hb); clear HO_5; clear HO_9; clear HO637; clear HB; have HO_5 := n0_; have HO_9 := n1_; have HO637 := n2_; have HO641 := n3_; have HB := n4_; clear n0_ n1_ n2_ n3_ n4_; (try clear hb); (try clear hb2); (try clear hk); (try clear hi); (try clear ho0); obtain ⟨Ao45, co45, eo45⟩ := Kd.R_slice HO637.out; subst eo45) | (go_at_call 32; (with_reducible refine (wigeonref08_SameInts.calls kj10 _ _ t634 _ _ l0 true _ ?side1 ?side2 ?side3 ?side4 A34.out).mono ?_); (case side1 => repeat (first | exact (Kd.R_reads' HO637.out).2.2 | (with_reducible refine Kd.C_alloc ?_ _) | (with_reducible refine Kd.C_drewN ?_ _) | (with_reducible refine Kd.C_drew ?_))); (case side2 => exact (Kd.R_reads' HO637.out).2.1); (case side3 => repeat (first | exact (Kd.C_below HR0.out HB.out) | (with_reducible refine Kd.C_alloc ?_ _) | (with_reducible refine Kd.C_drewN ?_ _) | (with_reducible refine Kd.C_drew ?_))); (case side4 => exact HC0.out); rintro e w' ⟨rfl, ⟨nd, rfl⟩⟩; obtain ⟨Ao46, co46, eo46⟩ := Kd.R_slice HO641.out; subst eo46) | (go_at_call 32; (with_reducible refine (wigeonref08_SameInts.calls kj10 _ _ t638 _ _ l1 true _ ?side1 ?side2 ?side3 ?side4 A38.out).mono ?_); (case side1 => repeat (first | exact (Kd.R_reads' HO641.out).2.2 | (with_reducible refine Kd.C_alloc ?_ _) | (with_reducible refine Kd.C_drewN ?_ _) | (with_reducible refine Kd.C_drew ?_))); (case side2 => exact (Kd.R_reads' HO641.out).2.1); (case side3 => repeat (first | exact (Kd.C_below HR1.out (by repeat (first | (with_reducible first | exact HB.out | apply below_alloc | apply pw_below_drewN | apply below_drew1) | exact HB.out))) | (with_reducible refine Kd.C_alloc ?_ _) | (with_reducible refine Kd.C_drewN ?_ _) | (with_reducible refine Kd.C_drew ?_))); (case side4 => exact HC1.out); rintro e w' ⟨rfl, ⟨nd, rfl⟩⟩) | (go_at_call 16; (with_reducible refine (wigeonlaw08_known.calls kj10  t644 _ A40.out).mono ?_); rintro e w47 ⟨rfl, hb⟩; have n0_ := Aside0.mk (Kd.R_below (by (with_reducible repeat (first | apply Kd.R_alloc | apply Kd.R_drewN | apply Kd.R_drew)); exact HO_5.out) hb); have n1_ := Aside0.mk (Kd.R_below (by (with_reducible repeat (first | apply Kd.R_alloc | apply Kd.R_drewN | apply Kd.R_drew)); exact HO_9.out) hb); have n2_ := Aside0.mk (Kd.R_below (by (with_reducible repeat (first | apply Kd.R_alloc | apply Kd.R_drewN | apply Kd.R_drew)); exact HO637.out) hb); have n3_ := Aside0.mk (Kd.R_below (by (with_reducible repeat (first | apply Kd.R_alloc | apply Kd.R_drewN | apply Kd.R_drew)); exact HO641.out) hb); have n4_ := Aside0.mk (below_step (by repeat (first | (with_reducible first | exact HB.out | apply below_alloc | apply pw_below_drewN | apply below_drew1) | exact HB.out)) hb); clear HO_5; clear HO_9; clear HO637; clear HO641; clear HB; have HO_5 := n0_; have HO_9 := n1_; have HO637 := n2_; have HO641 := n3_; have HB := n4_; clear n0_ n1_ n2_ n3_ n4_; (try clear hb); (try clear hb2); (try clear hk); (try clear hi)))
           go_ret
           exact ⟨by first | rfl | (simp [errW_none, errW_some] <;> rfl) | (simp [*, errW_none, errW_some] <;> rfl), by repeat (first | (with_reducible first | exact HB.out | apply below_alloc | apply pw_below_drewN | apply below_drew1) | exact HB.out)⟩
          ·replace c39 := Bool.eq_false_iff.mpr c39
           subst c39
           have H1 : (none) = some r := by rw [if_neg (show ¬ (false = true) by decide)] at H; exact H
           exact absurd H1 (by simp)
         ·rw [if_neg c37] at H
          exact absurd H (by simp)
        ·rw [if_neg c36] at H
         have c36b0 : (t625 == 0) = false := beq_eq_false_iff_ne.mpr c36
         have c36b1 : (t625 != 0) = true := bne_iff_ne.mpr c36
         replace H := Option.bind_eq_some_iff.mp H
         obtain ⟨t645, A590, H⟩ := H
         replace H : (some t645) = some r := H
         have A59 := Aside0.mk A590
         clear A590
         obtain rfl := Option.some.inj H
         obtain ⟨Ao60, co60, eo60⟩ := Kd.R_slice HO_5.out
         subst eo60
         go_wp2_with (first | ((with_reducible refine gate_callee (f := 36) rfl ?_); refine goesL_ (some 63) rfl rfl Tryd.func36 (by kernel_rfl) rfl #[.slice Ao60 t616.length co60] rfl (by (try simp only [List.map_toArray, List.map_cons, List.map_nil]); first | done | rfl | (simp only [List.length_drop, List.length_take]; rfl)) ?_; (with_reducible refine (purse_FromDividends.calls kj10 _ _ t616 t634 t635 _ ?side1 ?side2 A30.out).mono ?_); (case side1 => repeat (first | exact (Kd.R_reads' HO_5.out).2.2 | (with_reducible refine Kd.C_alloc ?_ _) | (with_reducible refine Kd.C_drewN ?_ _) | (with_reducible refine Kd.C_drew ?_))); (case side2 => exact (Kd.R_reads' HO_5.out).2.1); rintro e w61 ⟨v636, rfl, ho0, hb⟩; refine ⟨_, rfl, ?_⟩; have n0_ := Aside0.mk (Kd.R_elder' (by (with_reducible repeat (first | apply Kd.R_alloc | apply Kd.R_drewN | apply Kd.R_drew)); exact HO_5.out) (Kd.R_base ho0) hb); have n1_ := Aside0.mk (Kd.R_elder' (by (with_reducible repeat (first | apply Kd.R_alloc | apply Kd.R_drewN | apply Kd.R_drew)); exact HO_9.out) (Kd.R_base ho0) hb); have n2_ := Aside0.mk (Kd.R_lower (Kd.R_new' (Kd.R_new' ho0 (Kd.R_lt (by (with_reducible repeat (first | apply Kd.R_alloc | apply Kd.R_drewN | apply Kd.R_drew)); exact HO_5.out))) (Kd.R_lt (by (with_reducible repeat (first | apply Kd.R_alloc | apply Kd.R_drewN | apply Kd.R_drew)); exact HO_9.out))) (below_size (by repeat (first | (with_reducible first | exact HB.out | apply below_alloc | apply pw_below_drewN | apply below_drew1) | exact HB.out)))); have n3_ := Aside0.mk (below_step (by repeat (first | (with_reducible first | exact HB.out | apply below_alloc | apply pw_below_drewN | apply below_drew1) | exact HB.out)) hb); clear HO_5; clear HO_9; clear HB; have HO_5 := n0_; have HO_9 := n1_; have HO637 := n2_; have HB := n3_; clear n0_ n1_ n2_ n3_; (try clear hb); (try clear hb2); (try clear hk); (try clear hi); (try clear ho0); obtain ⟨Ao62, co62, eo62⟩ := Kd.R_slice HO_9.out; subst eo62) | ((with_reducible refine gate_callee (f := 26) rfl ?_); refine goesL_ (some 68) rfl rfl Tryd.func26 (by kernel_rfl) rfl #[.slice Ao62 t624.length co62] rfl (by (try simp only [List.map_toArray, List.map_cons, List.map_nil]); first | done | rfl | (simp only [List.length_drop, List.length_take]; rfl)) ?_; (with_reducible refine (purse_Dividends.calls kj10 _ _ t624 t638 t639 _ ?side1 ?side2 A31.out).mono ?_); (case side1 => repeat (first | exact (Kd.R_reads' HO_9.out).2.2 | (with_reducible refine Kd.C_alloc ?_ _) | (with_reducible refine Kd.C_drewN ?_ _) | (with_reducible refine Kd.C_drew ?_))); (case side2 => exact (Kd.R_reads' HO_9.out).2.1); rintro e w63 ⟨v640, rfl, ho0, hb⟩; refine ⟨_, rfl, ?_⟩; have n0_ := Aside0.mk (Kd.R_elder' (by (with_reducible repeat (first | apply Kd.R_alloc | apply Kd.R_drewN | apply Kd.R_drew)); exact HO_5.out) (Kd.R_base ho0) hb); have n1_ := Aside0.mk (Kd.R_elder' (by (with_reducible repeat (first | apply Kd.R_alloc | apply Kd.R_drewN | apply Kd.R_drew)); exact HO_9.out) (Kd.R_base ho0) hb); have n2_ := Aside0.mk (Kd.R_elder' (by (with_reducible repeat (first | apply Kd.R_alloc | apply Kd.R_drewN | apply Kd.R_drew)); exact HO637.out) (Kd.R_base ho0) hb); have n3_ := Aside0.mk (Kd.R_lower (Kd.R_new' (Kd.R_new' (Kd.R_new' ho0 (Kd.R_lt (by (with_reducible repeat (first | apply Kd.R_alloc | apply Kd.R_drewN | apply Kd.R_drew)); exact HO_5.out))) (Kd.R_lt (by (with_reducible repeat (first | apply Kd.R_alloc | apply Kd.R_drewN | apply Kd.R_drew)); exact HO_9.out))) (Kd.R_lt (by (with_reducible repeat (first | apply Kd.R_alloc | apply Kd.R_drewN | apply Kd.R_drew)); exact HO637.out))) (below_size (by repeat (first | (with_reducible first | exact HB.out | apply below_alloc | apply pw_below_drewN | apply below_drew1) | exact HB.out)))); have n4_ := Aside0.mk (below_step (by repeat (first | (with_reducible first | exact HB.out | apply below_alloc | apply pw_below_drewN | apply below_drew1) | exact HB.out)) hb); clear HO_5; clear HO_9; clear HO637; clear HB; have HO_5 := n0_; have HO_9 := n1_; have HO637 := n2_; have HO641 := n3_; have HB := n4_; clear n0_ n1_ n2_ n3_ n4_; (try clear hb); (try clear hb2); (try clear hk); (try clear hi); (try clear ho0); obtain ⟨Ao64, co64, eo64⟩ := Kd.R_slice HO637.out; subst eo64) | (go_at_call 32; (with_reducible refine (wigeonref08_SameInts.calls kj10 _ _ t634 _ _ l0 true _ ?side1 ?side2 ?side3 ?side4 A34.out).mono ?_); (case side1 => repeat (first | exact (Kd.R_reads' HO637.out).2.2 | (with_reducible refine Kd.C_alloc ?_ _) | (with_reducible refine Kd.C_drewN ?_ _) | (with_reducible refine Kd.C_drew ?_))); (case side2 => exact (Kd.R_reads' HO637.out).2.1); (case side3 => repeat (first | exact (Kd.C_below HR0.out HB.out) | (with_reducible refine Kd.C_alloc ?_ _) | (with_reducible refine Kd.C_drewN ?_ _) | (with_reducible refine Kd.C_drew ?_))); (case side4 => exact HC0.out); rintro e w' ⟨rfl, ⟨nd, rfl⟩⟩) | (go_at_call 16; (with_reducible refine (wigeonlaw08_known.calls kj10  t645 _ A59.out).mono ?_); rintro e w65 ⟨rfl, hb⟩; have n0_ := Aside0.mk (Kd.R_below (by (with_reducible repeat (first | apply Kd.R_alloc | apply Kd.R_drewN | apply Kd.R_drew)); exact HO_5.out) hb); have n1_ := Aside0.mk (Kd.R_below (by (with_reducible repeat (first | apply Kd.R_alloc | apply Kd.R_drewN | apply Kd.R_drew)); exact HO_9.out) hb); have n2_ := Aside0.mk (Kd.R_below (by (with_reducible repeat (first | apply Kd.R_alloc | apply Kd.R_drewN | apply Kd.R_drew)); exact HO637.out) hb); have n3_ := Aside0.mk (Kd.R_below (by (with_reducible repeat (first | apply Kd.R_alloc | apply Kd.R_drewN | apply Kd.R_drew)); exact HO641.out) hb); have n4_ := Aside0.mk (below_step (by repeat (first | (with_reducible first | exact HB.out | apply below_alloc | apply pw_below_drewN | apply below_drew1) | exact HB.out)) hb); clear HO_5; clear HO_9; clear HO637; clear HO641; clear HB; have HO_5 := n0_; have HO_9 := n1_; have HO637 := n2_; have HO641 := n3_; have HB := n4_; clear n0_ n1_ n2_ n3_ n4_; (try clear hb); (try clear hb2); (try clear hk); (try clear hi)))
         go_ret
         exact ⟨by first | rfl | (simp [errW_none, errW_some] <;> rfl) | (simp [*, errW_none, errW_some] <;> rfl), by repeat (first | (with_reducible first | exact HB.out | apply below_alloc | apply pw_below_drewN | apply below_drew1) | exact HB.out)⟩
       ·replace c35 := Bool.eq_false_iff.mpr c35
        subst c35
        have H1 : (none) = some r := by rw [if_neg (show ¬ (false = true) by decide)] at H; exact H
        exact absurd H1 (by simp)
      ·rw [if_neg c33] at H
       exact absurd H (by simp)
     ·rw [if_neg c32] at H
      have c32b0 : (t617 == 0) = false := beq_eq_false_iff_ne.mpr c32
      have c32b1 : (t617 != 0) = true := bne_iff_ne.mpr c32
      by_cases c75 : t625 = 0
      ·rw [if_pos c75] at H
       have c75b0 : (t625 == 0) = true := beq_iff_eq.mpr c75
       have c75b1 : (t625 != 0) = false := bne_eq_false_iff_eq.mpr c75
       clear c75
       by_cases c76 : t639 = 0
       ·rw [if_pos c76] at H
        have c76b0 : (t639 == 0) = true := beq_iff_eq.mpr c76
        have c76b1 : (t639 != 0) = false := bne_eq_false_iff_eq.mpr c76
        clear c76
        replace H := Option.bind_eq_some_iff.mp H
        obtain ⟨t646, A770, H⟩ := H
        replace H : (if t646 = true then ((wigeonlaw08_known.f kj10).bind fun t647 => (some t647)) else (none)) = some r := H
        have A77 := Aside0.mk A770
        clear A770
        by_cases c78 : t646 = true
        ·subst c78
         have H1 : ((wigeonlaw08_known.f kj10).bind fun t647 => (some t647)) = some r := by rw [if_pos rfl] at H; exact H
         clear H
         have H := H1
         clear H1
         replace H := Option.bind_eq_some_iff.mp H
         obtain ⟨t647, A790, H⟩ := H
         replace H : (some t647) = some r := H
         have A79 := Aside0.mk A790
         clear A790
         obtain rfl := Option.some.inj H
         obtain ⟨Ao80, co80, eo80⟩ := Kd.R_slice HO_5.out
         subst eo80
         go_wp2_with (first | ((with_reducible refine gate_callee (f := 36) rfl ?_); refine goesL_ (some 63) rfl rfl Tryd.func36 (by kernel_rfl) rfl #[.slice Ao80 t616.length co80] rfl (by (try simp only [List.map_toArray, List.map_cons, List.map_nil]); first | done | rfl | (simp only [List.length_drop, List.length_take]; rfl)) ?_; (with_reducible refine (purse_FromDividends.calls kj10 _ _ t616 t634 t635 _ ?side1 ?side2 A30.out).mono ?_); (case side1 => repeat (first | exact (Kd.R_reads' HO_5.out).2.2 | (with_reducible refine Kd.C_alloc ?_ _) | (with_reducible refine Kd.C_drewN ?_ _) | (with_reducible refine Kd.C_drew ?_))); (case side2 => exact (Kd.R_reads' HO_5.out).2.1); rintro e w81 ⟨v636, rfl, ho0, hb⟩; refine ⟨_, rfl, ?_⟩; have n0_ := Aside0.mk (Kd.R_elder' (by (with_reducible repeat (first | apply Kd.R_alloc | apply Kd.R_drewN | apply Kd.R_drew)); exact HO_5.out) (Kd.R_base ho0) hb); have n1_ := Aside0.mk (Kd.R_elder' (by (with_reducible repeat (first | apply Kd.R_alloc | apply Kd.R_drewN | apply Kd.R_drew)); exact HO_9.out) (Kd.R_base ho0) hb); have n2_ := Aside0.mk (Kd.R_lower (Kd.R_new' (Kd.R_new' ho0 (Kd.R_lt (by (with_reducible repeat (first | apply Kd.R_alloc | apply Kd.R_drewN | apply Kd.R_drew)); exact HO_5.out))) (Kd.R_lt (by (with_reducible repeat (first | apply Kd.R_alloc | apply Kd.R_drewN | apply Kd.R_drew)); exact HO_9.out))) (below_size (by repeat (first | (with_reducible first | exact HB.out | apply below_alloc | apply pw_below_drewN | apply below_drew1) | exact HB.out)))); have n3_ := Aside0.mk (below_step (by repeat (first | (with_reducible first | exact HB.out | apply below_alloc | apply pw_below_drewN | apply below_drew1) | exact HB.out)) hb); clear HO_5; clear HO_9; clear HB; have HO_5 := n0_; have HO_9 := n1_; have HO637 := n2_; have HB := n3_; clear n0_ n1_ n2_ n3_; (try clear hb); (try clear hb2); (try clear hk); (try clear hi); (try clear ho0); obtain ⟨Ao82, co82, eo82⟩ := Kd.R_slice HO_9.out; subst eo82) | ((with_reducible refine gate_callee (f := 26) rfl ?_); refine goesL_ (some 68) rfl rfl Tryd.func26 (by kernel_rfl) rfl #[.slice Ao82 t624.length co82] rfl (by (try simp only [List.map_toArray, List.map_cons, List.map_nil]); first | done | rfl | (simp only [List.length_drop, List.length_take]; rfl)) ?_; (with_reducible refine (purse_Dividends.calls kj10 _ _ t624 t638 t639 _ ?side1 ?side2 A31.out).mono ?_); (case side1 => repeat (first | exact (Kd.R_reads' HO_9.out).2.2 | (with_reducible refine Kd.C_alloc ?_ _) | (with_reducible refine Kd.C_drewN ?_ _) | (with_reducible refine Kd.C_drew ?_))); (case side2 => exact (Kd.R_reads' HO_9.out).2.1); rintro e w83 ⟨v640, rfl, ho0, hb⟩; refine ⟨_, rfl, ?_⟩; have n0_ := Aside0.mk (Kd.R_elder' (by (with_reducible repeat (first | apply Kd.R_alloc | apply Kd.R_drewN | apply Kd.R_drew)); exact HO_5.out) (Kd.R_base ho0) hb); have n1_ := Aside0.mk (Kd.R_elder' (by (with_reducible repeat (first | apply Kd.R_alloc | apply Kd.R_drewN | apply Kd.R_drew)); exact HO_9.out) (Kd.R_base ho0) hb); have n2_ := Aside0.mk (Kd.R_elder' (by (with_reducible repeat (first | apply Kd.R_alloc | apply Kd.R_drewN | apply Kd.R_drew)); exact HO637.out) (Kd.R_base ho0) hb); have n3_ := Aside0.mk (Kd.R_lower (Kd.R_new' (Kd.R_new' (Kd.R_new' ho0 (Kd.R_lt (by (with_reducible repeat (first | apply Kd.R_alloc | apply Kd.R_drewN | apply Kd.R_drew)); exact HO_5.out))) (Kd.R_lt (by (with_reducible repeat (first | apply Kd.R_alloc | apply Kd.R_drewN | apply Kd.R_drew)); exact HO_9.out))) (Kd.R_lt (by (with_reducible repeat (first | apply Kd.R_alloc | apply Kd.R_drewN | apply Kd.R_drew)); exact HO637.out))) (below_size (by repeat (first | (with_reducible first | exact HB.out | apply below_alloc | apply pw_below_drewN | apply below_drew1) | exact HB.out)))); have n4_ := Aside0.mk (below_step (by repeat (first | (with_reducible first | exact HB.out | apply below_alloc | apply pw_below_drewN | apply below_drew1) | exact HB.out)) hb); clear HO_5; clear HO_9; clear HO637; clear HB; have HO_5 := n0_; have HO_9 := n1_; have HO637 := n2_; have HO641 := n3_; have HB := n4_; clear n0_ n1_ n2_ n3_ n4_; (try clear hb); (try clear hb2); (try clear hk); (try clear hi); (try clear ho0); obtain ⟨Ao84, co84, eo84⟩ := Kd.R_slice HO641.out; subst eo84) | (go_at_call 32; (with_reducible refine (wigeonref08_SameInts.calls kj10 _ _ t638 _ _ l1 true _ ?side1 ?side2 ?side3 ?side4 A77.out).mono ?_); (case side1 => repeat (first | exact (Kd.R_reads' HO641.out).2.2 | (with_reducible refine Kd.C_alloc ?_ _) | (with_reducible refine Kd.C_drewN ?_ _) | (with_reducible refine Kd.C_drew ?_))); (case side2 => exact (Kd.R_reads' HO641.out).2.1); (case side3 => repeat (first | exact (Kd.C_below HR1.out HB.out) | (with_reducible refine Kd.C_alloc ?_ _) | (with_reducible refine Kd.C_drewN ?_ _) | (with_reducible refine Kd.C_drew ?_))); (case side4 => exact HC1.out); rintro e w' ⟨rfl, ⟨nd, rfl⟩⟩) | (go_at_call 16; (with_reducible refine (wigeonlaw08_known.calls kj10  t647 _ A79.out).mono ?_); rintro e w85 ⟨rfl, hb⟩; have n0_ := Aside0.mk (Kd.R_below (by (with_reducible repeat (first | apply Kd.R_alloc | apply Kd.R_drewN | apply Kd.R_drew)); exact HO_5.out) hb); have n1_ := Aside0.mk (Kd.R_below (by (with_reducible repeat (first | apply Kd.R_alloc | apply Kd.R_drewN | apply Kd.R_drew)); exact HO_9.out) hb); have n2_ := Aside0.mk (Kd.R_below (by (with_reducible repeat (first | apply Kd.R_alloc | apply Kd.R_drewN | apply Kd.R_drew)); exact HO637.out) hb); have n3_ := Aside0.mk (Kd.R_below (by (with_reducible repeat (first | apply Kd.R_alloc | apply Kd.R_drewN | apply Kd.R_drew)); exact HO641.out) hb); have n4_ := Aside0.mk (below_step (by repeat (first | (with_reducible first | exact HB.out | apply below_alloc | apply pw_below_drewN | apply below_drew1) | exact HB.out)) hb); clear HO_5; clear HO_9; clear HO637; clear HO641; clear HB; have HO_5 := n0_; have HO_9 := n1_; have HO637 := n2_; have HO641 := n3_; have HB := n4_; clear n0_ n1_ n2_ n3_ n4_; (try clear hb); (try clear hb2); (try clear hk); (try clear hi)))
         go_ret
         exact ⟨by first | rfl | (simp [errW_none, errW_some] <;> rfl) | (simp [*, errW_none, errW_some] <;> rfl), by repeat (first | (with_reducible first | exact HB.out | apply below_alloc | apply pw_below_drewN | apply below_drew1) | exact HB.out)⟩
        ·replace c78 := Bool.eq_false_iff.mpr c78
         subst c78
         have H1 : (none) = some r := by rw [if_neg (show ¬ (false = true) by decide)] at H; exact H
         exact absurd H1 (by simp)
       ·rw [if_neg c76] at H
        exact absurd H (by simp)
      ·rw [if_neg c75] at H
       have c75b0 : (t625 == 0) = false := beq_eq_false_iff_ne.mpr c75
       have c75b1 : (t625 != 0) = true := bne_iff_ne.mpr c75
       replace H := Option.bind_eq_some_iff.mp H
       obtain ⟨t648, A950, H⟩ := H
       replace H : (some t648) = some r := H
       have A95 := Aside0.mk A950
       clear A950
       obtain rfl := Option.some.inj H
       obtain ⟨Ao96, co96, eo96⟩ := Kd.R_slice HO_5.out
       subst eo96
       go_wp2_with (first | ((with_reducible refine gate_callee (f := 36) rfl ?_); refine goesL_ (some 63) rfl rfl Tryd.func36 (by kernel_rfl) rfl #[.slice Ao96 t616.length co96] rfl (by (try simp only [List.map_toArray, List.map_cons, List.map_nil]); first | done | rfl | (simp only [List.length_drop, List.length_take]; rfl)) ?_; (with_reducible refine (purse_FromDividends.calls kj10 _ _ t616 t634 t635 _ ?side1 ?side2 A30.out).mono ?_); (case side1 => repeat (first | exact (Kd.R_reads' HO_5.out).2.2 | (with_reducible refine Kd.C_alloc ?_ _) | (with_reducible refine Kd.C_drewN ?_ _) | (with_reducible refine Kd.C_drew ?_))); (case side2 => exact (Kd.R_reads' HO_5.out).2.1); rintro e w97 ⟨v636, rfl, ho0, hb⟩; refine ⟨_, rfl, ?_⟩; have n0_ := Aside0.mk (Kd.R_elder' (by (with_reducible repeat (first | apply Kd.R_alloc | apply Kd.R_drewN | apply Kd.R_drew)); exact HO_5.out) (Kd.R_base ho0) hb); have n1_ := Aside0.mk (Kd.R_elder' (by (with_reducible repeat (first | apply Kd.R_alloc | apply Kd.R_drewN | apply Kd.R_drew)); exact HO_9.out) (Kd.R_base ho0) hb); have n2_ := Aside0.mk (Kd.R_lower (Kd.R_new' (Kd.R_new' ho0 (Kd.R_lt (by (with_reducible repeat (first | apply Kd.R_alloc | apply Kd.R_drewN | apply Kd.R_drew)); exact HO_5.out))) (Kd.R_lt (by (with_reducible repeat (first | apply Kd.R_alloc | apply Kd.R_drewN | apply Kd.R_drew)); exact HO_9.out))) (below_size (by repeat (first | (with_reducible first | exact HB.out | apply below_alloc | apply pw_below_drewN | apply below_drew1) | exact HB.out)))); have n3_ := Aside0.mk (below_step (by repeat (first | (with_reducible first | exact HB.out | apply below_alloc | apply pw_below_drewN | apply below_drew1) | exact HB.out)) hb); clear HO_5; clear HO_9; clear HB; have HO_5 := n0_; have HO_9 := n1_; have HO637 := n2_; have HB := n3_; clear n0_ n1_ n2_ n3_; (try clear hb); (try clear hb2); (try clear hk); (try clear hi); (try clear ho0); obtain ⟨Ao98, co98, eo98⟩ := Kd.R_slice HO_9.out; subst eo98) | ((with_reducible refine gate_callee (f := 26) rfl ?_); refine goesL_ (some 68) rfl rfl Tryd.func26 (by kernel_rfl) rfl #[.slice Ao98 t624.length co98] rfl (by (try simp only [List.map_toArray, List.map_cons, List.map_nil]); first | done | rfl | (simp only [List.length_drop, List.length_take]; rfl)) ?_; (with_reducible refine (purse_Dividends.calls kj10 _ _ t624 t638 t639 _ ?side1 ?side2 A31.out).mono ?_); (case side1 => repeat (first | exact (Kd.R_reads' HO_9.out).2.2 | (with_reducible refine Kd.C_alloc ?_ _) | (with_reducible refine Kd.C_drewN ?_ _) | (with_reducible refine Kd.C_drew ?_))); (case side2 => exact (Kd.R_reads' HO_9.out).2.1); rintro e w99 ⟨v640, rfl, ho0, hb⟩; refine ⟨_, rfl, ?_⟩; have n0_ := Aside0.mk (Kd.R_elder' (by (with_reducible repeat (first | apply Kd.R_alloc | apply Kd.R_drewN | apply Kd.R_drew)); exact HO_5.out) (Kd.R_base ho0) hb); have n1_ := Aside0.mk (Kd.R_elder' (by (with_reducible repeat (first | apply Kd.R_alloc | apply Kd.R_drewN | apply Kd.R_drew)); exact HO_9.out) (Kd.R_base ho0) hb); have n2_ := Aside0.mk (Kd.R_elder' (by (with_reducible repeat (first | apply Kd.R_alloc | apply Kd.R_drewN | apply Kd.R_drew)); exact HO637.out) (Kd.R_base ho0) hb); have n3_ := Aside0.mk (Kd.R_lower (Kd.R_new' (Kd.R_new' (Kd.R_new' ho0 (Kd.R_lt (by (with_reducible repeat (first | apply Kd.R_alloc | apply Kd.R_drewN | apply Kd.R_drew)); exact HO_5.out))) (Kd.R_lt (by (with_reducible repeat (first | apply Kd.R_alloc | apply Kd.R_drewN | apply Kd.R_drew)); exact HO_9.out))) (Kd.R_lt (by (with_reducible repeat (first | apply Kd.R_alloc | apply Kd.R_drewN | apply Kd.R_drew)); exact HO637.out))) (below_size (by repeat (first | (with_reducible first | exact HB.out | apply below_alloc | apply pw_below_drewN | apply below_drew1) | exact HB.out)))); have n4_ := Aside0.mk (below_step (by repeat (first | (with_reducible first | exact HB.out | apply below_alloc | apply pw_below_drewN | apply below_drew1) | exact HB.out)) hb); clear HO_5; clear HO_9; clear HO637; clear HB; have HO_5 := n0_; have HO_9 := n1_; have HO637 := n2_; have HO641 := n3_; have HB := n4_; clear n0_ n1_ n2_ n3_ n4_; (try clear hb); (try clear hb2); (try clear hk); (try clear hi); (try clear ho0)) | (go_at_call 16; (with_reducible refine (wigeonlaw08_known.calls kj10  t648 _ A95.out).mono ?_); rintro e w100 ⟨rfl, hb⟩; have n0_ := Aside0.mk (Kd.R_below (by (with_reducible repeat (first | apply Kd.R_alloc | apply Kd.R_drewN | apply Kd.R_drew)); exact HO_5.out) hb); have n1_ := Aside0.mk (Kd.R_below (by (with_reducible repeat (first | apply Kd.R_alloc | apply Kd.R_drewN | apply Kd.R_drew)); exact HO_9.out) hb); have n2_ := Aside0.mk (Kd.R_below (by (with_reducible repeat (first | apply Kd.R_alloc | apply Kd.R_drewN | apply Kd.R_drew)); exact HO637.out) hb); have n3_ := Aside0.mk (Kd.R_below (by (with_reducible repeat (first | apply Kd.R_alloc | apply Kd.R_drewN | apply Kd.R_drew)); exact HO641.out) hb); have n4_ := Aside0.mk (below_step (by repeat (first | (with_reducible first | exact HB.out | apply below_alloc | apply pw_below_drewN | apply below_drew1) | exact HB.out)) hb); clear HO_5; clear HO_9; clear HO637; clear HO641; clear HB; have HO_5 := n0_; have HO_9 := n1_; have HO637 := n2_; have HO641 := n3_; have HB := n4_; clear n0_ n1_ n2_ n3_ n4_; (try clear hb); (try clear hb2); (try clear hk); (try clear hi)))
       go_ret
       exact ⟨by first | rfl | (simp [errW_none, errW_some] <;> rfl) | (simp [*, errW_none, errW_some] <;> rfl), by repeat (first | (with_reducible first | exact HB.out | apply below_alloc | apply pw_below_drewN | apply below_drew1) | exact HB.out)⟩

/-- THE ONE PURE STATEMENT of wigeonlaw08_PurseDividends: yours. -/
def wigeonlaw08_PurseDividends.Pure : Prop := ∀ (l0 : List Int) (l1 : List Int), l0.length ≤ maxLen → l0.length * 8 ≤ 140737488351232 → (∀ x ∈ l0, (Lit.int .i64 x).wf = true) → l1.length ≤ maxLen → l1.length * 8 ≤ 140737488351232 → (∀ x ∈ l1, (Lit.int .i64 x).wf = true) → ∃ k, wigeonlaw08_PurseDividends.f k l0 l1 = some true
theorem wigeonlaw08_PurseDividends.walk (P : wigeonlaw08_PurseDividends.Pure) (a0 : Option Addr) (len0 cap0 : Nat) (z0 : List Int) (a1 : Option Addr) (len1 cap1 : Nat) (z1 : List Int) (w : World) (HT : Hid (BitsW w)) (w0 : (a0 = none ∧ len0 = 0 ∧ cap0 = 0 ∧ z0 = []) ∨ ∃ x, a0 = some x ∧ len0 ≤ cap0 ∧ cap0 ≤ maxLen ∧ z0.length = cap0 ∧ (∀ i, i < z0.length → w.cell? (x.add i) = some (.int .i64 (z0.getD i 0))) ∧ ∀ n ∈ z0, (Lit.int .i64 n).wf = true) (y0 : len0 * 8 ≤ 140737488351232) (w1 : (a1 = none ∧ len1 = 0 ∧ cap1 = 0 ∧ z1 = []) ∨ ∃ x, a1 = some x ∧ len1 ≤ cap1 ∧ cap1 ≤ maxLen ∧ z1.length = cap1 ∧ (∀ i, i < z1.length → w.cell? (x.add i) = some (.int .i64 (z1.getD i 0))) ∧ ∀ n ∈ z1, (Lit.int .i64 n).wf = true) (y1 : len1 * 8 ≤ 140737488351232) :
  Calls Tryd.prog 11 #[.slice a0 len0 cap0, .slice a1 len1 cap1] w fun e w' => e = .returned (.bool true) ∧ Below w.heap.size w w' := by
 obtain ⟨l0, rfl, hr0, hm0, hw0, hc0⟩ := ReadsInt.ofRowC w0
 obtain ⟨l1, rfl, hr1, hm1, hw1, hc1⟩ := ReadsInt.ofRowC w1
 obtain ⟨k, h⟩ := P l0 l1 hm0 y0 hw0 hm1 y1 hw1
 refine (wigeonlaw08_PurseDividends.calls k _ _ l0 _ _ l1 true w HT (Kd.C_of_reads (d := (0 : Int)) (h1 := fun _ => rfl) hr0) hc0 (Kd.C_of_reads (d := (0 : Int)) (h1 := fun _ => rfl) hr1) hc1 h).mono ?_
 rintro e w' ⟨rfl, hd⟩
 exact ⟨rfl, hd⟩

end Go.Proofs.YtjphklemnhgkiaaDoor.Q
