-- Written by a program of this session (wip/tools/gprint.py, over the kit's print); Lean checks it.
import Derived.Test.YthihlapmkcelpaaDoorQx0
import Derived.Test.YthihlapmkcelpaaDoorQx2
import Derived.Test.YthihlapmkcelpaaDoorQx7
import Derived.Test.YthihlapmkcelpaaDoorQx10
import Derived.Test.YthihlapmkcelpaaDoorQx16
import Derived.Test.YthihlapmkcelpaaDoorQx17
namespace Go.Proofs.YthihlapmkcelpaaDoor.Q
open Go.RowKit Go.Proofs.YthihlapmkcelpaaDoorW.PrintWords Go.Proofs.YthihlapmkcelpaaDoorW.PrintLast Go.Proofs.YthihlapmkcelpaaDoorW.PrintMore
attribute [local go_sem] max2_int min2_int max_two min_two max_three min_three max_four min_four   -- for this text's walks alone
set_option linter.unusedVariables false
set_option linter.unusedSimpArgs false

/-! ### wigeonlaw03_WindFewest: function 14 -/
def wigeonlaw03_WindFewest.j0 : Nat → List (S33) → Bool → Int → Bool → Option (Bool)
  | 0, _, _, _, _ => none
  | k + 1, x0, x4, x5, x39 => if x39 = true then (some false) else ((wind_Lee.f k x0).bind fun bt340 => (if x5 = 0 then (if bt340.2 = 0 then (if (x4 == (bt340.1 == 0)) = true then ((wigeonlaw03_known.f).bind fun t342 => (some t342)) else (some false)) else (some false)) else ((wigeonlaw03_known.f).bind fun t343 => (some t343))))
def wigeonlaw03_WindFewest.f (k : Nat) (l0 : List (S33)) : Option (Bool) := (wigeonlaw03_Many.f l0).bind fun t327 => (if t327 = true then ((wigeonlaw03_known.f).bind fun t328 => (some t328)) else ((wind_Fewest.f k l0).bind fun bt329 => ((wigeonref03_Fewest.f k l0).bind fun bt334 => ((wigeonref03_SameInts.f k bt329.1 bt334.1).bind fun t339 => (if t339 = true then (if (bt329.2.1 != bt334.2.1) = true then (wigeonlaw03_WindFewest.j0 k l0 bt329.2.1 bt329.2.2 true) else (wigeonlaw03_WindFewest.j0 k l0 bt329.2.1 bt329.2.2 (bt329.2.2 != bt334.2.2))) else (wigeonlaw03_WindFewest.j0 k l0 bt329.2.1 bt329.2.2 true))))))
theorem wigeonlaw03_WindFewest.mono_l : ∀ k, (∀ y0 y1 y2 y3, LeO (wigeonlaw03_WindFewest.j0 k y0 y1 y2 y3) (wigeonlaw03_WindFewest.j0 (k + 1) y0 y1 y2 y3))
  | 0 => fun _ _ _ _ r h => by simp [wigeonlaw03_WindFewest.j0] at h
  | k + 1 => by
    have ih0 := wigeonlaw03_WindFewest.mono_l k
    · intro y0 y1 y2 y3
      unfold wigeonlaw03_WindFewest.j0
      repeat' first
      | (with_reducible exact ih0 _ _ _ _)
      | (with_reducible exact wigeonref03_Fewest.mono _ _)
      | (with_reducible exact wigeonref03_SameInts.mono _ _ _)
      | (with_reducible exact wind_Fewest.mono _ _)
      | (with_reducible exact wind_Lee.mono _ _)
      | (with_reducible exact LeO.refl _)
      | (with_reducible exact LeO.none _)
      | (with_reducible refine LeO.ite ?_ ?_)
      | (with_reducible refine LeO.bind ?_ (fun _ => ?_))
      | exact ih0 _ _ _ _
      | exact wigeonref03_Fewest.mono _ _
      | exact wigeonref03_SameInts.mono _ _ _
      | exact wind_Fewest.mono _ _
      | exact wind_Lee.mono _ _
      | exact LeO.none _
      | refine LeO.ite ?_ ?_
      | refine LeO.bind ?_ (fun _ => ?_)
theorem wigeonlaw03_WindFewest.mono : ∀ a0 k, LeO (wigeonlaw03_WindFewest.f k a0) (wigeonlaw03_WindFewest.f (k + 1) a0) := by
  intro a0 k
  have ih0 := wigeonlaw03_WindFewest.mono_l k
  unfold wigeonlaw03_WindFewest.f
  repeat' first
      | (with_reducible exact ih0 _ _ _ _)
      | (with_reducible exact wigeonref03_Fewest.mono _ _)
      | (with_reducible exact wigeonref03_SameInts.mono _ _ _)
      | (with_reducible exact wind_Fewest.mono _ _)
      | (with_reducible exact wind_Lee.mono _ _)
      | (with_reducible exact LeO.refl _)
      | (with_reducible exact LeO.none _)
      | (with_reducible refine LeO.ite ?_ ?_)
      | (with_reducible refine LeO.bind ?_ (fun _ => ?_))
      | exact ih0 _ _ _ _
      | exact wigeonref03_Fewest.mono _ _
      | exact wigeonref03_SameInts.mono _ _ _
      | exact wind_Fewest.mono _ _
      | exact wind_Lee.mono _ _
      | exact LeO.none _
      | refine LeO.ite ?_ ?_
      | refine LeO.bind ?_ (fun _ => ?_)
set_option maxHeartbeats 8000000 in
set_option maxRecDepth 100000 in
theorem wigeonlaw03_WindFewest.calls (k : Nat) (A0 : Option Addr) (c0 : Nat) (l0 : List (S33)) (r : Bool) (w : World) (HS : Hid (SpaceW w)) (HT : Hid (BitsW w)) (hr0 : Kd.C k33 w A0 l0.length l0) (hc0 : l0.length ≤ c0) (h : wigeonlaw03_WindFewest.f k l0 = some r) :
    Calls Tryd.prog 14 #[.slice A0 l0.length c0] w fun e w' => e = .returned (.bool r) ∧ Below w.heap.size w w' := by
  have HR0 := Aside0.mk hr0
  have HC0 := Aside0.mk hc0
  clear hr0 hc0
  have HB := Aside0.mk (Below.refl w.heap.size w)
  have H : ((wigeonlaw03_Many.f l0).bind fun t327 => (if t327 = true then ((wigeonlaw03_known.f).bind fun t328 => (some t328)) else ((wind_Fewest.f k l0).bind fun bt329 => ((wigeonref03_Fewest.f k l0).bind fun bt334 => ((wigeonref03_SameInts.f k bt329.1 bt334.1).bind fun t339 => (if t339 = true then (if (bt329.2.1 != bt334.2.1) = true then (wigeonlaw03_WindFewest.j0 k l0 bt329.2.1 bt329.2.2 true) else (wigeonlaw03_WindFewest.j0 k l0 bt329.2.1 bt329.2.2 (bt329.2.2 != bt334.2.2))) else (wigeonlaw03_WindFewest.j0 k l0 bt329.2.1 bt329.2.2 true))))))) = some r := h
  clear h
  replace H := Option.bind_eq_some_iff.mp H
  obtain ⟨t327, A20, H⟩ := H
  replace H : (if t327 = true then ((wigeonlaw03_known.f).bind fun t328 => (some t328)) else ((wind_Fewest.f k l0).bind fun bt329 => ((wigeonref03_Fewest.f k l0).bind fun bt334 => ((wigeonref03_SameInts.f k bt329.1 bt334.1).bind fun t339 => (if t339 = true then (if (bt329.2.1 != bt334.2.1) = true then (wigeonlaw03_WindFewest.j0 k l0 bt329.2.1 bt329.2.2 true) else (wigeonlaw03_WindFewest.j0 k l0 bt329.2.1 bt329.2.2 (bt329.2.2 != bt334.2.2))) else (wigeonlaw03_WindFewest.j0 k l0 bt329.2.1 bt329.2.2 true)))))) = some r := H
  have A2 := Aside0.mk A20
  clear A20
  by_cases c3 : t327 = true
  · subst c3
    have H1 : ((wigeonlaw03_known.f).bind fun t328 => (some t328)) = some r := by rw [if_pos rfl] at H; exact H
    clear H
    have H := H1
    clear H1
    replace H := Option.bind_eq_some_iff.mp H
    obtain ⟨t328, A40, H⟩ := H
    replace H : (some t328) = some r := H
    have A4 := Aside0.mk A40
    clear A40
    obtain rfl := Option.some.inj H
    go_enter Tryd.func14, Tryd.ntmps14
    go_wp2_with (first | ((with_reducible refine gate_callee (f := 37) rfl ?_); refine goesL_ (some 12) rfl rfl Tryd.func37 (by kernel_rfl) rfl #[.slice A0 l0.length c0] rfl (by (try simp only [List.map_toArray, List.map_cons, List.map_nil]); first | done | rfl | (simp only [List.length_drop, List.length_take]; rfl)) ?_; (with_reducible refine (wigeonlaw03_Many.calls _ _ l0 true _ ?side1 ?side2 A2.out).mono ?_); (case side1 => repeat (first | exact HR0.out | (with_reducible refine Kd.C_alloc ?_ _) | (with_reducible refine Kd.C_drewN ?_ _) | (with_reducible refine Kd.C_drew ?_))); (case side2 => exact HC0.out); rintro e w' ⟨rfl, ⟨nd, rfl⟩⟩; refine ⟨_, rfl, ?_⟩) | ((with_reducible refine gate_callee (f := 16) rfl ?_); refine goesL_ (some 13) rfl rfl Tryd.func16 (by kernel_rfl) rfl #[] rfl (by (try simp only [List.map_toArray, List.map_cons, List.map_nil]); first | done | rfl | (simp only [List.length_drop, List.length_take]; rfl)) ?_; (with_reducible refine (wigeonlaw03_known.calls  t328 _ A4.out).mono ?_); rintro e w5 ⟨rfl, hb⟩; refine ⟨_, rfl, ?_⟩; have n0_ := Aside0.mk (below_step (by repeat (first | (with_reducible first | exact HB.out | apply below_alloc | apply pw_below_drewN | apply below_drew1) | exact HB.out)) hb); clear HB; have HB := n0_; clear n0_; (try clear hb); (try clear hb2); (try clear hk); (try clear hi)))
    go_ret
    exact ⟨by first | rfl | (simp [errW_none, errW_some] <;> rfl) | (simp [*, errW_none, errW_some] <;> rfl), by repeat (first | (with_reducible first | exact HB.out | apply below_alloc | apply pw_below_drewN | apply below_drew1) | exact HB.out)⟩
  · replace c3 := Bool.eq_false_iff.mpr c3
    subst c3
    have H1 : ((wind_Fewest.f k l0).bind fun bt329 => ((wigeonref03_Fewest.f k l0).bind fun bt334 => ((wigeonref03_SameInts.f k bt329.1 bt334.1).bind fun t339 => (if t339 = true then (if (bt329.2.1 != bt334.2.1) = true then (wigeonlaw03_WindFewest.j0 k l0 bt329.2.1 bt329.2.2 true) else (wigeonlaw03_WindFewest.j0 k l0 bt329.2.1 bt329.2.2 (bt329.2.2 != bt334.2.2))) else (wigeonlaw03_WindFewest.j0 k l0 bt329.2.1 bt329.2.2 true))))) = some r := by rw [if_neg (show ¬ (false = true) by decide)] at H; exact H
    clear H
    have H := H1
    clear H1
    replace H := Option.bind_eq_some_iff.mp H
    obtain ⟨⟨t329, t330, t331⟩, A60, H⟩ := H
    replace H : ((wigeonref03_Fewest.f k l0).bind fun bt334 => ((wigeonref03_SameInts.f k t329 bt334.1).bind fun t339 => (if t339 = true then (if (t330 != bt334.2.1) = true then (wigeonlaw03_WindFewest.j0 k l0 t330 t331 true) else (wigeonlaw03_WindFewest.j0 k l0 t330 t331 (t331 != bt334.2.2))) else (wigeonlaw03_WindFewest.j0 k l0 t330 t331 true)))) = some r := H
    have A6 := Aside0.mk A60
    clear A60
    replace H := Option.bind_eq_some_iff.mp H
    obtain ⟨⟨t334, t335, t336⟩, A70, H⟩ := H
    replace H : ((wigeonref03_SameInts.f k t329 t334).bind fun t339 => (if t339 = true then (if (t330 != t335) = true then (wigeonlaw03_WindFewest.j0 k l0 t330 t331 true) else (wigeonlaw03_WindFewest.j0 k l0 t330 t331 (t331 != t336))) else (wigeonlaw03_WindFewest.j0 k l0 t330 t331 true))) = some r := H
    have A7 := Aside0.mk A70
    clear A70
    have HC8 := Aside0.mk H
    clear H
    go_enter Tryd.func14, Tryd.ntmps14
    go_upto_region 5 with (first | ((with_reducible refine gate_callee (f := 37) rfl ?_); refine goesL_ (some 12) rfl rfl Tryd.func37 (by kernel_rfl) rfl #[.slice A0 l0.length c0] rfl (by (try simp only [List.map_toArray, List.map_cons, List.map_nil]); first | done | rfl | (simp only [List.length_drop, List.length_take]; rfl)) ?_; (with_reducible refine (wigeonlaw03_Many.calls _ _ l0 false _ ?side1 ?side2 A2.out).mono ?_); (case side1 => repeat (first | exact HR0.out | (with_reducible refine Kd.C_alloc ?_ _) | (with_reducible refine Kd.C_drewN ?_ _) | (with_reducible refine Kd.C_drew ?_))); (case side2 => exact HC0.out); rintro e w' ⟨rfl, ⟨nd, rfl⟩⟩; refine ⟨_, rfl, ?_⟩) | ((with_reducible refine gate_callee (f := 39) rfl ?_); refine goesL_ (some 16) rfl rfl Tryd.func39 (by kernel_rfl) rfl #[.slice A0 l0.length c0] rfl (by (try simp only [List.map_toArray, List.map_cons, List.map_nil]); first | done | rfl | (simp only [List.length_drop, List.length_take]; rfl)) ?_; (with_reducible refine (wind_Fewest.calls k _ _ l0 t329 t330 t331 _ ?side1 ?side2 A6.out).mono ?_); (case side1 => repeat (first | exact HR0.out | (with_reducible refine Kd.C_alloc ?_ _) | (with_reducible refine Kd.C_drewN ?_ _) | (with_reducible refine Kd.C_drew ?_))); (case side2 => exact HC0.out); rintro e w9 ⟨v332, rfl, ho0, hb⟩; refine ⟨_, rfl, ?_⟩; have n0_ := Aside0.mk (Kd.R_lower ho0 (below_size (by repeat (first | (with_reducible first | exact HB.out | apply below_alloc | apply pw_below_drewN | apply below_drew1) | exact HB.out)))); have n1_ := Aside0.mk (below_step (by repeat (first | (with_reducible first | exact HB.out | apply below_alloc | apply pw_below_drewN | apply below_drew1) | exact HB.out)) hb); clear HB; have HO333 := n0_; have HB := n1_; clear n0_ n1_; (try clear hb); (try clear hb2); (try clear hk); (try clear hi); (try clear ho0)) | ((with_reducible refine gate_callee (f := 56) rfl ?_); refine goesL_ (some 22) rfl rfl Tryd.func56 (by kernel_rfl) rfl #[.slice A0 l0.length c0] rfl (by (try simp only [List.map_toArray, List.map_cons, List.map_nil]); first | done | rfl | (simp only [List.length_drop, List.length_take]; rfl)) ?_; (with_reducible refine (wigeonref03_Fewest.calls k _ _ l0 t334 t335 t336 _ ?side1 ?side2 A7.out).mono ?_); (case side1 => repeat (first | exact (Kd.C_below HR0.out HB.out) | (with_reducible refine Kd.C_alloc ?_ _) | (with_reducible refine Kd.C_drewN ?_ _) | (with_reducible refine Kd.C_drew ?_))); (case side2 => exact HC0.out); rintro e w10 ⟨v337, rfl, ho0, hb⟩; refine ⟨_, rfl, ?_⟩; have n0_ := Aside0.mk (Kd.R_elder' (by (with_reducible repeat (first | apply Kd.R_alloc | apply Kd.R_drewN | apply Kd.R_drew)); exact HO333.out) (Kd.R_base ho0) hb); have n1_ := Aside0.mk (Kd.R_lower (Kd.R_new' ho0 (Kd.R_lt (by (with_reducible repeat (first | apply Kd.R_alloc | apply Kd.R_drewN | apply Kd.R_drew)); exact HO333.out))) (below_size (by repeat (first | (with_reducible first | exact HB.out | apply below_alloc | apply pw_below_drewN | apply below_drew1) | exact HB.out)))); have n2_ := Aside0.mk (below_step (by repeat (first | (with_reducible first | exact HB.out | apply below_alloc | apply pw_below_drewN | apply below_drew1) | exact HB.out)) hb); clear HO333; clear HB; have HO333 := n0_; have HO338 := n1_; have HB := n2_; clear n0_ n1_ n2_; (try clear hb); (try clear hb2); (try clear hk); (try clear hi); (try clear ho0)))
    (try simp only [Act.put, List.setIfInBounds_toArray, List.set_cons_zero, List.set_cons_succ])
    go_cut [39] (fun v39 wc => ∃ (kq : Nat) (x39_7 : Bool), v39 = .bool x39_7 ∧ Aside0 (wigeonlaw03_WindFewest.j0 kq l0 t330 t331 x39_7 = some r) ∧ Aside0 (kq ≤ k) ∧ Aside0 (Below w.heap.size w wc))
    case first =>
      have H := HC8.out
      clear HC8
      replace H := Option.bind_eq_some_iff.mp H
      obtain ⟨t339, A110, H⟩ := H
      replace H : (if t339 = true then (if (t330 != t335) = true then (wigeonlaw03_WindFewest.j0 k l0 t330 t331 true) else (wigeonlaw03_WindFewest.j0 k l0 t330 t331 (t331 != t336))) else (wigeonlaw03_WindFewest.j0 k l0 t330 t331 true)) = some r := H
      have A11 := Aside0.mk A110
      clear A110
      by_cases c12 : t339 = true
      · subst c12
        have H1 : (if (t330 != t335) = true then (wigeonlaw03_WindFewest.j0 k l0 t330 t331 true) else (wigeonlaw03_WindFewest.j0 k l0 t330 t331 (t331 != t336))) = some r := by rw [if_pos rfl] at H; exact H
        clear H
        have H := H1
        clear H1
        by_cases c13 : (t330 != t335) = true
        · rw [if_pos c13] at H
          have c13b0 : (t330 != t335) = true := c13
          (try (have c13b1 : decide (t330 = t335) = false := by simpa using c13))
          (try (have c13b2 : (t330 == t335) = false := by simpa using c13))
          (try (have c13b3 : ¬ (t330 = t335) := by simpa using c13))
          clear c13
          (first | rw [c13b0] | (simp only [i64_w, i32_w]; rw [c13b0]) | skip)
          have H' := Aside0.mk H
          clear H
          obtain ⟨Ao14, co14, eo14⟩ := Kd.R_slice HO333.out
          subst eo14
          obtain ⟨Ao15, co15, eo15⟩ := Kd.R_slice HO338.out
          subst eo15
          go_wp2_with (first | ((with_reducible refine gate_callee (f := 52) rfl ?_); refine goesL_ (some 28) rfl rfl Tryd.func52 (by kernel_rfl) rfl #[.slice Ao14 t329.length co14, .slice Ao15 t334.length co15] rfl (by (try simp only [List.map_toArray, List.map_cons, List.map_nil]); first | done | rfl | (simp only [List.length_drop, List.length_take]; rfl)) ?_; (with_reducible refine (wigeonref03_SameInts.calls k _ _ t329 _ _ t334 true _ ?side1 ?side2 ?side3 ?side4 A11.out).mono ?_); (case side1 => repeat (first | exact (Kd.R_reads' HO333.out).2.2 | (with_reducible refine Kd.C_alloc ?_ _) | (with_reducible refine Kd.C_drewN ?_ _) | (with_reducible refine Kd.C_drew ?_))); (case side2 => exact (Kd.R_reads' HO333.out).2.1); (case side3 => repeat (first | exact (Kd.R_reads' HO338.out).2.2 | (with_reducible refine Kd.C_alloc ?_ _) | (with_reducible refine Kd.C_drewN ?_ _) | (with_reducible refine Kd.C_drew ?_))); (case side4 => exact (Kd.R_reads' HO338.out).2.1); rintro e w' ⟨rfl, ⟨nd, rfl⟩⟩; refine ⟨_, rfl, ?_⟩))
          go_meet
          case rel => exact ⟨_, (true), (by first | rfl | (simp; done) | (simp [*]; done)), H', ⟨by first | omega | exact Nat.le_refl _⟩, ⟨by repeat (first | (with_reducible first | exact HB.out | apply below_alloc | apply pw_below_drewN | apply below_drew1) | exact HB.out)⟩⟩
        · rw [if_neg c13] at H
          have c13b0 : (t330 != t335) = false := by simpa using c13
          (try (have c13b1 : decide (t330 = t335) = true := by simpa using c13))
          (try (have c13b2 : (t330 == t335) = true := by simpa using c13))
          clear c13
          (first | rw [c13b0] | (simp only [i64_w, i32_w]; rw [c13b0]) | skip)
          have H' := Aside0.mk H
          clear H
          obtain ⟨Ao16, co16, eo16⟩ := Kd.R_slice HO333.out
          subst eo16
          obtain ⟨Ao17, co17, eo17⟩ := Kd.R_slice HO338.out
          subst eo17
          go_wp2_with (first | ((with_reducible refine gate_callee (f := 52) rfl ?_); refine goesL_ (some 28) rfl rfl Tryd.func52 (by kernel_rfl) rfl #[.slice Ao16 t329.length co16, .slice Ao17 t334.length co17] rfl (by (try simp only [List.map_toArray, List.map_cons, List.map_nil]); first | done | rfl | (simp only [List.length_drop, List.length_take]; rfl)) ?_; (with_reducible refine (wigeonref03_SameInts.calls k _ _ t329 _ _ t334 true _ ?side1 ?side2 ?side3 ?side4 A11.out).mono ?_); (case side1 => repeat (first | exact (Kd.R_reads' HO333.out).2.2 | (with_reducible refine Kd.C_alloc ?_ _) | (with_reducible refine Kd.C_drewN ?_ _) | (with_reducible refine Kd.C_drew ?_))); (case side2 => exact (Kd.R_reads' HO333.out).2.1); (case side3 => repeat (first | exact (Kd.R_reads' HO338.out).2.2 | (with_reducible refine Kd.C_alloc ?_ _) | (with_reducible refine Kd.C_drewN ?_ _) | (with_reducible refine Kd.C_drew ?_))); (case side4 => exact (Kd.R_reads' HO338.out).2.1); rintro e w' ⟨rfl, ⟨nd, rfl⟩⟩; refine ⟨_, rfl, ?_⟩))
          go_meet
          case rel => exact ⟨_, ((t331 != t336)), (by first | rfl | (simp; done) | (simp [*]; done)), H', ⟨by first | omega | exact Nat.le_refl _⟩, ⟨by repeat (first | (with_reducible first | exact HB.out | apply below_alloc | apply pw_below_drewN | apply below_drew1) | exact HB.out)⟩⟩
      · replace c12 := Bool.eq_false_iff.mpr c12
        subst c12
        have H1 : (wigeonlaw03_WindFewest.j0 k l0 t330 t331 true) = some r := by rw [if_neg (show ¬ (false = true) by decide)] at H; exact H
        clear H
        have H := H1
        clear H1
        have H' := Aside0.mk H
        clear H
        obtain ⟨Ao18, co18, eo18⟩ := Kd.R_slice HO333.out
        subst eo18
        obtain ⟨Ao19, co19, eo19⟩ := Kd.R_slice HO338.out
        subst eo19
        go_wp2_with (first | ((with_reducible refine gate_callee (f := 52) rfl ?_); refine goesL_ (some 28) rfl rfl Tryd.func52 (by kernel_rfl) rfl #[.slice Ao18 t329.length co18, .slice Ao19 t334.length co19] rfl (by (try simp only [List.map_toArray, List.map_cons, List.map_nil]); first | done | rfl | (simp only [List.length_drop, List.length_take]; rfl)) ?_; (with_reducible refine (wigeonref03_SameInts.calls k _ _ t329 _ _ t334 false _ ?side1 ?side2 ?side3 ?side4 A11.out).mono ?_); (case side1 => repeat (first | exact (Kd.R_reads' HO333.out).2.2 | (with_reducible refine Kd.C_alloc ?_ _) | (with_reducible refine Kd.C_drewN ?_ _) | (with_reducible refine Kd.C_drew ?_))); (case side2 => exact (Kd.R_reads' HO333.out).2.1); (case side3 => repeat (first | exact (Kd.R_reads' HO338.out).2.2 | (with_reducible refine Kd.C_alloc ?_ _) | (with_reducible refine Kd.C_drewN ?_ _) | (with_reducible refine Kd.C_drew ?_))); (case side4 => exact (Kd.R_reads' HO338.out).2.1); rintro e w' ⟨rfl, ⟨nd, rfl⟩⟩; refine ⟨_, rfl, ?_⟩))
        go_meet
        case rel => exact ⟨_, (true), (by first | rfl | (simp; done) | (simp [*]; done)), H', ⟨by first | omega | exact Nat.le_refl _⟩, ⟨by repeat (first | (with_reducible first | exact HB.out | apply below_alloc | apply pw_below_drewN | apply below_drew1) | exact HB.out)⟩⟩
    case rest =>
      clear HC8
      try clear c1
      try clear p2
      try clear c3
      try clear c5
      try clear c12
      try clear c13
      try clear c13b0
      try clear c13b1
      try clear c13b2
      try clear c14
      try clear c16
      obtain ⟨kq, x39_7, rfl, HA, HJ7, HB⟩ := hcut
      cases kq with
      | zero => exact absurd HA.out (by simp [wigeonlaw03_WindFewest.j0])
      | succ kj7 =>
        have H := HA.out
        clear HA
        simp only [wigeonlaw03_WindFewest.j0] at H
        by_cases c20 : x39_7 = true
        · subst c20
          have H1 : (some false) = some r := by rw [if_pos rfl] at H; exact H
          clear H
          have H := H1
          clear H1
          obtain rfl := Option.some.inj H
          go_wp2
          go_ret
          exact ⟨by first | rfl | (simp [errW_none, errW_some] <;> rfl) | (simp [*, errW_none, errW_some] <;> rfl), by repeat (first | (with_reducible first | exact HB.out | apply below_alloc | apply pw_below_drewN | apply below_drew1) | exact HB.out)⟩
        · replace c20 := Bool.eq_false_iff.mpr c20
          subst c20
          have H1 : ((wind_Lee.f kj7 l0).bind fun bt340 => (if t331 = 0 then (if bt340.2 = 0 then (if (t330 == (bt340.1 == 0)) = true then ((wigeonlaw03_known.f).bind fun t342 => (some t342)) else (some false)) else (some false)) else ((wigeonlaw03_known.f).bind fun t343 => (some t343)))) = some r := by rw [if_neg (show ¬ (false = true) by decide)] at H; exact H
          clear H
          have H := H1
          clear H1
          replace H := Option.bind_eq_some_iff.mp H
          obtain ⟨⟨t340, t341⟩, A210, H⟩ := H
          replace H : (if t331 = 0 then (if t341 = 0 then (if (t330 == (t340 == 0)) = true then ((wigeonlaw03_known.f).bind fun t342 => (some t342)) else (some false)) else (some false)) else ((wigeonlaw03_known.f).bind fun t343 => (some t343))) = some r := H
          have A21 := Aside0.mk A210
          clear A210
          by_cases c22 : t331 = 0
          · rw [if_pos c22] at H
            have c22b0 : (t331 == 0) = true := beq_iff_eq.mpr c22
            have c22b1 : (t331 != 0) = false := bne_eq_false_iff_eq.mpr c22
            clear c22
            by_cases c23 : t341 = 0
            · rw [if_pos c23] at H
              have c23b0 : (t341 == 0) = true := beq_iff_eq.mpr c23
              have c23b1 : (t341 != 0) = false := bne_eq_false_iff_eq.mpr c23
              clear c23
              by_cases c24 : (t330 == (t340 == 0)) = true
              · rw [if_pos c24] at H
                have c24b0 : (t330 == (t340 == 0)) = true := c24
                (try (have c24b1 : decide (t330 = (t340 == 0)) = true := by simpa using c24))
                (try (have c24b2 : (t330 == (t340 == 0)) = true := by simpa using c24))
                clear c24
                replace H := Option.bind_eq_some_iff.mp H
                obtain ⟨t342, A250, H⟩ := H
                replace H : (some t342) = some r := H
                have A25 := Aside0.mk A250
                clear A250
                obtain rfl := Option.some.inj H
                go_wp2_with (first | ((with_reducible refine gate_callee (f := 38) rfl ?_); refine goesL_ (some 42) rfl rfl Tryd.func38 (by kernel_rfl) rfl #[.slice A0 l0.length c0] rfl (by (try simp only [List.map_toArray, List.map_cons, List.map_nil]); first | done | rfl | (simp only [List.length_drop, List.length_take]; rfl)) ?_; (with_reducible refine (wind_Lee.calls kj7 _ _ l0 t340 t341 _ ?side1 ?side2 A21.out).mono ?_); (case side1 => repeat (first | exact (Kd.C_below HR0.out HB.out) | (with_reducible refine Kd.C_alloc ?_ _) | (with_reducible refine Kd.C_drewN ?_ _) | (with_reducible refine Kd.C_drew ?_))); (case side2 => exact HC0.out); rintro e w26 ⟨rfl, hb⟩; refine ⟨_, rfl, ?_⟩; have n0_ := Aside0.mk (below_step (by repeat (first | (with_reducible first | exact HB.out | apply below_alloc | apply pw_below_drewN | apply below_drew1) | exact HB.out)) hb); clear HB; have HB := n0_; clear n0_; (try clear hb); (try clear hb2); (try clear hk); (try clear hi)) | (go_at_call 16; (with_reducible refine (wigeonlaw03_known.calls  t342 _ A25.out).mono ?_); rintro e w27 ⟨rfl, hb⟩; have n0_ := Aside0.mk (below_step (by repeat (first | (with_reducible first | exact HB.out | apply below_alloc | apply pw_below_drewN | apply below_drew1) | exact HB.out)) hb); clear HB; have HB := n0_; clear n0_; (try clear hb); (try clear hb2); (try clear hk); (try clear hi)))
                go_ret
                exact ⟨by first | rfl | (simp [errW_none, errW_some] <;> rfl) | (simp [*, errW_none, errW_some] <;> rfl), by repeat (first | (with_reducible first | exact HB.out | apply below_alloc | apply pw_below_drewN | apply below_drew1) | exact HB.out)⟩
              · rw [if_neg c24] at H
                have c24b0 : (t330 == (t340 == 0)) = false := by simpa using c24
                (try (have c24b1 : decide (t330 = (t340 == 0)) = false := by simpa using c24))
                (try (have c24b2 : (t330 == (t340 == 0)) = false := by simpa using c24))
                (try (have c24b3 : ¬ (t330 = (t340 == 0)) := by simpa using c24))
                clear c24
                obtain rfl := Option.some.inj H
                go_wp2_with (first | ((with_reducible refine gate_callee (f := 38) rfl ?_); refine goesL_ (some 42) rfl rfl Tryd.func38 (by kernel_rfl) rfl #[.slice A0 l0.length c0] rfl (by (try simp only [List.map_toArray, List.map_cons, List.map_nil]); first | done | rfl | (simp only [List.length_drop, List.length_take]; rfl)) ?_; (with_reducible refine (wind_Lee.calls kj7 _ _ l0 t340 t341 _ ?side1 ?side2 A21.out).mono ?_); (case side1 => repeat (first | exact (Kd.C_below HR0.out HB.out) | (with_reducible refine Kd.C_alloc ?_ _) | (with_reducible refine Kd.C_drewN ?_ _) | (with_reducible refine Kd.C_drew ?_))); (case side2 => exact HC0.out); rintro e w28 ⟨rfl, hb⟩; refine ⟨_, rfl, ?_⟩; have n0_ := Aside0.mk (below_step (by repeat (first | (with_reducible first | exact HB.out | apply below_alloc | apply pw_below_drewN | apply below_drew1) | exact HB.out)) hb); clear HB; have HB := n0_; clear n0_; (try clear hb); (try clear hb2); (try clear hk); (try clear hi)))
                go_ret
                exact ⟨by first | rfl | (simp [errW_none, errW_some] <;> rfl) | (simp [*, errW_none, errW_some] <;> rfl), by repeat (first | (with_reducible first | exact HB.out | apply below_alloc | apply pw_below_drewN | apply below_drew1) | exact HB.out)⟩
            · rw [if_neg c23] at H
              have c23b0 : (t341 == 0) = false := beq_eq_false_iff_ne.mpr c23
              have c23b1 : (t341 != 0) = true := bne_iff_ne.mpr c23
              obtain rfl := Option.some.inj H
              go_wp2_with (first | ((with_reducible refine gate_callee (f := 38) rfl ?_); refine goesL_ (some 42) rfl rfl Tryd.func38 (by kernel_rfl) rfl #[.slice A0 l0.length c0] rfl (by (try simp only [List.map_toArray, List.map_cons, List.map_nil]); first | done | rfl | (simp only [List.length_drop, List.length_take]; rfl)) ?_; (with_reducible refine (wind_Lee.calls kj7 _ _ l0 t340 t341 _ ?side1 ?side2 A21.out).mono ?_); (case side1 => repeat (first | exact (Kd.C_below HR0.out HB.out) | (with_reducible refine Kd.C_alloc ?_ _) | (with_reducible refine Kd.C_drewN ?_ _) | (with_reducible refine Kd.C_drew ?_))); (case side2 => exact HC0.out); rintro e w29 ⟨rfl, hb⟩; refine ⟨_, rfl, ?_⟩; have n0_ := Aside0.mk (below_step (by repeat (first | (with_reducible first | exact HB.out | apply below_alloc | apply pw_below_drewN | apply below_drew1) | exact HB.out)) hb); clear HB; have HB := n0_; clear n0_; (try clear hb); (try clear hb2); (try clear hk); (try clear hi)))
              go_ret
              exact ⟨by first | rfl | (simp [errW_none, errW_some] <;> rfl) | (simp [*, errW_none, errW_some] <;> rfl), by repeat (first | (with_reducible first | exact HB.out | apply below_alloc | apply pw_below_drewN | apply below_drew1) | exact HB.out)⟩
          · rw [if_neg c22] at H
            have c22b0 : (t331 == 0) = false := beq_eq_false_iff_ne.mpr c22
            have c22b1 : (t331 != 0) = true := bne_iff_ne.mpr c22
            replace H := Option.bind_eq_some_iff.mp H
            obtain ⟨t343, A300, H⟩ := H
            replace H : (some t343) = some r := H
            have A30 := Aside0.mk A300
            clear A300
            obtain rfl := Option.some.inj H
            go_wp2_with (first | ((with_reducible refine gate_callee (f := 38) rfl ?_); refine goesL_ (some 42) rfl rfl Tryd.func38 (by kernel_rfl) rfl #[.slice A0 l0.length c0] rfl (by (try simp only [List.map_toArray, List.map_cons, List.map_nil]); first | done | rfl | (simp only [List.length_drop, List.length_take]; rfl)) ?_; (with_reducible refine (wind_Lee.calls kj7 _ _ l0 t340 t341 _ ?side1 ?side2 A21.out).mono ?_); (case side1 => repeat (first | exact (Kd.C_below HR0.out HB.out) | (with_reducible refine Kd.C_alloc ?_ _) | (with_reducible refine Kd.C_drewN ?_ _) | (with_reducible refine Kd.C_drew ?_))); (case side2 => exact HC0.out); rintro e w31 ⟨rfl, hb⟩; refine ⟨_, rfl, ?_⟩; have n0_ := Aside0.mk (below_step (by repeat (first | (with_reducible first | exact HB.out | apply below_alloc | apply pw_below_drewN | apply below_drew1) | exact HB.out)) hb); clear HB; have HB := n0_; clear n0_; (try clear hb); (try clear hb2); (try clear hk); (try clear hi)) | (go_at_call 16; (with_reducible refine (wigeonlaw03_known.calls  t343 _ A30.out).mono ?_); rintro e w32 ⟨rfl, hb⟩; have n0_ := Aside0.mk (below_step (by repeat (first | (with_reducible first | exact HB.out | apply below_alloc | apply pw_below_drewN | apply below_drew1) | exact HB.out)) hb); clear HB; have HB := n0_; clear n0_; (try clear hb); (try clear hb2); (try clear hk); (try clear hi)))
            go_ret
            exact ⟨by first | rfl | (simp [errW_none, errW_some] <;> rfl) | (simp [*, errW_none, errW_some] <;> rfl), by repeat (first | (with_reducible first | exact HB.out | apply below_alloc | apply pw_below_drewN | apply below_drew1) | exact HB.out)⟩

end Go.Proofs.YthihlapmkcelpaaDoor.Q
