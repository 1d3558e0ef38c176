-- Written by a program of this session (wip/tools/gprint.py, over the kit's print); Lean checks it.
import Derived.Test.YtpkafcoflgbnaaaQx0
import Derived.Test.YtpkafcoflgbnaaaQx10
import Derived.Test.YtpkafcoflgbnaaaQx20
import Derived.Test.YtpkafcoflgbnaaaQx29
import Derived.Test.YtpkafcoflgbnaaaQx30
import Derived.Test.YtpkafcoflgbnaaaQx31
namespace Go.Proofs.Ytpkafcoflgbnaaa.Q
open Go.RowKit Go.Proofs.YtpkafcoflgbnaaaW.PrintWords Go.Proofs.YtpkafcoflgbnaaaW.PrintLast Go.Proofs.YtpkafcoflgbnaaaW.PrintMore
attribute [local go_sem] max2_int min2_int max_two min_two max_three min_three max_four min_four   -- for this text's walks alone
set_option linter.unusedVariables false
set_option linter.unusedSimpArgs false

/-! ### wigeonlaw05_WhistleCheapest: function 11 -/
def wigeonlaw05_WhistleCheapest.j0 : Nat → List Int → List Int → Int → Int → Bool → Option (Bool)
 | 0, _, _, _, _, _ => none
 | k + 1, x0, x3, x4, x5, x34 => if x34 = true then (none) else (if x5 = 0 then ((wigeonref05_FromLengths.f k x3).bind fun bt581 => ((wigeonref05_Cost.f k x0 bt581.1).bind fun bt585 => (if bt581.2 = 0 then (if bt585.2 = 0 then (if bt585.1 = x4 then ((wigeonlaw05_known.f k).bind fun t587 => (some t587)) else (none)) else (none)) else (none)))) else (if (x3.length : Int) = 0 then ((wigeonlaw05_known.f k).bind fun t588 => (some t588)) else (none)))
def wigeonlaw05_WhistleCheapest.f (k : Nat) (l0 : List Int) : Option (Bool) := if (l0.length : Int) > 60 then ((wigeonlaw05_known.f k).bind fun t573 => (some t573)) else ((whistle_Cheapest.f k l0).bind fun bt574 => ((wigeonref05_Least.f k l0).bind fun bt579 => (if bt574.2.1 = bt579.1 then (wigeonlaw05_WhistleCheapest.j0 k l0 bt574.1 bt574.2.1 bt574.2.2 (bt574.2.2 != bt579.2)) else (wigeonlaw05_WhistleCheapest.j0 k l0 bt574.1 bt574.2.1 bt574.2.2 true))))
theorem wigeonlaw05_WhistleCheapest.mono_l : ∀ k, (∀ y0 y1 y2 y3 y4, LeO (wigeonlaw05_WhistleCheapest.j0 k y0 y1 y2 y3 y4) (wigeonlaw05_WhistleCheapest.j0 (k + 1) y0 y1 y2 y3 y4))
 | 0 => fun _ _ _ _ _ r h => by simp [wigeonlaw05_WhistleCheapest.j0] at h
 | k + 1 => by
  have ih0 := wigeonlaw05_WhistleCheapest.mono_l k
  ·intro y0 y1 y2 y3 y4
   unfold wigeonlaw05_WhistleCheapest.j0
   repeat' first
   | (with_reducible exact ih0 _ _ _ _ _)
   | (with_reducible exact whistle_Cheapest.mono _ _)
   | (with_reducible exact wigeonlaw05_known.mono _)
   | (with_reducible exact wigeonref05_Cost.mono _ _ _)
   | (with_reducible exact wigeonref05_FromLengths.mono _ _)
   | (with_reducible exact wigeonref05_Least.mono _ _)
   | (with_reducible exact LeO.refl _)
   | (with_reducible exact LeO.none _)
   | (with_reducible refine LeO.ite ?_ ?_)
   | (with_reducible refine LeO.bind ?_ (fun _ => ?_))
   | exact ih0 _ _ _ _ _
   | exact whistle_Cheapest.mono _ _
   | exact wigeonlaw05_known.mono _
   | exact wigeonref05_Cost.mono _ _ _
   | exact wigeonref05_FromLengths.mono _ _
   | exact wigeonref05_Least.mono _ _
   | exact LeO.none _
   | refine LeO.ite ?_ ?_
   | refine LeO.bind ?_ (fun _ => ?_)
theorem wigeonlaw05_WhistleCheapest.mono : ∀ a0 k, LeO (wigeonlaw05_WhistleCheapest.f k a0) (wigeonlaw05_WhistleCheapest.f (k + 1) a0) := by
 intro a0 k
 have ih0 := wigeonlaw05_WhistleCheapest.mono_l k
 unfold wigeonlaw05_WhistleCheapest.f
 repeat' first
   | (with_reducible exact ih0 _ _ _ _ _)
   | (with_reducible exact whistle_Cheapest.mono _ _)
   | (with_reducible exact wigeonlaw05_known.mono _)
   | (with_reducible exact wigeonref05_Cost.mono _ _ _)
   | (with_reducible exact wigeonref05_FromLengths.mono _ _)
   | (with_reducible exact wigeonref05_Least.mono _ _)
   | (with_reducible exact LeO.refl _)
   | (with_reducible exact LeO.none _)
   | (with_reducible refine LeO.ite ?_ ?_)
   | (with_reducible refine LeO.bind ?_ (fun _ => ?_))
   | exact ih0 _ _ _ _ _
   | exact whistle_Cheapest.mono _ _
   | exact wigeonlaw05_known.mono _
   | exact wigeonref05_Cost.mono _ _ _
   | exact wigeonref05_FromLengths.mono _ _
   | exact wigeonref05_Least.mono _ _
   | exact LeO.none _
   | refine LeO.ite ?_ ?_
   | refine LeO.bind ?_ (fun _ => ?_)
set_option maxHeartbeats 8000000 in
set_option maxRecDepth 100000 in
theorem wigeonlaw05_WhistleCheapest.calls (k : Nat) (A0 : Option Addr) (c0 : Nat) (l0 : List Int) (r : Bool) (w : World) (hr0 : Kd.C (Kd.int .i64) w A0 l0.length l0) (hc0 : l0.length ≤ c0) (h : wigeonlaw05_WhistleCheapest.f k l0 = some r) :
  Calls Try.prog 11 #[.slice A0 l0.length c0] w fun e w' => e = .returned (.bool r) ∧ Below w.heap.size w w' := by
 have HR0 := Aside0.mk hr0
 have HC0 := Aside0.mk hc0
 clear hr0 hc0
 have HB := Aside0.mk (Below.refl w.heap.size w)
 have H : (if (l0.length : Int) > 60 then ((wigeonlaw05_known.f k).bind fun t573 => (some t573)) else ((whistle_Cheapest.f k l0).bind fun bt574 => ((wigeonref05_Least.f k l0).bind fun bt579 => (if bt574.2.1 = bt579.1 then (wigeonlaw05_WhistleCheapest.j0 k l0 bt574.1 bt574.2.1 bt574.2.2 (bt574.2.2 != bt579.2)) else (wigeonlaw05_WhistleCheapest.j0 k l0 bt574.1 bt574.2.1 bt574.2.2 true))))) = some r := h
 clear h
 by_cases c2 : (l0.length : Int) > 60
 ·rw [if_pos c2] at H
  have c2b0 : decide (60 < (l0.length : Int)) = true := decide_eq_true c2
  have c2b1 : decide (60 < l0.length) = true := decide_eq_true (by omega)
  clear c2
  replace H := Option.bind_eq_some_iff.mp H
  obtain ⟨t573, A30, H⟩ := H
  replace H : (some t573) = some r := H
  have A3 := Aside0.mk A30
  clear A30
  obtain rfl := Option.some.inj H
  go_enter Try.func11, Try.ntmps11
  go_wp2_with (first | ((with_reducible refine gate_callee (f := 17) rfl ?_); refine goesL_ (some 15) rfl rfl Try.func17 (by kernel_rfl) rfl #[] rfl (by (try simp only [List.map_toArray, List.map_cons, List.map_nil]); first | done | rfl | (simp only [List.length_drop, List.length_take]; rfl)) ?_; (with_reducible refine (wigeonlaw05_known.calls k  t573 _ A3.out).mono ?_); rintro e w4 ⟨rfl, hb⟩; refine ⟨_, rfl, ?_⟩; have n0_ := Aside0.mk (below_step (by repeat (first | (with_reducible first | exact HB.out | apply below_alloc | apply pw_below_drewN | apply below_drew1) | exact HB.out)) hb); clear HB; have HB := n0_; clear n0_; (try clear hb); (try clear hb2); (try clear hk); (try clear hi)))
  go_ret
  exact ⟨by first | rfl | (simp [errW_none, errW_some] <;> rfl) | (simp [*, errW_none, errW_some] <;> rfl), by repeat (first | (with_reducible first | exact HB.out | apply below_alloc | apply pw_below_drewN | apply below_drew1) | exact HB.out)⟩
 ·rw [if_neg c2] at H
  have c2b0 : decide (60 < (l0.length : Int)) = false := decide_eq_false c2
  have c2b1 : decide (60 < l0.length) = false := decide_eq_false (by omega)
  clear c2
  replace H := Option.bind_eq_some_iff.mp H
  obtain ⟨⟨t574, t575, t576⟩, A50, H⟩ := H
  replace H : ((wigeonref05_Least.f k l0).bind fun bt579 => (if t575 = bt579.1 then (wigeonlaw05_WhistleCheapest.j0 k l0 t574 t575 t576 (t576 != bt579.2)) else (wigeonlaw05_WhistleCheapest.j0 k l0 t574 t575 t576 true))) = some r := H
  have A5 := Aside0.mk A50
  clear A50
  replace H := Option.bind_eq_some_iff.mp H
  obtain ⟨⟨t579, t580⟩, A60, H⟩ := H
  replace H : (if t575 = t579 then (wigeonlaw05_WhistleCheapest.j0 k l0 t574 t575 t576 (t576 != t580)) else (wigeonlaw05_WhistleCheapest.j0 k l0 t574 t575 t576 true)) = some r := H
  have A6 := Aside0.mk A60
  clear A60
  have HC7 := Aside0.mk H
  clear H
  go_enter Try.func11, Try.ntmps11
  go_upto_region 5 with (first | ((with_reducible refine gate_callee (f := 44) rfl ?_); refine goesL_ (some 18) rfl rfl Try.func44 (by kernel_rfl) rfl #[.slice A0 l0.length c0] rfl (by (try simp only [List.map_toArray, List.map_cons, List.map_nil]); first | done | rfl | (simp only [List.length_drop, List.length_take]; rfl)) ?_; (with_reducible refine (whistle_Cheapest.calls k _ _ l0 t574 t575 t576 _ ?side1 ?side2 A5.out).mono ?_); (case side1 => repeat (first | exact HR0.out | (with_reducible refine Kd.C_alloc ?_ _) | (with_reducible refine Kd.C_drewN ?_ _) | (with_reducible refine Kd.C_drew ?_))); (case side2 => exact HC0.out); rintro e w8 ⟨v577, rfl, ho0, hb⟩; refine ⟨_, rfl, ?_⟩; have n0_ := Aside0.mk (Kd.R_lower ho0 (below_size (by repeat (first | (with_reducible first | exact HB.out | apply below_alloc | apply pw_below_drewN | apply below_drew1) | exact HB.out)))); have n1_ := Aside0.mk (below_step (by repeat (first | (with_reducible first | exact HB.out | apply below_alloc | apply pw_below_drewN | apply below_drew1) | exact HB.out)) hb); clear HB; have HO578 := n0_; have HB := n1_; clear n0_ n1_; (try clear hb); (try clear hb2); (try clear hk); (try clear hi); (try clear ho0)) | ((with_reducible refine gate_callee (f := 45) rfl ?_); refine goesL_ (some 24) rfl rfl Try.func45 (by kernel_rfl) rfl #[.slice A0 l0.length c0] rfl (by (try simp only [List.map_toArray, List.map_cons, List.map_nil]); first | done | rfl | (simp only [List.length_drop, List.length_take]; rfl)) ?_; (with_reducible refine (wigeonref05_Least.calls k _ _ l0 t579 t580 _ ?side1 ?side2 A6.out).mono ?_); (case side1 => repeat (first | exact (Kd.C_below HR0.out HB.out) | (with_reducible refine Kd.C_alloc ?_ _) | (with_reducible refine Kd.C_drewN ?_ _) | (with_reducible refine Kd.C_drew ?_))); (case side2 => exact HC0.out); rintro e w9 ⟨rfl, hb⟩; refine ⟨_, rfl, ?_⟩; have n0_ := Aside0.mk (Kd.R_below (by (with_reducible repeat (first | apply Kd.R_alloc | apply Kd.R_drewN | apply Kd.R_drew)); exact HO578.out) hb); have n1_ := Aside0.mk (below_step (by repeat (first | (with_reducible first | exact HB.out | apply below_alloc | apply pw_below_drewN | apply below_drew1) | exact HB.out)) hb); clear HO578; clear HB; have HO578 := n0_; have HB := n1_; clear n0_ n1_; (try clear hb); (try clear hb2); (try clear hk); (try clear hi)))
  (try simp only [Act.put, List.setIfInBounds_toArray, List.set_cons_zero, List.set_cons_succ])
  go_cut [34] (fun v34 wc => ∃ (kq : Nat) (x34_6 : Bool), v34 = .bool x34_6 ∧ Aside0 (wigeonlaw05_WhistleCheapest.j0 kq l0 t574 t575 t576 x34_6 = some r) ∧ Aside0 (kq ≤ k) ∧ Aside0 (Kd.R (Kd.int .i64) 3 wc w.heap.size (fun _ => True) v577 t574) ∧ Aside0 (Below w.heap.size w wc))
  case first =>
   have H := HC7.out
   clear HC7
   by_cases c10 : t575 = t579
   ·rw [if_pos c10] at H
    have c10b0 : (t575 == t579) = true := beq_iff_eq.mpr c10
    have c10b1 : (t575 != t579) = false := bne_eq_false_iff_eq.mpr c10
    clear c10
    (first | rw [c10b0] | (simp only [i64_w, i32_w]; rw [c10b0]) | skip)
    have H' := Aside0.mk H
    clear H
    go_wp2
    go_meet
    case rel => exact ⟨_, ((t576 != t580)), (by first | rfl | (simp; done) | (simp [*]; done)), H', ⟨by first | omega | exact Nat.le_refl _⟩, ⟨by (with_reducible repeat (first | apply Kd.R_alloc | apply Kd.R_drewN | apply Kd.R_drew)); exact HO578.out⟩, ⟨by repeat (first | (with_reducible first | exact HB.out | apply below_alloc | apply pw_below_drewN | apply below_drew1) | exact HB.out)⟩⟩
   ·rw [if_neg c10] at H
    have c10b0 : (t575 == t579) = false := beq_eq_false_iff_ne.mpr c10
    have c10b1 : (t575 != t579) = true := bne_iff_ne.mpr c10
    (first | rw [c10b0] | (simp only [i64_w, i32_w]; rw [c10b0]) | skip)
    have H' := Aside0.mk H
    clear H
    go_wp2
    go_meet
    case rel => exact ⟨_, (true), (by first | rfl | (simp; done) | (simp [*]; done)), H', ⟨by first | omega | exact Nat.le_refl _⟩, ⟨by (with_reducible repeat (first | apply Kd.R_alloc | apply Kd.R_drewN | apply Kd.R_drew)); exact HO578.out⟩, ⟨by repeat (first | (with_reducible first | exact HB.out | apply below_alloc | apply pw_below_drewN | apply below_drew1) | exact HB.out)⟩⟩
  case rest =>
   clear HC7
   try clear c1
   try clear c2
   try clear c2b0
   try clear c2b1
   try clear p2
   try clear c4
   try clear c10
   try clear c10b0
   try clear c10b1
   obtain ⟨kq, x34_6, rfl, HA, HJ6, HO_3, HB⟩ := hcut
   cases kq with
   | zero => exact absurd HA.out (by simp [wigeonlaw05_WhistleCheapest.j0])
   | succ kj6 =>
    have H := HA.out
    clear HA
    simp only [wigeonlaw05_WhistleCheapest.j0] at H
    by_cases c11 : x34_6 = true
    ·subst c11
     have H1 : (none) = some r := by rw [if_pos rfl] at H; exact H
     exact absurd H1 (by simp)
    ·replace c11 := Bool.eq_false_iff.mpr c11
     subst c11
     have H1 : (if t576 = 0 then ((wigeonref05_FromLengths.f kj6 t574).bind fun bt581 => ((wigeonref05_Cost.f kj6 l0 bt581.1).bind fun bt585 => (if bt581.2 = 0 then (if bt585.2 = 0 then (if bt585.1 = t575 then ((wigeonlaw05_known.f kj6).bind fun t587 => (some t587)) else (none)) else (none)) else (none)))) else (if (t574.length : Int) = 0 then ((wigeonlaw05_known.f kj6).bind fun t588 => (some t588)) else (none))) = some r := by rw [if_neg (show ¬ (false = true) by decide)] at H; exact H
     clear H
     have H := H1
     clear H1
     by_cases c12 : t576 = 0
     ·rw [if_pos c12] at H
      have c12b0 : (t576 == 0) = true := beq_iff_eq.mpr c12
      have c12b1 : (t576 != 0) = false := bne_eq_false_iff_eq.mpr c12
      clear c12
      replace H := Option.bind_eq_some_iff.mp H
      obtain ⟨⟨t581, t582⟩, A130, H⟩ := H
      replace H : ((wigeonref05_Cost.f kj6 l0 t581).bind fun bt585 => (if t582 = 0 then (if bt585.2 = 0 then (if bt585.1 = t575 then ((wigeonlaw05_known.f kj6).bind fun t587 => (some t587)) else (none)) else (none)) else (none))) = some r := H
      have A13 := Aside0.mk A130
      clear A130
      replace H := Option.bind_eq_some_iff.mp H
      obtain ⟨⟨t585, t586⟩, A140, H⟩ := H
      replace H : (if t582 = 0 then (if t586 = 0 then (if t585 = t575 then ((wigeonlaw05_known.f kj6).bind fun t587 => (some t587)) else (none)) else (none)) else (none)) = some r := H
      have A14 := Aside0.mk A140
      clear A140
      by_cases c15 : t582 = 0
      ·rw [if_pos c15] at H
       have c15b0 : (t582 == 0) = true := beq_iff_eq.mpr c15
       have c15b1 : (t582 != 0) = false := bne_eq_false_iff_eq.mpr c15
       clear c15
       by_cases c16 : t586 = 0
       ·rw [if_pos c16] at H
        have c16b0 : (t586 == 0) = true := beq_iff_eq.mpr c16
        have c16b1 : (t586 != 0) = false := bne_eq_false_iff_eq.mpr c16
        clear c16
        by_cases c17 : t585 = t575
        ·rw [if_pos c17] at H
         have c17b0 : (t585 == t575) = true := beq_iff_eq.mpr c17
         have c17b1 : (t585 != t575) = false := bne_eq_false_iff_eq.mpr c17
         clear c17
         replace H := Option.bind_eq_some_iff.mp H
         obtain ⟨t587, A180, H⟩ := H
         replace H : (some t587) = some r := H
         have A18 := Aside0.mk A180
         clear A180
         obtain rfl := Option.some.inj H
         obtain ⟨Ao19, co19, eo19⟩ := Kd.R_slice HO_3.out
         subst eo19
         go_wp2_with (first | ((with_reducible refine gate_callee (f := 35) rfl ?_); refine goesL_ (some 45) rfl rfl Try.func35 (by kernel_rfl) rfl #[.slice Ao19 t574.length co19] rfl (by (try simp only [List.map_toArray, List.map_cons, List.map_nil]); first | done | rfl | (simp only [List.length_drop, List.length_take]; rfl)) ?_; (with_reducible refine (wigeonref05_FromLengths.calls kj6 _ _ t574 t581 t582 _ ?side1 ?side2 A13.out).mono ?_); (case side1 => repeat (first | exact (Kd.R_reads' HO_3.out).2.2 | (with_reducible refine Kd.C_alloc ?_ _) | (with_reducible refine Kd.C_drewN ?_ _) | (with_reducible refine Kd.C_drew ?_))); (case side2 => exact (Kd.R_reads' HO_3.out).2.1); rintro e w20 ⟨v583, rfl, ho0, hb⟩; refine ⟨_, rfl, ?_⟩; have n0_ := Aside0.mk (Kd.R_below (by (with_reducible repeat (first | apply Kd.R_alloc | apply Kd.R_drewN | apply Kd.R_drew)); exact HO_3.out) hb); have n1_ := Aside0.mk (Kd.R_lower ho0 (below_size (by repeat (first | (with_reducible first | exact HB.out | apply below_alloc | apply pw_below_drewN | apply below_drew1) | exact HB.out)))); have n2_ := Aside0.mk (below_step (by repeat (first | (with_reducible first | exact HB.out | apply below_alloc | apply pw_below_drewN | apply below_drew1) | exact HB.out)) hb); clear HO_3; clear HB; have HO_3 := n0_; have HO584 := n1_; have HB := n2_; clear n0_ n1_ n2_; (try clear hb); (try clear hb2); (try clear hk); (try clear hi); (try clear ho0); obtain ⟨Ao21, co21, eo21⟩ := Kd.R_slice HO584.out; subst eo21) | ((with_reducible refine gate_callee (f := 46) rfl ?_); refine goesL_ (some 51) rfl rfl Try.func46 (by kernel_rfl) rfl #[.slice A0 l0.length c0, .slice Ao21 t581.length co21] rfl (by (try simp only [List.map_toArray, List.map_cons, List.map_nil]); first | done | rfl | (simp only [List.length_drop, List.length_take]; rfl)) ?_; (with_reducible refine (wigeonref05_Cost.calls kj6 _ _ l0 _ _ t581 t585 t586 _ ?side1 ?side2 ?side3 ?side4 A14.out).mono ?_); (case side1 => repeat (first | exact (Kd.C_below HR0.out HB.out) | (with_reducible refine Kd.C_alloc ?_ _) | (with_reducible refine Kd.C_drewN ?_ _) | (with_reducible refine Kd.C_drew ?_))); (case side2 => exact HC0.out); (case side3 => repeat (first | exact (Kd.R_reads' HO584.out).2.2 | (with_reducible refine Kd.C_alloc ?_ _) | (with_reducible refine Kd.C_drewN ?_ _) | (with_reducible refine Kd.C_drew ?_))); (case side4 => exact (Kd.R_reads' HO584.out).2.1); rintro e w' ⟨rfl, ⟨nd, rfl⟩⟩; refine ⟨_, rfl, ?_⟩) | (go_at_call 17; (with_reducible refine (wigeonlaw05_known.calls kj6  t587 _ A18.out).mono ?_); rintro e w22 ⟨rfl, hb⟩; have n0_ := Aside0.mk (Kd.R_below (by (with_reducible repeat (first | apply Kd.R_alloc | apply Kd.R_drewN | apply Kd.R_drew)); exact HO_3.out) hb); have n1_ := Aside0.mk (Kd.R_below (by (with_reducible repeat (first | apply Kd.R_alloc | apply Kd.R_drewN | apply Kd.R_drew)); exact HO584.out) hb); have n2_ := Aside0.mk (below_step (by repeat (first | (with_reducible first | exact HB.out | apply below_alloc | apply pw_below_drewN | apply below_drew1) | exact HB.out)) hb); clear HO_3; clear HO584; clear HB; have HO_3 := n0_; have HO584 := n1_; have HB := n2_; clear n0_ n1_ n2_; (try clear hb); (try clear hb2); (try clear hk); (try clear hi)))
         go_ret
         exact ⟨by first | rfl | (simp [errW_none, errW_some] <;> rfl) | (simp [*, errW_none, errW_some] <;> rfl), by repeat (first | (with_reducible first | exact HB.out | apply below_alloc | apply pw_below_drewN | apply below_drew1) | exact HB.out)⟩
        ·rw [if_neg c17] at H
         exact absurd H (by simp)
       ·rw [if_neg c16] at H
        exact absurd H (by simp)
      ·rw [if_neg c15] at H
       exact absurd H (by simp)
     ·rw [if_neg c12] at H
      have c12b0 : (t576 == 0) = false := beq_eq_false_iff_ne.mpr c12
      have c12b1 : (t576 != 0) = true := bne_iff_ne.mpr c12
      by_cases c32 : (t574.length : Int) = 0
      ·rw [if_pos c32] at H
       have c32b0 : ((t574.length : Int) == 0) = true := beq_iff_eq.mpr c32
       have c32b1 : ((t574.length : Int) != 0) = false := bne_eq_false_iff_eq.mpr c32
       clear c32
       replace H := Option.bind_eq_some_iff.mp H
       obtain ⟨t588, A330, H⟩ := H
       replace H : (some t588) = some r := H
       have A33 := Aside0.mk A330
       clear A330
       obtain rfl := Option.some.inj H
       obtain ⟨Ao34, co34, eo34⟩ := Kd.R_slice HO_3.out
       subst eo34
       go_wp2_with (first | (go_at_call 17; (with_reducible refine (wigeonlaw05_known.calls kj6  t588 _ A33.out).mono ?_); rintro e w35 ⟨rfl, hb⟩; have n0_ := Aside0.mk (Kd.R_below (by (with_reducible repeat (first | apply Kd.R_alloc | apply Kd.R_drewN | apply Kd.R_drew)); exact HO_3.out) hb); have n1_ := Aside0.mk (below_step (by repeat (first | (with_reducible first | exact HB.out | apply below_alloc | apply pw_below_drewN | apply below_drew1) | exact HB.out)) hb); clear HO_3; clear HB; have HO_3 := n0_; have HB := n1_; clear n0_ n1_; (try clear hb); (try clear hb2); (try clear hk); (try clear hi)))
       go_ret
       exact ⟨by first | rfl | (simp [errW_none, errW_some] <;> rfl) | (simp [*, errW_none, errW_some] <;> rfl), by repeat (first | (with_reducible first | exact HB.out | apply below_alloc | apply pw_below_drewN | apply below_drew1) | exact HB.out)⟩
      ·rw [if_neg c32] at H
       exact absurd H (by simp)
/-- THE ONE PURE STATEMENT of wigeonlaw05_WhistleCheapest: yours. -/
def wigeonlaw05_WhistleCheapest.Pure : Prop := ∀ (l0 : List Int), l0.length ≤ maxLen → l0.length * 8 ≤ 140737488351232 → (∀ x ∈ l0, (Lit.int .i64 x).wf = true) → ∃ k, wigeonlaw05_WhistleCheapest.f k l0 = some true
theorem wigeonlaw05_WhistleCheapest.walk (P : wigeonlaw05_WhistleCheapest.Pure) (a0 : Option Addr) (len0 cap0 : Nat) (z0 : List Int) (w : World) (w0 : (a0 = none ∧ len0 = 0 ∧ cap0 = 0 ∧ z0 = []) ∨ ∃ x, a0 = some x ∧ len0 ≤ cap0 ∧ cap0 ≤ maxLen ∧ z0.length = cap0 ∧ (∀ i, i < z0.length → w.cell? (x.add i) = some (.int .i64 (z0.getD i 0))) ∧ ∀ n ∈ z0, (Lit.int .i64 n).wf = true) (y0 : len0 * 8 ≤ 140737488351232) :
  Calls Try.prog 11 #[.slice a0 len0 cap0] w fun e w' => e = .returned (.bool true) ∧ Below w.heap.size w w' := by
 obtain ⟨l0, rfl, hr0, hm0, hw0, hc0⟩ := ReadsInt.ofRowC w0
 obtain ⟨k, h⟩ := P l0 hm0 y0 hw0
 refine (wigeonlaw05_WhistleCheapest.calls k _ _ l0 true w (Kd.C_of_reads (d := (0 : Int)) (h1 := fun _ => rfl) hr0) hc0 h).mono ?_
 rintro e w' ⟨rfl, hd⟩
 exact ⟨rfl, hd⟩

end Go.Proofs.Ytpkafcoflgbnaaa.Q
