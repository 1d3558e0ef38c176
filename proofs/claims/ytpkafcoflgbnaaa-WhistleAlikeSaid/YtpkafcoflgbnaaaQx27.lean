-- Written by a program of this session (wip/tools/gprint.py, over the kit's print); Lean checks it.
import Derived.Test.YtpkafcoflgbnaaaQx0
import Derived.Test.YtpkafcoflgbnaaaQx2
import Derived.Test.YtpkafcoflgbnaaaQx10
import Derived.Test.YtpkafcoflgbnaaaQx18
import Derived.Test.YtpkafcoflgbnaaaQx24
import Derived.Test.YtpkafcoflgbnaaaQx26
namespace Go.Proofs.Ytpkafcoflgbnaaa.Q
open Go.RowKit Go.Proofs.YtpkafcoflgbnaaaW.PrintWords Go.Proofs.YtpkafcoflgbnaaaW.PrintLast Go.Proofs.YtpkafcoflgbnaaaW.PrintMore
attribute [local go_sem] max2_int min2_int max_two min_two max_three min_three max_four min_four   -- for this text's walks alone
set_option linter.unusedVariables false
set_option linter.unusedSimpArgs false

/-! ### wigeonlaw05_WhistleAlike: function 8 -/
def wigeonlaw05_WhistleAlike.j0 : Nat → List ByteArray → List Int → List Int → Bool → Bool → Option (Bool)
 | 0, _, _, _, _, _ => none
 | k + 1, x0, x3, x4, x5, x36 => if x36 = true then (none) else (if x5 = true then ((wigeonref05_CheckAlike.f k x0 x3 x4).bind fun t497 => (if t497 = 0 then ((wigeonlaw05_known.f k).bind fun t498 => (some t498)) else (none))) else (if (x3.length : Int) = 0 then (if (x4.length : Int) = 0 then ((wigeonlaw05_known.f k).bind fun t499 => (some t499)) else (none)) else (none)))
def wigeonlaw05_WhistleAlike.f (k : Nat) (l0 : List ByteArray) : Option (Bool) := (wigeonlaw05_Long.f k l0).bind fun t485 => (if t485 = true then ((wigeonlaw05_known.f k).bind fun t486 => (some t486)) else ((whistle_Alike.f k l0).bind fun bt487 => ((wigeonref05_IsSafe.f k l0).bind fun bt495 => (if bt487.2.2.2 = bt495.2 then (if bt487.2.2.2 = 0 then (wigeonlaw05_WhistleAlike.j0 k l0 bt487.1 bt487.2.1 bt487.2.2.1 (bt487.2.2.1 != (!bt495.1))) else (wigeonlaw05_WhistleAlike.j0 k l0 bt487.1 bt487.2.1 bt487.2.2.1 (bt487.2.2.1 != false))) else (wigeonlaw05_WhistleAlike.j0 k l0 bt487.1 bt487.2.1 bt487.2.2.1 true)))))
theorem wigeonlaw05_WhistleAlike.mono_l : ∀ k, (∀ y0 y1 y2 y3 y4, LeO (wigeonlaw05_WhistleAlike.j0 k y0 y1 y2 y3 y4) (wigeonlaw05_WhistleAlike.j0 (k + 1) y0 y1 y2 y3 y4))
 | 0 => fun _ _ _ _ _ r h => by simp [wigeonlaw05_WhistleAlike.j0] at h
 | k + 1 => by
  have ih0 := wigeonlaw05_WhistleAlike.mono_l k
  ·intro y0 y1 y2 y3 y4
   unfold wigeonlaw05_WhistleAlike.j0
   repeat' first
   | (with_reducible exact ih0 _ _ _ _ _)
   | (with_reducible exact whistle_Alike.mono _ _)
   | (with_reducible exact wigeonlaw05_Long.mono _ _)
   | (with_reducible exact wigeonlaw05_known.mono _)
   | (with_reducible exact wigeonref05_CheckAlike.mono _ _ _ _)
   | (with_reducible exact wigeonref05_IsSafe.mono _ _)
   | (with_reducible exact LeO.refl _)
   | (with_reducible exact LeO.none _)
   | (with_reducible refine LeO.ite ?_ ?_)
   | (with_reducible refine LeO.bind ?_ (fun _ => ?_))
   | exact ih0 _ _ _ _ _
   | exact whistle_Alike.mono _ _
   | exact wigeonlaw05_Long.mono _ _
   | exact wigeonlaw05_known.mono _
   | exact wigeonref05_CheckAlike.mono _ _ _ _
   | exact wigeonref05_IsSafe.mono _ _
   | exact LeO.none _
   | refine LeO.ite ?_ ?_
   | refine LeO.bind ?_ (fun _ => ?_)
theorem wigeonlaw05_WhistleAlike.mono : ∀ a0 k, LeO (wigeonlaw05_WhistleAlike.f k a0) (wigeonlaw05_WhistleAlike.f (k + 1) a0) := by
 intro a0 k
 have ih0 := wigeonlaw05_WhistleAlike.mono_l k
 unfold wigeonlaw05_WhistleAlike.f
 repeat' first
   | (with_reducible exact ih0 _ _ _ _ _)
   | (with_reducible exact whistle_Alike.mono _ _)
   | (with_reducible exact wigeonlaw05_Long.mono _ _)
   | (with_reducible exact wigeonlaw05_known.mono _)
   | (with_reducible exact wigeonref05_CheckAlike.mono _ _ _ _)
   | (with_reducible exact wigeonref05_IsSafe.mono _ _)
   | (with_reducible exact LeO.refl _)
   | (with_reducible exact LeO.none _)
   | (with_reducible refine LeO.ite ?_ ?_)
   | (with_reducible refine LeO.bind ?_ (fun _ => ?_))
   | exact ih0 _ _ _ _ _
   | exact whistle_Alike.mono _ _
   | exact wigeonlaw05_Long.mono _ _
   | exact wigeonlaw05_known.mono _
   | exact wigeonref05_CheckAlike.mono _ _ _ _
   | exact wigeonref05_IsSafe.mono _ _
   | exact LeO.none _
   | refine LeO.ite ?_ ?_
   | refine LeO.bind ?_ (fun _ => ?_)
set_option maxHeartbeats 8000000 in
set_option maxRecDepth 100000 in
theorem wigeonlaw05_WhistleAlike.calls (k : Nat) (A0 : Option Addr) (c0 : Nat) (l0 : List ByteArray) (r : Bool) (w : World) (hr0 : Kd.C Kd.string w A0 l0.length l0) (hc0 : l0.length ≤ c0) (h : wigeonlaw05_WhistleAlike.f k l0 = some r) :
  Calls Try.prog 8 #[.slice A0 l0.length c0] w fun e w' => e = .returned (.bool r) ∧ Below w.heap.size w w' := by
 have HR0 := Aside0.mk hr0
 have HC0 := Aside0.mk hc0
 clear hr0 hc0
 have HB := Aside0.mk (Below.refl w.heap.size w)
 have H : ((wigeonlaw05_Long.f k l0).bind fun t485 => (if t485 = true then ((wigeonlaw05_known.f k).bind fun t486 => (some t486)) else ((whistle_Alike.f k l0).bind fun bt487 => ((wigeonref05_IsSafe.f k l0).bind fun bt495 => (if bt487.2.2.2 = bt495.2 then (if bt487.2.2.2 = 0 then (wigeonlaw05_WhistleAlike.j0 k l0 bt487.1 bt487.2.1 bt487.2.2.1 (bt487.2.2.1 != (!bt495.1))) else (wigeonlaw05_WhistleAlike.j0 k l0 bt487.1 bt487.2.1 bt487.2.2.1 (bt487.2.2.1 != false))) else (wigeonlaw05_WhistleAlike.j0 k l0 bt487.1 bt487.2.1 bt487.2.2.1 true)))))) = some r := h
 clear h
 replace H := Option.bind_eq_some_iff.mp H
 obtain ⟨t485, A20, H⟩ := H
 replace H : (if t485 = true then ((wigeonlaw05_known.f k).bind fun t486 => (some t486)) else ((whistle_Alike.f k l0).bind fun bt487 => ((wigeonref05_IsSafe.f k l0).bind fun bt495 => (if bt487.2.2.2 = bt495.2 then (if bt487.2.2.2 = 0 then (wigeonlaw05_WhistleAlike.j0 k l0 bt487.1 bt487.2.1 bt487.2.2.1 (bt487.2.2.1 != (!bt495.1))) else (wigeonlaw05_WhistleAlike.j0 k l0 bt487.1 bt487.2.1 bt487.2.2.1 (bt487.2.2.1 != false))) else (wigeonlaw05_WhistleAlike.j0 k l0 bt487.1 bt487.2.1 bt487.2.2.1 true))))) = some r := H
 have A2 := Aside0.mk A20
 clear A20
 by_cases c3 : t485 = true
 ·subst c3
  have H1 : ((wigeonlaw05_known.f k).bind fun t486 => (some t486)) = some r := by rw [if_pos rfl] at H; exact H
  clear H
  have H := H1
  clear H1
  replace H := Option.bind_eq_some_iff.mp H
  obtain ⟨t486, A40, H⟩ := H
  replace H : (some t486) = some r := H
  have A4 := Aside0.mk A40
  clear A40
  obtain rfl := Option.some.inj H
  go_enter Try.func8, Try.ntmps8
  go_wp2_with (first | ((with_reducible refine gate_callee (f := 16) rfl ?_); refine goesL_ (some 10) rfl rfl Try.func16 (by kernel_rfl) rfl #[.slice A0 l0.length c0] rfl (by (try simp only [List.map_toArray, List.map_cons, List.map_nil]); first | done | rfl | (simp only [List.length_drop, List.length_take]; rfl)) ?_; (with_reducible refine (wigeonlaw05_Long.calls k _ _ l0 true _ ?side1 ?side2 A2.out).mono ?_); (case side1 => repeat (first | exact HR0.out | (with_reducible refine Kd.C_alloc ?_ _) | (with_reducible refine Kd.C_drewN ?_ _) | (with_reducible refine Kd.C_drew ?_))); (case side2 => exact HC0.out); rintro e w' ⟨rfl, ⟨nd, rfl⟩⟩; refine ⟨_, rfl, ?_⟩) | ((with_reducible refine gate_callee (f := 17) rfl ?_); refine goesL_ (some 11) rfl rfl Try.func17 (by kernel_rfl) rfl #[] rfl (by (try simp only [List.map_toArray, List.map_cons, List.map_nil]); first | done | rfl | (simp only [List.length_drop, List.length_take]; rfl)) ?_; (with_reducible refine (wigeonlaw05_known.calls k  t486 _ A4.out).mono ?_); rintro e w5 ⟨rfl, hb⟩; refine ⟨_, rfl, ?_⟩; have n0_ := Aside0.mk (below_step (by repeat (first | (with_reducible first | exact HB.out | apply below_alloc | apply pw_below_drewN | apply below_drew1) | exact HB.out)) hb); clear HB; have HB := n0_; clear n0_; (try clear hb); (try clear hb2); (try clear hk); (try clear hi)))
  go_ret
  exact ⟨by first | rfl | (simp [errW_none, errW_some] <;> rfl) | (simp [*, errW_none, errW_some] <;> rfl), by repeat (first | (with_reducible first | exact HB.out | apply below_alloc | apply pw_below_drewN | apply below_drew1) | exact HB.out)⟩
 ·replace c3 := Bool.eq_false_iff.mpr c3
  subst c3
  have H1 : ((whistle_Alike.f k l0).bind fun bt487 => ((wigeonref05_IsSafe.f k l0).bind fun bt495 => (if bt487.2.2.2 = bt495.2 then (if bt487.2.2.2 = 0 then (wigeonlaw05_WhistleAlike.j0 k l0 bt487.1 bt487.2.1 bt487.2.2.1 (bt487.2.2.1 != (!bt495.1))) else (wigeonlaw05_WhistleAlike.j0 k l0 bt487.1 bt487.2.1 bt487.2.2.1 (bt487.2.2.1 != false))) else (wigeonlaw05_WhistleAlike.j0 k l0 bt487.1 bt487.2.1 bt487.2.2.1 true)))) = some r := by rw [if_neg (show ¬ (false = true) by decide)] at H; exact H
  clear H
  have H := H1
  clear H1
  replace H := Option.bind_eq_some_iff.mp H
  obtain ⟨⟨t487, t488, t489, t490⟩, A60, H⟩ := H
  replace H : ((wigeonref05_IsSafe.f k l0).bind fun bt495 => (if t490 = bt495.2 then (if t490 = 0 then (wigeonlaw05_WhistleAlike.j0 k l0 t487 t488 t489 (t489 != (!bt495.1))) else (wigeonlaw05_WhistleAlike.j0 k l0 t487 t488 t489 (t489 != false))) else (wigeonlaw05_WhistleAlike.j0 k l0 t487 t488 t489 true))) = some r := H
  have A6 := Aside0.mk A60
  clear A60
  replace H := Option.bind_eq_some_iff.mp H
  obtain ⟨⟨t495, t496⟩, A70, H⟩ := H
  replace H : (if t490 = t496 then (if t490 = 0 then (wigeonlaw05_WhistleAlike.j0 k l0 t487 t488 t489 (t489 != (!t495))) else (wigeonlaw05_WhistleAlike.j0 k l0 t487 t488 t489 (t489 != false))) else (wigeonlaw05_WhistleAlike.j0 k l0 t487 t488 t489 true)) = some r := H
  have A7 := Aside0.mk A70
  clear A70
  have HC8 := Aside0.mk H
  clear H
  go_enter Try.func8, Try.ntmps8
  go_upto_region 5 with (first | ((with_reducible refine gate_callee (f := 16) rfl ?_); refine goesL_ (some 10) rfl rfl Try.func16 (by kernel_rfl) rfl #[.slice A0 l0.length c0] rfl (by (try simp only [List.map_toArray, List.map_cons, List.map_nil]); first | done | rfl | (simp only [List.length_drop, List.length_take]; rfl)) ?_; (with_reducible refine (wigeonlaw05_Long.calls k _ _ l0 false _ ?side1 ?side2 A2.out).mono ?_); (case side1 => repeat (first | exact HR0.out | (with_reducible refine Kd.C_alloc ?_ _) | (with_reducible refine Kd.C_drewN ?_ _) | (with_reducible refine Kd.C_drew ?_))); (case side2 => exact HC0.out); rintro e w' ⟨rfl, ⟨nd, rfl⟩⟩; refine ⟨_, rfl, ?_⟩) | ((with_reducible refine gate_callee (f := 38) rfl ?_); refine goesL_ (some 14) rfl rfl Try.func38 (by kernel_rfl) rfl #[.slice A0 l0.length c0] rfl (by (try simp only [List.map_toArray, List.map_cons, List.map_nil]); first | done | rfl | (simp only [List.length_drop, List.length_take]; rfl)) ?_; (with_reducible refine (whistle_Alike.calls k _ _ l0 t487 t488 t489 t490 _ ?side1 ?side2 A6.out).mono ?_); (case side1 => repeat (first | exact HR0.out | (with_reducible refine Kd.C_alloc ?_ _) | (with_reducible refine Kd.C_drewN ?_ _) | (with_reducible refine Kd.C_drew ?_))); (case side2 => exact HC0.out); rintro e w9 ⟨v491, v493, rfl, ho0, ho1, hb⟩; refine ⟨_, rfl, ?_⟩; have n0_ := Aside0.mk (Kd.R_lower ho0 (below_size (by repeat (first | (with_reducible first | exact HB.out | apply below_alloc | apply pw_below_drewN | apply below_drew1) | exact HB.out)))); have n1_ := Aside0.mk (Kd.R_lower ho1 (below_size (by repeat (first | (with_reducible first | exact HB.out | apply below_alloc | apply pw_below_drewN | apply below_drew1) | exact HB.out)))); have n2_ := Aside0.mk (below_step (by repeat (first | (with_reducible first | exact HB.out | apply below_alloc | apply pw_below_drewN | apply below_drew1) | exact HB.out)) hb); clear HB; have HO492 := n0_; have HO494 := n1_; have HB := n2_; clear n0_ n1_ n2_; (try clear hb); (try clear hb2); (try clear hk); (try clear hi); (try clear ho0); (try clear ho1)) | ((with_reducible refine gate_callee (f := 28) rfl ?_); refine goesL_ (some 21) rfl rfl Try.func28 (by kernel_rfl) rfl #[.slice A0 l0.length c0] rfl (by (try simp only [List.map_toArray, List.map_cons, List.map_nil]); first | done | rfl | (simp only [List.length_drop, List.length_take]; rfl)) ?_; (with_reducible refine (wigeonref05_IsSafe.calls k _ _ l0 t495 t496 _ ?side1 ?side2 A7.out).mono ?_); (case side1 => repeat (first | exact (Kd.C_below HR0.out HB.out) | (with_reducible refine Kd.C_alloc ?_ _) | (with_reducible refine Kd.C_drewN ?_ _) | (with_reducible refine Kd.C_drew ?_))); (case side2 => exact HC0.out); rintro e w10 ⟨rfl, hb⟩; refine ⟨_, rfl, ?_⟩; have n0_ := Aside0.mk (Kd.R_below (by (with_reducible repeat (first | apply Kd.R_alloc | apply Kd.R_drewN | apply Kd.R_drew)); exact HO492.out) hb); have n1_ := Aside0.mk (Kd.R_below (by (with_reducible repeat (first | apply Kd.R_alloc | apply Kd.R_drewN | apply Kd.R_drew)); exact HO494.out) hb); have n2_ := Aside0.mk (below_step (by repeat (first | (with_reducible first | exact HB.out | apply below_alloc | apply pw_below_drewN | apply below_drew1) | exact HB.out)) hb); clear HO492; clear HO494; clear HB; have HO492 := n0_; have HO494 := n1_; have HB := n2_; clear n0_ n1_ n2_; (try clear hb); (try clear hb2); (try clear hk); (try clear hi)))
  (try simp only [Act.put, List.setIfInBounds_toArray, List.set_cons_zero, List.set_cons_succ])
  go_cut [36] (fun v36 wc => ∃ (kq : Nat) (x36_7 : Bool), v36 = .bool x36_7 ∧ Aside0 (wigeonlaw05_WhistleAlike.j0 kq l0 t487 t488 t489 x36_7 = some r) ∧ Aside0 (kq ≤ k) ∧ Aside0 (Kd.R (Kd.int .i64) 3 wc w.heap.size (fun k_ => some k_ ≠ (v493 : Value).ownBlock) v491 t487) ∧ Aside0 (Kd.R (Kd.int .i64) 3 wc w.heap.size (fun k_ => some k_ ≠ (v491 : Value).ownBlock) v493 t488) ∧ Aside0 (Below w.heap.size w wc))
  case first =>
   have H := HC8.out
   clear HC8
   by_cases c11 : t490 = t496
   ·rw [if_pos c11] at H
    have c11b0 : (t490 == t496) = true := beq_iff_eq.mpr c11
    have c11b1 : (t490 != t496) = false := bne_eq_false_iff_eq.mpr c11
    clear c11
    (first | rw [c11b0] | (simp only [i64_w, i32_w]; rw [c11b0]) | skip)
    by_cases c12 : t490 = 0
    ·rw [if_pos c12] at H
     have c12b0 : (t490 == 0) = true := beq_iff_eq.mpr c12
     have c12b1 : (t490 != 0) = false := bne_eq_false_iff_eq.mpr c12
     clear c12
     have H' := Aside0.mk H
     clear H
     go_wp2
     go_meet
     case rel => exact ⟨_, ((t489 != (!t495))), (by first | rfl | (simp; done) | (simp [*]; done)), H', ⟨by first | omega | exact Nat.le_refl _⟩, ⟨by (with_reducible repeat (first | apply Kd.R_alloc | apply Kd.R_drewN | apply Kd.R_drew)); exact HO492.out⟩, ⟨by (with_reducible repeat (first | apply Kd.R_alloc | apply Kd.R_drewN | apply Kd.R_drew)); exact HO494.out⟩, ⟨by repeat (first | (with_reducible first | exact HB.out | apply below_alloc | apply pw_below_drewN | apply below_drew1) | exact HB.out)⟩⟩
    ·rw [if_neg c12] at H
     have c12b0 : (t490 == 0) = false := beq_eq_false_iff_ne.mpr c12
     have c12b1 : (t490 != 0) = true := bne_iff_ne.mpr c12
     have H' := Aside0.mk H
     clear H
     go_wp2
     go_meet
     case rel => exact ⟨_, ((t489 != false)), (by first | rfl | (simp; done) | (simp [*]; done)), H', ⟨by first | omega | exact Nat.le_refl _⟩, ⟨by (with_reducible repeat (first | apply Kd.R_alloc | apply Kd.R_drewN | apply Kd.R_drew)); exact HO492.out⟩, ⟨by (with_reducible repeat (first | apply Kd.R_alloc | apply Kd.R_drewN | apply Kd.R_drew)); exact HO494.out⟩, ⟨by repeat (first | (with_reducible first | exact HB.out | apply below_alloc | apply pw_below_drewN | apply below_drew1) | exact HB.out)⟩⟩
   ·rw [if_neg c11] at H
    have c11b0 : (t490 == t496) = false := beq_eq_false_iff_ne.mpr c11
    have c11b1 : (t490 != t496) = true := bne_iff_ne.mpr c11
    (first | rw [c11b0] | (simp only [i64_w, i32_w]; rw [c11b0]) | skip)
    have H' := Aside0.mk H
    clear H
    go_wp2
    go_meet
    case rel => exact ⟨_, (true), (by first | rfl | (simp; done) | (simp [*]; done)), H', ⟨by first | omega | exact Nat.le_refl _⟩, ⟨by (with_reducible repeat (first | apply Kd.R_alloc | apply Kd.R_drewN | apply Kd.R_drew)); exact HO492.out⟩, ⟨by (with_reducible repeat (first | apply Kd.R_alloc | apply Kd.R_drewN | apply Kd.R_drew)); exact HO494.out⟩, ⟨by repeat (first | (with_reducible first | exact HB.out | apply below_alloc | apply pw_below_drewN | apply below_drew1) | exact HB.out)⟩⟩
  case rest =>
   clear HC8
   try clear c1
   try clear c2
   try clear p2
   try clear c3
   try clear c8
   try clear c11
   try clear c11b0
   try clear c11b1
   try clear c12
   try clear c12b0
   try clear c12b1
   obtain ⟨kq, x36_7, rfl, HA, HJ7, HO_3, HO_4, HB⟩ := hcut
   cases kq with
   | zero => exact absurd HA.out (by simp [wigeonlaw05_WhistleAlike.j0])
   | succ kj7 =>
    have H := HA.out
    clear HA
    simp only [wigeonlaw05_WhistleAlike.j0] at H
    by_cases c13 : x36_7 = true
    ·subst c13
     have H1 : (none) = some r := by rw [if_pos rfl] at H; exact H
     exact absurd H1 (by simp)
    ·replace c13 := Bool.eq_false_iff.mpr c13
     subst c13
     have H1 : (if t489 = true then ((wigeonref05_CheckAlike.f kj7 l0 t487 t488).bind fun t497 => (if t497 = 0 then ((wigeonlaw05_known.f kj7).bind fun t498 => (some t498)) else (none))) else (if (t487.length : Int) = 0 then (if (t488.length : Int) = 0 then ((wigeonlaw05_known.f kj7).bind fun t499 => (some t499)) else (none)) else (none))) = some r := by rw [if_neg (show ¬ (false = true) by decide)] at H; exact H
     clear H
     have H := H1
     clear H1
     by_cases c14 : t489 = true
     ·subst c14
      have H1 : ((wigeonref05_CheckAlike.f kj7 l0 t487 t488).bind fun t497 => (if t497 = 0 then ((wigeonlaw05_known.f kj7).bind fun t498 => (some t498)) else (none))) = some r := by rw [if_pos rfl] at H; exact H
      clear H
      have H := H1
      clear H1
      replace H := Option.bind_eq_some_iff.mp H
      obtain ⟨t497, A150, H⟩ := H
      replace H : (if t497 = 0 then ((wigeonlaw05_known.f kj7).bind fun t498 => (some t498)) else (none)) = some r := H
      have A15 := Aside0.mk A150
      clear A150
      by_cases c16 : t497 = 0
      ·rw [if_pos c16] at H
       have c16b0 : (t497 == 0) = true := beq_iff_eq.mpr c16
       have c16b1 : (t497 != 0) = false := bne_eq_false_iff_eq.mpr c16
       clear c16
       replace H := Option.bind_eq_some_iff.mp H
       obtain ⟨t498, A170, H⟩ := H
       replace H : (some t498) = some r := H
       have A17 := Aside0.mk A170
       clear A170
       obtain rfl := Option.some.inj H
       obtain ⟨Ao18, co18, eo18⟩ := Kd.R_slice HO_3.out
       subst eo18
       obtain ⟨Ao19, co19, eo19⟩ := Kd.R_slice HO_4.out
       subst eo19
       go_wp2_with (first | ((with_reducible refine gate_callee (f := 39) rfl ?_); refine goesL_ (some 53) rfl rfl Try.func39 (by kernel_rfl) rfl #[.slice A0 l0.length c0, .slice Ao18 t487.length co18, .slice Ao19 t488.length co19] rfl (by (try simp only [List.map_toArray, List.map_cons, List.map_nil]); first | done | rfl | (simp only [List.length_drop, List.length_take]; rfl)) ?_; (with_reducible refine (wigeonref05_CheckAlike.calls kj7 _ _ l0 _ _ t487 _ _ t488 t497 _ ?side1 ?side2 ?side3 ?side4 ?side5 ?side6 A15.out).mono ?_); (case side1 => repeat (first | exact (Kd.C_below HR0.out HB.out) | (with_reducible refine Kd.C_alloc ?_ _) | (with_reducible refine Kd.C_drewN ?_ _) | (with_reducible refine Kd.C_drew ?_))); (case side2 => exact HC0.out); (case side3 => repeat (first | exact (Kd.R_reads' HO_3.out).2.2 | (with_reducible refine Kd.C_alloc ?_ _) | (with_reducible refine Kd.C_drewN ?_ _) | (with_reducible refine Kd.C_drew ?_))); (case side4 => exact (Kd.R_reads' HO_3.out).2.1); (case side5 => repeat (first | exact (Kd.R_reads' HO_4.out).2.2 | (with_reducible refine Kd.C_alloc ?_ _) | (with_reducible refine Kd.C_drewN ?_ _) | (with_reducible refine Kd.C_drew ?_))); (case side6 => exact (Kd.R_reads' HO_4.out).2.1); rintro e w20 ⟨rfl, hb⟩; refine ⟨_, rfl, ?_⟩; have n0_ := Aside0.mk (Kd.R_below (by (with_reducible repeat (first | apply Kd.R_alloc | apply Kd.R_drewN | apply Kd.R_drew)); exact HO_3.out) hb); have n1_ := Aside0.mk (Kd.R_below (by (with_reducible repeat (first | apply Kd.R_alloc | apply Kd.R_drewN | apply Kd.R_drew)); exact HO_4.out) hb); have n2_ := Aside0.mk (below_step (by repeat (first | (with_reducible first | exact HB.out | apply below_alloc | apply pw_below_drewN | apply below_drew1) | exact HB.out)) hb); clear HO_3; clear HO_4; clear HB; have HO_3 := n0_; have HO_4 := n1_; have HB := n2_; clear n0_ n1_ n2_; (try clear hb); (try clear hb2); (try clear hk); (try clear hi)) | (go_at_call 17; (with_reducible refine (wigeonlaw05_known.calls kj7  t498 _ A17.out).mono ?_); rintro e w21 ⟨rfl, hb⟩; have n0_ := Aside0.mk (Kd.R_below (by (with_reducible repeat (first | apply Kd.R_alloc | apply Kd.R_drewN | apply Kd.R_drew)); exact HO_3.out) hb); have n1_ := Aside0.mk (Kd.R_below (by (with_reducible repeat (first | apply Kd.R_alloc | apply Kd.R_drewN | apply Kd.R_drew)); exact HO_4.out) hb); have n2_ := Aside0.mk (below_step (by repeat (first | (with_reducible first | exact HB.out | apply below_alloc | apply pw_below_drewN | apply below_drew1) | exact HB.out)) hb); clear HO_3; clear HO_4; clear HB; have HO_3 := n0_; have HO_4 := n1_; have HB := n2_; clear n0_ n1_ n2_; (try clear hb); (try clear hb2); (try clear hk); (try clear hi)))
       go_ret
       exact ⟨by first | rfl | (simp [errW_none, errW_some] <;> rfl) | (simp [*, errW_none, errW_some] <;> rfl), by repeat (first | (with_reducible first | exact HB.out | apply below_alloc | apply pw_below_drewN | apply below_drew1) | exact HB.out)⟩
      ·rw [if_neg c16] at H
       exact absurd H (by simp)
     ·replace c14 := Bool.eq_false_iff.mpr c14
      subst c14
      have H1 : (if (t487.length : Int) = 0 then (if (t488.length : Int) = 0 then ((wigeonlaw05_known.f kj7).bind fun t499 => (some t499)) else (none)) else (none)) = some r := by rw [if_neg (show ¬ (false = true) by decide)] at H; exact H
      clear H
      have H := H1
      clear H1
      by_cases c25 : (t487.length : Int) = 0
      ·rw [if_pos c25] at H
       have c25b0 : ((t487.length : Int) == 0) = true := beq_iff_eq.mpr c25
       have c25b1 : ((t487.length : Int) != 0) = false := bne_eq_false_iff_eq.mpr c25
       clear c25
       by_cases c26 : (t488.length : Int) = 0
       ·rw [if_pos c26] at H
        have c26b0 : ((t488.length : Int) == 0) = true := beq_iff_eq.mpr c26
        have c26b1 : ((t488.length : Int) != 0) = false := bne_eq_false_iff_eq.mpr c26
        clear c26
        replace H := Option.bind_eq_some_iff.mp H
        obtain ⟨t499, A270, H⟩ := H
        replace H : (some t499) = some r := H
        have A27 := Aside0.mk A270
        clear A270
        obtain rfl := Option.some.inj H
        obtain ⟨Ao28, co28, eo28⟩ := Kd.R_slice HO_3.out
        subst eo28
        obtain ⟨Ao29, co29, eo29⟩ := Kd.R_slice HO_4.out
        subst eo29
        go_wp2_with (first | (go_at_call 17; (with_reducible refine (wigeonlaw05_known.calls kj7  t499 _ A27.out).mono ?_); rintro e w30 ⟨rfl, hb⟩; have n0_ := Aside0.mk (Kd.R_below (by (with_reducible repeat (first | apply Kd.R_alloc | apply Kd.R_drewN | apply Kd.R_drew)); exact HO_3.out) hb); have n1_ := Aside0.mk (Kd.R_below (by (with_reducible repeat (first | apply Kd.R_alloc | apply Kd.R_drewN | apply Kd.R_drew)); exact HO_4.out) hb); have n2_ := Aside0.mk (below_step (by repeat (first | (with_reducible first | exact HB.out | apply below_alloc | apply pw_below_drewN | apply below_drew1) | exact HB.out)) hb); clear HO_3; clear HO_4; clear HB; have HO_3 := n0_; have HO_4 := n1_; have HB := n2_; clear n0_ n1_ n2_; (try clear hb); (try clear hb2); (try clear hk); (try clear hi)))
        go_ret
        exact ⟨by first | rfl | (simp [errW_none, errW_some] <;> rfl) | (simp [*, errW_none, errW_some] <;> rfl), by repeat (first | (with_reducible first | exact HB.out | apply below_alloc | apply pw_below_drewN | apply below_drew1) | exact HB.out)⟩
       ·rw [if_neg c26] at H
        exact absurd H (by simp)
      ·rw [if_neg c25] at H
       exact absurd H (by simp)end Go.Proofs.Ytpkafcoflgbnaaa.Q
