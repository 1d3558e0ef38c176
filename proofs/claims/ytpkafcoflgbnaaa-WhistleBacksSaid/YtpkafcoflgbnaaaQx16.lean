-- Written by a program of this session (wip/tools/gprint.py, over the kit's print); Lean checks it.
import Derived.Test.YtpkafcoflgbnaaaQx0
import Derived.Test.YtpkafcoflgbnaaaQx2
import Derived.Test.YtpkafcoflgbnaaaQx10
import Derived.Test.YtpkafcoflgbnaaaQx15
namespace Go.Proofs.Ytpkafcoflgbnaaa.Q
open Go.RowKit Go.Proofs.YtpkafcoflgbnaaaW.PrintWords Go.Proofs.YtpkafcoflgbnaaaW.PrintLast Go.Proofs.YtpkafcoflgbnaaaW.PrintMore
attribute [local go_sem] max2_int min2_int max_two min_two max_three min_three max_four min_four   -- for this text's walks alone
set_option linter.unusedVariables false
set_option linter.unusedSimpArgs false

/-! ### wigeonlaw05_WhistleBacks: function 4 -/
def wigeonlaw05_WhistleBacks.j0 : Nat → List ByteArray → List ByteArray → Int → Bool → Option (Bool)
 | 0, _, _, _, _ => none
 | k + 1, x0, x3, x4, x34 => if x34 = true then (none) else (if x4 = 0 then ((whistle_Back.f k x3).bind fun bt332 => ((whistle_IsSafe.f k x0).bind fun bt336 => ((whistle_IsSafe.f k x3).bind fun bt338 => (if bt332.2 = 0 then ((wigeonref05_SameTexts.f k bt332.1 x0).bind fun t340 => (if t340 = true then (if bt336.2 = 0 then (if bt338.2 = 0 then (if (bt336.1 == bt338.1) = true then ((wigeonlaw05_known.f k).bind fun t341 => (some t341)) else (none)) else (none)) else (none)) else (none))) else (none))))) else ((wigeonlaw05_known.f k).bind fun t331 => (some t331)))
def wigeonlaw05_WhistleBacks.f (k : Nat) (l0 : List ByteArray) : Option (Bool) := (wigeonlaw05_Long.f k l0).bind fun t320 => (if t320 = true then ((wigeonlaw05_known.f k).bind fun t321 => (some t321)) else ((whistle_Back.f k l0).bind fun bt322 => ((wigeonref05_Back.f k l0).bind fun bt326 => ((wigeonref05_SameTexts.f k bt322.1 bt326.1).bind fun t330 => (if t330 = true then (wigeonlaw05_WhistleBacks.j0 k l0 bt322.1 bt322.2 (bt322.2 != bt326.2)) else (wigeonlaw05_WhistleBacks.j0 k l0 bt322.1 bt322.2 true))))))
theorem wigeonlaw05_WhistleBacks.j0.dead {k x0 x1 x2} : wigeonlaw05_WhistleBacks.j0 k x0 x1 x2 true = none := by cases k <;> simp [wigeonlaw05_WhistleBacks.j0]
theorem wigeonlaw05_WhistleBacks.mono_l : ∀ k, (∀ y0 y1 y2 y3, LeO (wigeonlaw05_WhistleBacks.j0 k y0 y1 y2 y3) (wigeonlaw05_WhistleBacks.j0 (k + 1) y0 y1 y2 y3))
 | 0 => fun _ _ _ _ r h => by simp [wigeonlaw05_WhistleBacks.j0] at h
 | k + 1 => by
  have ih0 := wigeonlaw05_WhistleBacks.mono_l k
  ·intro y0 y1 y2 y3
   unfold wigeonlaw05_WhistleBacks.j0
   repeat' first
   | (with_reducible exact ih0 _ _ _ _)
   | (with_reducible exact whistle_Back.mono _ _)
   | (with_reducible exact whistle_IsSafe.mono _ _)
   | (with_reducible exact wigeonlaw05_Long.mono _ _)
   | (with_reducible exact wigeonlaw05_known.mono _)
   | (with_reducible exact wigeonref05_Back.mono _ _)
   | (with_reducible exact wigeonref05_SameTexts.mono _ _ _)
   | (with_reducible exact LeO.refl _)
   | (with_reducible exact LeO.none _)
   | (with_reducible refine LeO.ite ?_ ?_)
   | (with_reducible refine LeO.bind ?_ (fun _ => ?_))
   | exact ih0 _ _ _ _
   | exact whistle_Back.mono _ _
   | exact whistle_IsSafe.mono _ _
   | exact wigeonlaw05_Long.mono _ _
   | exact wigeonlaw05_known.mono _
   | exact wigeonref05_Back.mono _ _
   | exact wigeonref05_SameTexts.mono _ _ _
   | exact LeO.none _
   | refine LeO.ite ?_ ?_
   | refine LeO.bind ?_ (fun _ => ?_)
theorem wigeonlaw05_WhistleBacks.mono : ∀ a0 k, LeO (wigeonlaw05_WhistleBacks.f k a0) (wigeonlaw05_WhistleBacks.f (k + 1) a0) := by
 intro a0 k
 have ih0 := wigeonlaw05_WhistleBacks.mono_l k
 unfold wigeonlaw05_WhistleBacks.f
 repeat' first
   | (with_reducible exact ih0 _ _ _ _)
   | (with_reducible exact whistle_Back.mono _ _)
   | (with_reducible exact whistle_IsSafe.mono _ _)
   | (with_reducible exact wigeonlaw05_Long.mono _ _)
   | (with_reducible exact wigeonlaw05_known.mono _)
   | (with_reducible exact wigeonref05_Back.mono _ _)
   | (with_reducible exact wigeonref05_SameTexts.mono _ _ _)
   | (with_reducible exact LeO.refl _)
   | (with_reducible exact LeO.none _)
   | (with_reducible refine LeO.ite ?_ ?_)
   | (with_reducible refine LeO.bind ?_ (fun _ => ?_))
   | exact ih0 _ _ _ _
   | exact whistle_Back.mono _ _
   | exact whistle_IsSafe.mono _ _
   | exact wigeonlaw05_Long.mono _ _
   | exact wigeonlaw05_known.mono _
   | exact wigeonref05_Back.mono _ _
   | exact wigeonref05_SameTexts.mono _ _ _
   | exact LeO.none _
   | refine LeO.ite ?_ ?_
   | refine LeO.bind ?_ (fun _ => ?_)
set_option maxHeartbeats 8000000 in
set_option maxRecDepth 100000 in
theorem wigeonlaw05_WhistleBacks.calls (k : Nat) (A0 : Option Addr) (c0 : Nat) (l0 : List ByteArray) (r : Bool) (w : World) (hr0 : Kd.C Kd.string w A0 l0.length l0) (hc0 : l0.length ≤ c0) (h : wigeonlaw05_WhistleBacks.f k l0 = some r) :
  Calls Try.prog 4 #[.slice A0 l0.length c0] w fun e w' => e = .returned (.bool r) ∧ Below w.heap.size w w' := by
 have HR0 := Aside0.mk hr0
 have HC0 := Aside0.mk hc0
 clear hr0 hc0
 have HB := Aside0.mk (Below.refl w.heap.size w)
 have H : ((wigeonlaw05_Long.f k l0).bind fun t320 => (if t320 = true then ((wigeonlaw05_known.f k).bind fun t321 => (some t321)) else ((whistle_Back.f k l0).bind fun bt322 => ((wigeonref05_Back.f k l0).bind fun bt326 => ((wigeonref05_SameTexts.f k bt322.1 bt326.1).bind fun t330 => (if t330 = true then (wigeonlaw05_WhistleBacks.j0 k l0 bt322.1 bt322.2 (bt322.2 != bt326.2)) else (wigeonlaw05_WhistleBacks.j0 k l0 bt322.1 bt322.2 true))))))) = some r := h
 clear h
 replace H := Option.bind_eq_some_iff.mp H
 obtain ⟨t320, A20, H⟩ := H
 replace H : (if t320 = true then ((wigeonlaw05_known.f k).bind fun t321 => (some t321)) else ((whistle_Back.f k l0).bind fun bt322 => ((wigeonref05_Back.f k l0).bind fun bt326 => ((wigeonref05_SameTexts.f k bt322.1 bt326.1).bind fun t330 => (if t330 = true then (wigeonlaw05_WhistleBacks.j0 k l0 bt322.1 bt322.2 (bt322.2 != bt326.2)) else (wigeonlaw05_WhistleBacks.j0 k l0 bt322.1 bt322.2 true)))))) = some r := H
 have A2 := Aside0.mk A20
 clear A20
 by_cases c3 : t320 = true
 ·subst c3
  have H1 : ((wigeonlaw05_known.f k).bind fun t321 => (some t321)) = some r := by rw [if_pos rfl] at H; exact H
  clear H
  have H := H1
  clear H1
  replace H := Option.bind_eq_some_iff.mp H
  obtain ⟨t321, A40, H⟩ := H
  replace H : (some t321) = some r := H
  have A4 := Aside0.mk A40
  clear A40
  obtain rfl := Option.some.inj H
  go_enter Try.func4, Try.ntmps4
  go_wp2_with (first | ((with_reducible refine gate_callee (f := 16) rfl ?_); refine goesL_ (some 14) rfl rfl Try.func16 (by kernel_rfl) rfl #[.slice A0 l0.length c0] rfl (by (try simp only [List.map_toArray, List.map_cons, List.map_nil]); first | done | rfl | (simp only [List.length_drop, List.length_take]; rfl)) ?_; (with_reducible refine (wigeonlaw05_Long.calls k _ _ l0 true _ ?side1 ?side2 A2.out).mono ?_); (case side1 => repeat (first | exact HR0.out | (with_reducible refine Kd.C_alloc ?_ _) | (with_reducible refine Kd.C_drewN ?_ _) | (with_reducible refine Kd.C_drew ?_))); (case side2 => exact HC0.out); rintro e w' ⟨rfl, ⟨nd, rfl⟩⟩; refine ⟨_, rfl, ?_⟩) | ((with_reducible refine gate_callee (f := 17) rfl ?_); refine goesL_ (some 15) rfl rfl Try.func17 (by kernel_rfl) rfl #[] rfl (by (try simp only [List.map_toArray, List.map_cons, List.map_nil]); first | done | rfl | (simp only [List.length_drop, List.length_take]; rfl)) ?_; (with_reducible refine (wigeonlaw05_known.calls k  t321 _ A4.out).mono ?_); rintro e w5 ⟨rfl, hb⟩; refine ⟨_, rfl, ?_⟩; have n0_ := Aside0.mk (below_step (by repeat (first | (with_reducible first | exact HB.out | apply below_alloc | apply pw_below_drewN | apply below_drew1) | exact HB.out)) hb); clear HB; have HB := n0_; clear n0_; (try clear hb); (try clear hb2); (try clear hk); (try clear hi)))
  go_ret
  exact ⟨by first | rfl | (simp [errW_none, errW_some] <;> rfl) | (simp [*, errW_none, errW_some] <;> rfl), by repeat (first | (with_reducible first | exact HB.out | apply below_alloc | apply pw_below_drewN | apply below_drew1) | exact HB.out)⟩
 ·replace c3 := Bool.eq_false_iff.mpr c3
  subst c3
  have H1 : ((whistle_Back.f k l0).bind fun bt322 => ((wigeonref05_Back.f k l0).bind fun bt326 => ((wigeonref05_SameTexts.f k bt322.1 bt326.1).bind fun t330 => (if t330 = true then (wigeonlaw05_WhistleBacks.j0 k l0 bt322.1 bt322.2 (bt322.2 != bt326.2)) else (wigeonlaw05_WhistleBacks.j0 k l0 bt322.1 bt322.2 true))))) = some r := by rw [if_neg (show ¬ (false = true) by decide)] at H; exact H
  clear H
  have H := H1
  clear H1
  replace H := Option.bind_eq_some_iff.mp H
  obtain ⟨⟨t322, t323⟩, A60, H⟩ := H
  replace H : ((wigeonref05_Back.f k l0).bind fun bt326 => ((wigeonref05_SameTexts.f k t322 bt326.1).bind fun t330 => (if t330 = true then (wigeonlaw05_WhistleBacks.j0 k l0 t322 t323 (t323 != bt326.2)) else (wigeonlaw05_WhistleBacks.j0 k l0 t322 t323 true)))) = some r := H
  have A6 := Aside0.mk A60
  clear A60
  replace H := Option.bind_eq_some_iff.mp H
  obtain ⟨⟨t326, t327⟩, A70, H⟩ := H
  replace H : ((wigeonref05_SameTexts.f k t322 t326).bind fun t330 => (if t330 = true then (wigeonlaw05_WhistleBacks.j0 k l0 t322 t323 (t323 != t327)) else (wigeonlaw05_WhistleBacks.j0 k l0 t322 t323 true))) = some r := H
  have A7 := Aside0.mk A70
  clear A70
  have HC8 := Aside0.mk H
  clear H
  go_enter Try.func4, Try.ntmps4
  go_upto_region 5 with (first | ((with_reducible refine gate_callee (f := 16) rfl ?_); refine goesL_ (some 14) rfl rfl Try.func16 (by kernel_rfl) rfl #[.slice A0 l0.length c0] rfl (by (try simp only [List.map_toArray, List.map_cons, List.map_nil]); first | done | rfl | (simp only [List.length_drop, List.length_take]; rfl)) ?_; (with_reducible refine (wigeonlaw05_Long.calls k _ _ l0 false _ ?side1 ?side2 A2.out).mono ?_); (case side1 => repeat (first | exact HR0.out | (with_reducible refine Kd.C_alloc ?_ _) | (with_reducible refine Kd.C_drewN ?_ _) | (with_reducible refine Kd.C_drew ?_))); (case side2 => exact HC0.out); rintro e w' ⟨rfl, ⟨nd, rfl⟩⟩; refine ⟨_, rfl, ?_⟩) | ((with_reducible refine gate_callee (f := 22) rfl ?_); refine goesL_ (some 18) rfl rfl Try.func22 (by kernel_rfl) rfl #[.slice A0 l0.length c0] rfl (by (try simp only [List.map_toArray, List.map_cons, List.map_nil]); first | done | rfl | (simp only [List.length_drop, List.length_take]; rfl)) ?_; (with_reducible refine (whistle_Back.calls k _ _ l0 t322 t323 _ ?side1 ?side2 A6.out).mono ?_); (case side1 => repeat (first | exact HR0.out | (with_reducible refine Kd.C_alloc ?_ _) | (with_reducible refine Kd.C_drewN ?_ _) | (with_reducible refine Kd.C_drew ?_))); (case side2 => exact HC0.out); rintro e w9 ⟨v324, rfl, ho0, hb⟩; refine ⟨_, rfl, ?_⟩; have n0_ := Aside0.mk (Kd.R_lower ho0 (below_size (by repeat (first | (with_reducible first | exact HB.out | apply below_alloc | apply pw_below_drewN | apply below_drew1) | exact HB.out)))); have n1_ := Aside0.mk (below_step (by repeat (first | (with_reducible first | exact HB.out | apply below_alloc | apply pw_below_drewN | apply below_drew1) | exact HB.out)) hb); clear HB; have HO325 := n0_; have HB := n1_; clear n0_ n1_; (try clear hb); (try clear hb2); (try clear hk); (try clear hi); (try clear ho0)) | ((with_reducible refine gate_callee (f := 23) rfl ?_); refine goesL_ (some 23) rfl rfl Try.func23 (by kernel_rfl) rfl #[.slice A0 l0.length c0] rfl (by (try simp only [List.map_toArray, List.map_cons, List.map_nil]); first | done | rfl | (simp only [List.length_drop, List.length_take]; rfl)) ?_; (with_reducible refine (wigeonref05_Back.calls k _ _ l0 t326 t327 _ ?side1 ?side2 A7.out).mono ?_); (case side1 => repeat (first | exact (Kd.C_below HR0.out HB.out) | (with_reducible refine Kd.C_alloc ?_ _) | (with_reducible refine Kd.C_drewN ?_ _) | (with_reducible refine Kd.C_drew ?_))); (case side2 => exact HC0.out); rintro e w10 ⟨v328, rfl, ho0, hb⟩; refine ⟨_, rfl, ?_⟩; have n0_ := Aside0.mk (Kd.R_elder' (by (with_reducible repeat (first | apply Kd.R_alloc | apply Kd.R_drewN | apply Kd.R_drew)); exact HO325.out) (Kd.R_base ho0) hb); have n1_ := Aside0.mk (Kd.R_lower (Kd.R_new' ho0 (Kd.R_lt (by (with_reducible repeat (first | apply Kd.R_alloc | apply Kd.R_drewN | apply Kd.R_drew)); exact HO325.out))) (below_size (by repeat (first | (with_reducible first | exact HB.out | apply below_alloc | apply pw_below_drewN | apply below_drew1) | exact HB.out)))); have n2_ := Aside0.mk (below_step (by repeat (first | (with_reducible first | exact HB.out | apply below_alloc | apply pw_below_drewN | apply below_drew1) | exact HB.out)) hb); clear HO325; clear HB; have HO325 := n0_; have HO329 := n1_; have HB := n2_; clear n0_ n1_ n2_; (try clear hb); (try clear hb2); (try clear hk); (try clear hi); (try clear ho0)))
  (try simp only [Act.put, List.setIfInBounds_toArray, List.set_cons_zero, List.set_cons_succ])
  go_cut [34] (fun v34 wc => ∃ (kq : Nat) (x34_7 : Bool), v34 = .bool x34_7 ∧ Aside0 (wigeonlaw05_WhistleBacks.j0 kq l0 t322 t323 x34_7 = some r) ∧ Aside0 (kq ≤ k) ∧ Aside0 (Kd.R Kd.string 9 wc w.heap.size (fun _ => True) v324 t322) ∧ Aside0 (Below w.heap.size w wc))
  case first =>
   have H := HC8.out
   clear HC8
   replace H := Option.bind_eq_some_iff.mp H
   obtain ⟨t330, A110, H⟩ := H
   replace H : (if t330 = true then (wigeonlaw05_WhistleBacks.j0 k l0 t322 t323 (t323 != t327)) else (wigeonlaw05_WhistleBacks.j0 k l0 t322 t323 true)) = some r := H
   have A11 := Aside0.mk A110
   clear A110
   by_cases c12 : t330 = true
   ·subst c12
    have H1 : (wigeonlaw05_WhistleBacks.j0 k l0 t322 t323 (t323 != t327)) = some r := by rw [if_pos rfl] at H; exact H
    clear H
    have H := H1
    clear H1
    have H' := Aside0.mk H
    clear H
    obtain ⟨Ao13, co13, eo13⟩ := Kd.R_slice HO325.out
    subst eo13
    obtain ⟨Ao14, co14, eo14⟩ := Kd.R_slice HO329.out
    subst eo14
    go_wp2_with (first | ((with_reducible refine gate_callee (f := 20) rfl ?_); refine goesL_ (some 28) rfl rfl Try.func20 (by kernel_rfl) rfl #[.slice Ao13 t322.length co13, .slice Ao14 t326.length co14] rfl (by (try simp only [List.map_toArray, List.map_cons, List.map_nil]); first | done | rfl | (simp only [List.length_drop, List.length_take]; rfl)) ?_; (with_reducible refine (wigeonref05_SameTexts.calls k _ _ t322 _ _ t326 true _ ?side1 ?side2 ?side3 ?side4 A11.out).mono ?_); (case side1 => repeat (first | exact (Kd.R_reads' HO325.out).2.2 | (with_reducible refine Kd.C_alloc ?_ _) | (with_reducible refine Kd.C_drewN ?_ _) | (with_reducible refine Kd.C_drew ?_))); (case side2 => exact (Kd.R_reads' HO325.out).2.1); (case side3 => repeat (first | exact (Kd.R_reads' HO329.out).2.2 | (with_reducible refine Kd.C_alloc ?_ _) | (with_reducible refine Kd.C_drewN ?_ _) | (with_reducible refine Kd.C_drew ?_))); (case side4 => exact (Kd.R_reads' HO329.out).2.1); rintro e w' ⟨rfl, ⟨nd, rfl⟩⟩; refine ⟨_, rfl, ?_⟩))
    go_meet
    case rel => exact ⟨_, ((t323 != t327)), (by first | rfl | (simp; done) | (simp [*]; done)), H', ⟨by first | omega | exact Nat.le_refl _⟩, ⟨by (with_reducible repeat (first | apply Kd.R_alloc | apply Kd.R_drewN | apply Kd.R_drew)); exact Kd.R_mono HO325.out (fun _ hk => trivial)⟩, ⟨by repeat (first | (with_reducible first | exact HB.out | apply below_alloc | apply pw_below_drewN | apply below_drew1) | exact HB.out)⟩⟩
   ·replace c12 := Bool.eq_false_iff.mpr c12
    subst c12
    have H1 : (wigeonlaw05_WhistleBacks.j0 k l0 t322 t323 true) = some r := by rw [if_neg (show ¬ (false = true) by decide)] at H; exact H
    exact absurd H1 (by rw [wigeonlaw05_WhistleBacks.j0.dead]; simp)
  case rest =>
   clear HC8
   try clear c1
   try clear c2
   try clear p2
   try clear c3
   try clear c4
   try clear c12
   try clear c16
   obtain ⟨kq, x34_7, rfl, HA, HJ7, HO_3, HB⟩ := hcut
   cases kq with
   | zero => exact absurd HA.out (by simp [wigeonlaw05_WhistleBacks.j0])
   | succ kj7 =>
    have H := HA.out
    clear HA
    simp only [wigeonlaw05_WhistleBacks.j0] at H
    by_cases c17 : x34_7 = true
    ·subst c17
     have H1 : (none) = some r := by rw [if_pos rfl] at H; exact H
     exact absurd H1 (by simp)
    ·replace c17 := Bool.eq_false_iff.mpr c17
     subst c17
     have H1 : (if t323 = 0 then ((whistle_Back.f kj7 t322).bind fun bt332 => ((whistle_IsSafe.f kj7 l0).bind fun bt336 => ((whistle_IsSafe.f kj7 t322).bind fun bt338 => (if bt332.2 = 0 then ((wigeonref05_SameTexts.f kj7 bt332.1 l0).bind fun t340 => (if t340 = true then (if bt336.2 = 0 then (if bt338.2 = 0 then (if (bt336.1 == bt338.1) = true then ((wigeonlaw05_known.f kj7).bind fun t341 => (some t341)) else (none)) else (none)) else (none)) else (none))) else (none))))) else ((wigeonlaw05_known.f kj7).bind fun t331 => (some t331))) = some r := by rw [if_neg (show ¬ (false = true) by decide)] at H; exact H
     clear H
     have H := H1
     clear H1
     by_cases c18 : t323 = 0
     ·rw [if_pos c18] at H
      have c18b0 : (t323 == 0) = true := beq_iff_eq.mpr c18
      have c18b1 : (t323 != 0) = false := bne_eq_false_iff_eq.mpr c18
      clear c18
      replace H := Option.bind_eq_some_iff.mp H
      obtain ⟨⟨t332, t333⟩, A190, H⟩ := H
      replace H : ((whistle_IsSafe.f kj7 l0).bind fun bt336 => ((whistle_IsSafe.f kj7 t322).bind fun bt338 => (if t333 = 0 then ((wigeonref05_SameTexts.f kj7 t332 l0).bind fun t340 => (if t340 = true then (if bt336.2 = 0 then (if bt338.2 = 0 then (if (bt336.1 == bt338.1) = true then ((wigeonlaw05_known.f kj7).bind fun t341 => (some t341)) else (none)) else (none)) else (none)) else (none))) else (none)))) = some r := H
      have A19 := Aside0.mk A190
      clear A190
      replace H := Option.bind_eq_some_iff.mp H
      obtain ⟨⟨t336, t337⟩, A200, H⟩ := H
      replace H : ((whistle_IsSafe.f kj7 t322).bind fun bt338 => (if t333 = 0 then ((wigeonref05_SameTexts.f kj7 t332 l0).bind fun t340 => (if t340 = true then (if t337 = 0 then (if bt338.2 = 0 then (if (t336 == bt338.1) = true then ((wigeonlaw05_known.f kj7).bind fun t341 => (some t341)) else (none)) else (none)) else (none)) else (none))) else (none))) = some r := H
      have A20 := Aside0.mk A200
      clear A200
      replace H := Option.bind_eq_some_iff.mp H
      obtain ⟨⟨t338, t339⟩, A210, H⟩ := H
      replace H : (if t333 = 0 then ((wigeonref05_SameTexts.f kj7 t332 l0).bind fun t340 => (if t340 = true then (if t337 = 0 then (if t339 = 0 then (if (t336 == t338) = true then ((wigeonlaw05_known.f kj7).bind fun t341 => (some t341)) else (none)) else (none)) else (none)) else (none))) else (none)) = some r := H
      have A21 := Aside0.mk A210
      clear A210
      by_cases c22 : t333 = 0
      ·rw [if_pos c22] at H
       have c22b0 : (t333 == 0) = true := beq_iff_eq.mpr c22
       have c22b1 : (t333 != 0) = false := bne_eq_false_iff_eq.mpr c22
       clear c22
       replace H := Option.bind_eq_some_iff.mp H
       obtain ⟨t340, A230, H⟩ := H
       replace H : (if t340 = true then (if t337 = 0 then (if t339 = 0 then (if (t336 == t338) = true then ((wigeonlaw05_known.f kj7).bind fun t341 => (some t341)) else (none)) else (none)) else (none)) else (none)) = some r := H
       have A23 := Aside0.mk A230
       clear A230
       by_cases c24 : t340 = true
       ·subst c24
        have H1 : (if t337 = 0 then (if t339 = 0 then (if (t336 == t338) = true then ((wigeonlaw05_known.f kj7).bind fun t341 => (some t341)) else (none)) else (none)) else (none)) = some r := by rw [if_pos rfl] at H; exact H
        clear H
        have H := H1
        clear H1
        by_cases c25 : t337 = 0
        ·rw [if_pos c25] at H
         have c25b0 : (t337 == 0) = true := beq_iff_eq.mpr c25
         have c25b1 : (t337 != 0) = false := bne_eq_false_iff_eq.mpr c25
         clear c25
         by_cases c26 : t339 = 0
         ·rw [if_pos c26] at H
          have c26b0 : (t339 == 0) = true := beq_iff_eq.mpr c26
          have c26b1 : (t339 != 0) = false := bne_eq_false_iff_eq.mpr c26
          clear c26
          by_cases c27 : (t336 == t338) = true
          ·rw [if_pos c27] at H
           have c27b0 : (t336 == t338) = true := c27
           (try (have c27b1 : decide (t336 = t338) = true := by simpa using c27))
           (try (have c27b2 : (t336 == t338) = true := by simpa using c27))
           clear c27
           replace H := Option.bind_eq_some_iff.mp H
           obtain ⟨t341, A280, H⟩ := H
           replace H : (some t341) = some r := H
           have A28 := Aside0.mk A280
           clear A280
           obtain rfl := Option.some.inj H
           obtain ⟨Ao29, co29, eo29⟩ := Kd.R_slice HO_3.out
           subst eo29
           go_wp2_with (first | ((with_reducible refine gate_callee (f := 22) rfl ?_); refine goesL_ (some 40) rfl rfl Try.func22 (by kernel_rfl) rfl #[.slice Ao29 t322.length co29] rfl (by (try simp only [List.map_toArray, List.map_cons, List.map_nil]); first | done | rfl | (simp only [List.length_drop, List.length_take]; rfl)) ?_; (with_reducible refine (whistle_Back.calls kj7 _ _ t322 t332 t333 _ ?side1 ?side2 A19.out).mono ?_); (case side1 => repeat (first | exact (Kd.R_reads' HO_3.out).2.2 | (with_reducible refine Kd.C_alloc ?_ _) | (with_reducible refine Kd.C_drewN ?_ _) | (with_reducible refine Kd.C_drew ?_))); (case side2 => exact (Kd.R_reads' HO_3.out).2.1); rintro e w30 ⟨v334, rfl, ho0, hb⟩; refine ⟨_, rfl, ?_⟩; have n0_ := Aside0.mk (Kd.R_elder' (by (with_reducible repeat (first | apply Kd.R_alloc | apply Kd.R_drewN | apply Kd.R_drew)); exact HO_3.out) (Kd.R_base ho0) hb); have n1_ := Aside0.mk (Kd.R_lower (Kd.R_new' ho0 (Kd.R_lt (by (with_reducible repeat (first | apply Kd.R_alloc | apply Kd.R_drewN | apply Kd.R_drew)); exact HO_3.out))) (below_size (by repeat (first | (with_reducible first | exact HB.out | apply below_alloc | apply pw_below_drewN | apply below_drew1) | exact HB.out)))); have n2_ := Aside0.mk (below_step (by repeat (first | (with_reducible first | exact HB.out | apply below_alloc | apply pw_below_drewN | apply below_drew1) | exact HB.out)) hb); clear HO_3; clear HB; have HO_3 := n0_; have HO335 := n1_; have HB := n2_; clear n0_ n1_ n2_; (try clear hb); (try clear hb2); (try clear hk); (try clear hi); (try clear ho0)) | ((with_reducible refine gate_callee (f := 21) rfl ?_); refine goesL_ (some 45) rfl rfl Try.func21 (by kernel_rfl) rfl #[.slice A0 l0.length c0] rfl (by (try simp only [List.map_toArray, List.map_cons, List.map_nil]); first | done | rfl | (simp only [List.length_drop, List.length_take]; rfl)) ?_; (with_reducible refine (whistle_IsSafe.calls kj7 _ _ l0 t336 t337 _ ?side1 ?side2 A20.out).mono ?_); (case side1 => repeat (first | exact (Kd.C_below HR0.out HB.out) | (with_reducible refine Kd.C_alloc ?_ _) | (with_reducible refine Kd.C_drewN ?_ _) | (with_reducible refine Kd.C_drew ?_))); (case side2 => exact HC0.out); rintro e w31 ⟨rfl, hb⟩; refine ⟨_, rfl, ?_⟩; have n0_ := Aside0.mk (Kd.R_below (by (with_reducible repeat (first | apply Kd.R_alloc | apply Kd.R_drewN | apply Kd.R_drew)); exact HO_3.out) hb); have n1_ := Aside0.mk (Kd.R_below (by (with_reducible repeat (first | apply Kd.R_alloc | apply Kd.R_drewN | apply Kd.R_drew)); exact HO335.out) hb); have n2_ := Aside0.mk (below_step (by repeat (first | (with_reducible first | exact HB.out | apply below_alloc | apply pw_below_drewN | apply below_drew1) | exact HB.out)) hb); clear HO_3; clear HO335; clear HB; have HO_3 := n0_; have HO335 := n1_; have HB := n2_; clear n0_ n1_ n2_; (try clear hb); (try clear hb2); (try clear hk); (try clear hi)) | ((with_reducible refine gate_callee (f := 21) rfl ?_); refine goesL_ (some 50) rfl rfl Try.func21 (by kernel_rfl) rfl #[.slice Ao29 t322.length co29] rfl (by (try simp only [List.map_toArray, List.map_cons, List.map_nil]); first | done | rfl | (simp only [List.length_drop, List.length_take]; rfl)) ?_; (with_reducible refine (whistle_IsSafe.calls kj7 _ _ t322 t338 t339 _ ?side1 ?side2 A21.out).mono ?_); (case side1 => repeat (first | exact (Kd.R_reads' HO_3.out).2.2 | (with_reducible refine Kd.C_alloc ?_ _) | (with_reducible refine Kd.C_drewN ?_ _) | (with_reducible refine Kd.C_drew ?_))); (case side2 => exact (Kd.R_reads' HO_3.out).2.1); rintro e w32 ⟨rfl, hb⟩; refine ⟨_, rfl, ?_⟩; have n0_ := Aside0.mk (Kd.R_below (by (with_reducible repeat (first | apply Kd.R_alloc | apply Kd.R_drewN | apply Kd.R_drew)); exact HO_3.out) hb); have n1_ := Aside0.mk (Kd.R_below (by (with_reducible repeat (first | apply Kd.R_alloc | apply Kd.R_drewN | apply Kd.R_drew)); exact HO335.out) hb); have n2_ := Aside0.mk (below_step (by repeat (first | (with_reducible first | exact HB.out | apply below_alloc | apply pw_below_drewN | apply below_drew1) | exact HB.out)) hb); clear HO_3; clear HO335; clear HB; have HO_3 := n0_; have HO335 := n1_; have HB := n2_; clear n0_ n1_ n2_; (try clear hb); (try clear hb2); (try clear hk); (try clear hi); obtain ⟨Ao33, co33, eo33⟩ := Kd.R_slice HO335.out; subst eo33) | (go_at_call 20; (with_reducible refine (wigeonref05_SameTexts.calls kj7 _ _ t332 _ _ l0 true _ ?side1 ?side2 ?side3 ?side4 A23.out).mono ?_); (case side1 => repeat (first | exact (Kd.R_reads' HO335.out).2.2 | (with_reducible refine Kd.C_alloc ?_ _) | (with_reducible refine Kd.C_drewN ?_ _) | (with_reducible refine Kd.C_drew ?_))); (case side2 => exact (Kd.R_reads' HO335.out).2.1); (case side3 => repeat (first | exact (Kd.C_below HR0.out HB.out) | (with_reducible refine Kd.C_alloc ?_ _) | (with_reducible refine Kd.C_drewN ?_ _) | (with_reducible refine Kd.C_drew ?_))); (case side4 => exact HC0.out); rintro e w' ⟨rfl, ⟨nd, rfl⟩⟩) | (go_at_call 17; (with_reducible refine (wigeonlaw05_known.calls kj7  t341 _ A28.out).mono ?_); rintro e w34 ⟨rfl, hb⟩; have n0_ := Aside0.mk (Kd.R_below (by (with_reducible repeat (first | apply Kd.R_alloc | apply Kd.R_drewN | apply Kd.R_drew)); exact HO_3.out) hb); have n1_ := Aside0.mk (Kd.R_below (by (with_reducible repeat (first | apply Kd.R_alloc | apply Kd.R_drewN | apply Kd.R_drew)); exact HO335.out) hb); have n2_ := Aside0.mk (below_step (by repeat (first | (with_reducible first | exact HB.out | apply below_alloc | apply pw_below_drewN | apply below_drew1) | exact HB.out)) hb); clear HO_3; clear HO335; clear HB; have HO_3 := n0_; have HO335 := n1_; have HB := n2_; clear n0_ n1_ n2_; (try clear hb); (try clear hb2); (try clear hk); (try clear hi)))
           go_ret
           exact ⟨by first | rfl | (simp [errW_none, errW_some] <;> rfl) | (simp [*, errW_none, errW_some] <;> rfl), by repeat (first | (with_reducible first | exact HB.out | apply below_alloc | apply pw_below_drewN | apply below_drew1) | exact HB.out)⟩
          ·rw [if_neg c27] at H
           exact absurd H (by simp)
         ·rw [if_neg c26] at H
          exact absurd H (by simp)
        ·rw [if_neg c25] at H
         exact absurd H (by simp)
       ·replace c24 := Bool.eq_false_iff.mpr c24
        subst c24
        have H1 : (none) = some r := by rw [if_neg (show ¬ (false = true) by decide)] at H; exact H
        exact absurd H1 (by simp)
      ·rw [if_neg c22] at H
       exact absurd H (by simp)
     ·rw [if_neg c18] at H
      have c18b0 : (t323 == 0) = false := beq_eq_false_iff_ne.mpr c18
      have c18b1 : (t323 != 0) = true := bne_iff_ne.mpr c18
      replace H := Option.bind_eq_some_iff.mp H
      obtain ⟨t331, A590, H⟩ := H
      replace H : (some t331) = some r := H
      have A59 := Aside0.mk A590
      clear A590
      obtain rfl := Option.some.inj H
      go_wp2_with (first | ((with_reducible refine gate_callee (f := 17) rfl ?_); refine goesL_ (some 37) rfl rfl Try.func17 (by kernel_rfl) rfl #[] rfl (by (try simp only [List.map_toArray, List.map_cons, List.map_nil]); first | done | rfl | (simp only [List.length_drop, List.length_take]; rfl)) ?_; (with_reducible refine (wigeonlaw05_known.calls kj7  t331 _ A59.out).mono ?_); rintro e w60 ⟨rfl, hb⟩; refine ⟨_, rfl, ?_⟩; have n0_ := Aside0.mk (Kd.R_below (by (with_reducible repeat (first | apply Kd.R_alloc | apply Kd.R_drewN | apply Kd.R_drew)); exact HO_3.out) hb); have n1_ := Aside0.mk (below_step (by repeat (first | (with_reducible first | exact HB.out | apply below_alloc | apply pw_below_drewN | apply below_drew1) | exact HB.out)) hb); clear HO_3; clear HB; have HO_3 := n0_; have HB := n1_; clear n0_ n1_; (try clear hb); (try clear hb2); (try clear hk); (try clear hi)))
      go_ret
      exact ⟨by first | rfl | (simp [errW_none, errW_some] <;> rfl) | (simp [*, errW_none, errW_some] <;> rfl), by repeat (first | (with_reducible first | exact HB.out | apply below_alloc | apply pw_below_drewN | apply below_drew1) | exact HB.out)⟩

end Go.Proofs.Ytpkafcoflgbnaaa.Q
