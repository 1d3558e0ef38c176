-- Written by a program of this session (wip/tools/gprint.py, over the kit's print); Lean checks it.
import Derived.Test.YtlbhighbhchdmaaQx0
import Derived.Test.YtlbhighbhchdmaaQx1
import Derived.Test.YtlbhighbhchdmaaQx8
import Derived.Test.YtlbhighbhchdmaaQx20
import Derived.Test.YtlbhighbhchdmaaQx21
import Derived.Test.YtlbhighbhchdmaaQx22
namespace Go.Proofs.Ytlbhighbhchdmaa.Q
open Go.RowKit Go.Proofs.YtlbhighbhchdmaaW.PrintWords Go.Proofs.YtlbhighbhchdmaaW.PrintLast Go.Proofs.YtlbhighbhchdmaaW.PrintMore
attribute [local go_sem] max2_int min2_int max_two min_two max_three min_three max_four min_four   -- for this text's walks alone
set_option linter.unusedVariables false
set_option linter.unusedSimpArgs false

/-! ### wigeonlaw01_RingCounts: function 12 -/
def wigeonlaw01_RingCounts.j0 : Nat → ByteArray → Int → Int → ByteArray → Bool → Bool → Option (Bool)
  | 0, _, _, _, _, _, _ => none
  | k + 1, x0, x3, x4, x7, x8, x62 => if x62 = true then (some false) else (if x8 = true then ((ring_Fits.f k x0 x7).bind fun bt418 => (if x3 > 0 then (if bt418.2 = 0 then (if bt418.1 = true then ((wigeonlaw01_known.f k).bind fun t420 => (some t420)) else (some false)) else (some false)) else (some false))) else (if x4 = 0 then (if x3 = 0 then ((wigeonlaw01_known.f k).bind fun t421 => (some t421)) else (some false)) else ((wigeonlaw01_known.f k).bind fun t422 => (some t422))))
def wigeonlaw01_RingCounts.f (k : Nat) (a0 : ByteArray) : Option (Bool) := (wigeonlaw01_long.f a0).bind fun t406 => (if t406 = true then ((wigeonlaw01_known.f k).bind fun t407 => (some t407)) else ((ring_Count.f a0).bind fun bt408 => ((wigeonref01_Count.f k a0).bind fun bt410 => ((ring_First.f a0).bind fun bt412 => ((wigeonref01_First.f k a0).bind fun bt415 => (if bt408.1 = bt410.1 then (if bt408.2 = bt410.2 then (if bt412.1.toList = bt415.1.toList then (if (bt412.2.1 != bt415.2.1) = true then (wigeonlaw01_RingCounts.j0 k a0 bt408.1 bt408.2 bt412.1 bt412.2.1 true) else (wigeonlaw01_RingCounts.j0 k a0 bt408.1 bt408.2 bt412.1 bt412.2.1 (bt412.2.2 != bt415.2.2))) else (wigeonlaw01_RingCounts.j0 k a0 bt408.1 bt408.2 bt412.1 bt412.2.1 true)) else (wigeonlaw01_RingCounts.j0 k a0 bt408.1 bt408.2 bt412.1 bt412.2.1 true)) else (wigeonlaw01_RingCounts.j0 k a0 bt408.1 bt408.2 bt412.1 bt412.2.1 true)))))))
theorem wigeonlaw01_RingCounts.mono_l : ∀ k, (∀ y0 y1 y2 y3 y4 y5, LeO (wigeonlaw01_RingCounts.j0 k y0 y1 y2 y3 y4 y5) (wigeonlaw01_RingCounts.j0 (k + 1) y0 y1 y2 y3 y4 y5))
  | 0 => fun _ _ _ _ _ _ r h => by simp [wigeonlaw01_RingCounts.j0] at h
  | k + 1 => by
    have ih0 := wigeonlaw01_RingCounts.mono_l k
    · intro y0 y1 y2 y3 y4 y5
      unfold wigeonlaw01_RingCounts.j0
      repeat' first
      | (with_reducible exact ih0 _ _ _ _ _ _)
      | (with_reducible exact ring_Fits.mono _ _ _)
      | (with_reducible exact wigeonlaw01_known.mono _)
      | (with_reducible exact wigeonref01_Count.mono _ _)
      | (with_reducible exact wigeonref01_First.mono _ _)
      | (with_reducible exact LeO.refl _)
      | (with_reducible exact LeO.none _)
      | (with_reducible refine LeO.ite ?_ ?_)
      | (with_reducible refine LeO.bind ?_ (fun _ => ?_))
      | exact ih0 _ _ _ _ _ _
      | exact ring_Fits.mono _ _ _
      | exact wigeonlaw01_known.mono _
      | exact wigeonref01_Count.mono _ _
      | exact wigeonref01_First.mono _ _
      | exact LeO.none _
      | refine LeO.ite ?_ ?_
      | refine LeO.bind ?_ (fun _ => ?_)
theorem wigeonlaw01_RingCounts.mono : ∀ a0 k, LeO (wigeonlaw01_RingCounts.f k a0) (wigeonlaw01_RingCounts.f (k + 1) a0) := by
  intro a0 k
  have ih0 := wigeonlaw01_RingCounts.mono_l k
  unfold wigeonlaw01_RingCounts.f
  repeat' first
      | (with_reducible exact ih0 _ _ _ _ _ _)
      | (with_reducible exact ring_Fits.mono _ _ _)
      | (with_reducible exact wigeonlaw01_known.mono _)
      | (with_reducible exact wigeonref01_Count.mono _ _)
      | (with_reducible exact wigeonref01_First.mono _ _)
      | (with_reducible exact LeO.refl _)
      | (with_reducible exact LeO.none _)
      | (with_reducible refine LeO.ite ?_ ?_)
      | (with_reducible refine LeO.bind ?_ (fun _ => ?_))
      | exact ih0 _ _ _ _ _ _
      | exact ring_Fits.mono _ _ _
      | exact wigeonlaw01_known.mono _
      | exact wigeonref01_Count.mono _ _
      | exact wigeonref01_First.mono _ _
      | exact LeO.none _
      | refine LeO.ite ?_ ?_
      | refine LeO.bind ?_ (fun _ => ?_)
set_option maxHeartbeats 8000000 in
set_option maxRecDepth 100000 in
theorem wigeonlaw01_RingCounts.calls (k : Nat) (a0 : ByteArray) (r : Bool) (w : World) (h : wigeonlaw01_RingCounts.f k a0 = some r) :
    Calls Try.prog 12 #[.string a0] w fun e w' => e = .returned (.bool r) ∧ Below w.heap.size w w' := by
  have HB := Aside0.mk (Below.refl w.heap.size w)
  have H : ((wigeonlaw01_long.f a0).bind fun t406 => (if t406 = true then ((wigeonlaw01_known.f k).bind fun t407 => (some t407)) else ((ring_Count.f a0).bind fun bt408 => ((wigeonref01_Count.f k a0).bind fun bt410 => ((ring_First.f a0).bind fun bt412 => ((wigeonref01_First.f k a0).bind fun bt415 => (if bt408.1 = bt410.1 then (if bt408.2 = bt410.2 then (if bt412.1.toList = bt415.1.toList then (if (bt412.2.1 != bt415.2.1) = true then (wigeonlaw01_RingCounts.j0 k a0 bt408.1 bt408.2 bt412.1 bt412.2.1 true) else (wigeonlaw01_RingCounts.j0 k a0 bt408.1 bt408.2 bt412.1 bt412.2.1 (bt412.2.2 != bt415.2.2))) else (wigeonlaw01_RingCounts.j0 k a0 bt408.1 bt408.2 bt412.1 bt412.2.1 true)) else (wigeonlaw01_RingCounts.j0 k a0 bt408.1 bt408.2 bt412.1 bt412.2.1 true)) else (wigeonlaw01_RingCounts.j0 k a0 bt408.1 bt408.2 bt412.1 bt412.2.1 true)))))))) = some r := h
  clear h
  replace H := Option.bind_eq_some_iff.mp H
  obtain ⟨t406, A20, H⟩ := H
  replace H : (if t406 = true then ((wigeonlaw01_known.f k).bind fun t407 => (some t407)) else ((ring_Count.f a0).bind fun bt408 => ((wigeonref01_Count.f k a0).bind fun bt410 => ((ring_First.f a0).bind fun bt412 => ((wigeonref01_First.f k a0).bind fun bt415 => (if bt408.1 = bt410.1 then (if bt408.2 = bt410.2 then (if bt412.1.toList = bt415.1.toList then (if (bt412.2.1 != bt415.2.1) = true then (wigeonlaw01_RingCounts.j0 k a0 bt408.1 bt408.2 bt412.1 bt412.2.1 true) else (wigeonlaw01_RingCounts.j0 k a0 bt408.1 bt408.2 bt412.1 bt412.2.1 (bt412.2.2 != bt415.2.2))) else (wigeonlaw01_RingCounts.j0 k a0 bt408.1 bt408.2 bt412.1 bt412.2.1 true)) else (wigeonlaw01_RingCounts.j0 k a0 bt408.1 bt408.2 bt412.1 bt412.2.1 true)) else (wigeonlaw01_RingCounts.j0 k a0 bt408.1 bt408.2 bt412.1 bt412.2.1 true))))))) = some r := H
  have A2 := Aside0.mk A20
  clear A20
  by_cases c3 : t406 = true
  · subst c3
    have H1 : ((wigeonlaw01_known.f k).bind fun t407 => (some t407)) = some r := by rw [if_pos rfl] at H; exact H
    clear H
    have H := H1
    clear H1
    replace H := Option.bind_eq_some_iff.mp H
    obtain ⟨t407, A40, H⟩ := H
    replace H : (some t407) = some r := H
    have A4 := Aside0.mk A40
    clear A40
    obtain rfl := Option.some.inj H
    go_enter Try.func12, Try.ntmps12
    go_wp2_with (first | ((with_reducible refine gate_callee (f := 27) rfl ?_); refine goesL_ (some 16) rfl rfl Try.func27 (by kernel_rfl) rfl #[.string a0] rfl (by (try simp only [List.map_toArray, List.map_cons, List.map_nil]); first | done | rfl | (simp only [List.length_drop, List.length_take]; rfl)) ?_; (with_reducible refine (wigeonlaw01_long.calls a0 true _ A2.out).mono ?_); rintro e w' ⟨rfl, ⟨nd, rfl⟩⟩; refine ⟨_, rfl, ?_⟩) | ((with_reducible refine gate_callee (f := 17) rfl ?_); refine goesL_ (some 17) rfl rfl Try.func17 (by kernel_rfl) rfl #[] rfl (by (try simp only [List.map_toArray, List.map_cons, List.map_nil]); first | done | rfl | (simp only [List.length_drop, List.length_take]; rfl)) ?_; (with_reducible refine (wigeonlaw01_known.calls k  t407 _ A4.out).mono ?_); rintro e w5 ⟨rfl, hb⟩; refine ⟨_, rfl, ?_⟩; have n0_ := Aside0.mk (below_step (by repeat (first | (with_reducible first | exact HB.out | apply below_alloc | apply pw_below_drewN | apply below_drew1) | exact HB.out)) hb); clear HB; have HB := n0_; clear n0_; (try clear hb); (try clear hb2); (try clear hk); (try clear hi)))
    go_ret
    exact ⟨by first | rfl | (simp [errW_none, errW_some] <;> rfl) | (simp [*, errW_none, errW_some] <;> rfl), by repeat (first | (with_reducible first | exact HB.out | apply below_alloc | apply pw_below_drewN | apply below_drew1) | exact HB.out)⟩
  · replace c3 := Bool.eq_false_iff.mpr c3
    subst c3
    have H1 : ((ring_Count.f a0).bind fun bt408 => ((wigeonref01_Count.f k a0).bind fun bt410 => ((ring_First.f a0).bind fun bt412 => ((wigeonref01_First.f k a0).bind fun bt415 => (if bt408.1 = bt410.1 then (if bt408.2 = bt410.2 then (if bt412.1.toList = bt415.1.toList then (if (bt412.2.1 != bt415.2.1) = true then (wigeonlaw01_RingCounts.j0 k a0 bt408.1 bt408.2 bt412.1 bt412.2.1 true) else (wigeonlaw01_RingCounts.j0 k a0 bt408.1 bt408.2 bt412.1 bt412.2.1 (bt412.2.2 != bt415.2.2))) else (wigeonlaw01_RingCounts.j0 k a0 bt408.1 bt408.2 bt412.1 bt412.2.1 true)) else (wigeonlaw01_RingCounts.j0 k a0 bt408.1 bt408.2 bt412.1 bt412.2.1 true)) else (wigeonlaw01_RingCounts.j0 k a0 bt408.1 bt408.2 bt412.1 bt412.2.1 true)))))) = some r := by rw [if_neg (show ¬ (false = true) by decide)] at H; exact H
    clear H
    have H := H1
    clear H1
    replace H := Option.bind_eq_some_iff.mp H
    obtain ⟨⟨t408, t409⟩, A60, H⟩ := H
    replace H : ((wigeonref01_Count.f k a0).bind fun bt410 => ((ring_First.f a0).bind fun bt412 => ((wigeonref01_First.f k a0).bind fun bt415 => (if t408 = bt410.1 then (if t409 = bt410.2 then (if bt412.1.toList = bt415.1.toList then (if (bt412.2.1 != bt415.2.1) = true then (wigeonlaw01_RingCounts.j0 k a0 t408 t409 bt412.1 bt412.2.1 true) else (wigeonlaw01_RingCounts.j0 k a0 t408 t409 bt412.1 bt412.2.1 (bt412.2.2 != bt415.2.2))) else (wigeonlaw01_RingCounts.j0 k a0 t408 t409 bt412.1 bt412.2.1 true)) else (wigeonlaw01_RingCounts.j0 k a0 t408 t409 bt412.1 bt412.2.1 true)) else (wigeonlaw01_RingCounts.j0 k a0 t408 t409 bt412.1 bt412.2.1 true))))) = some r := H
    have A6 := Aside0.mk A60
    clear A60
    replace H := Option.bind_eq_some_iff.mp H
    obtain ⟨⟨t410, t411⟩, A70, H⟩ := H
    replace H : ((ring_First.f a0).bind fun bt412 => ((wigeonref01_First.f k a0).bind fun bt415 => (if t408 = t410 then (if t409 = t411 then (if bt412.1.toList = bt415.1.toList then (if (bt412.2.1 != bt415.2.1) = true then (wigeonlaw01_RingCounts.j0 k a0 t408 t409 bt412.1 bt412.2.1 true) else (wigeonlaw01_RingCounts.j0 k a0 t408 t409 bt412.1 bt412.2.1 (bt412.2.2 != bt415.2.2))) else (wigeonlaw01_RingCounts.j0 k a0 t408 t409 bt412.1 bt412.2.1 true)) else (wigeonlaw01_RingCounts.j0 k a0 t408 t409 bt412.1 bt412.2.1 true)) else (wigeonlaw01_RingCounts.j0 k a0 t408 t409 bt412.1 bt412.2.1 true)))) = some r := H
    have A7 := Aside0.mk A70
    clear A70
    replace H := Option.bind_eq_some_iff.mp H
    obtain ⟨⟨t412, t413, t414⟩, A80, H⟩ := H
    replace H : ((wigeonref01_First.f k a0).bind fun bt415 => (if t408 = t410 then (if t409 = t411 then (if t412.toList = bt415.1.toList then (if (t413 != bt415.2.1) = true then (wigeonlaw01_RingCounts.j0 k a0 t408 t409 t412 t413 true) else (wigeonlaw01_RingCounts.j0 k a0 t408 t409 t412 t413 (t414 != bt415.2.2))) else (wigeonlaw01_RingCounts.j0 k a0 t408 t409 t412 t413 true)) else (wigeonlaw01_RingCounts.j0 k a0 t408 t409 t412 t413 true)) else (wigeonlaw01_RingCounts.j0 k a0 t408 t409 t412 t413 true))) = some r := H
    have A8 := Aside0.mk A80
    clear A80
    replace H := Option.bind_eq_some_iff.mp H
    obtain ⟨⟨t415, t416, t417⟩, A90, H⟩ := H
    replace H : (if t408 = t410 then (if t409 = t411 then (if t412.toList = t415.toList then (if (t413 != t416) = true then (wigeonlaw01_RingCounts.j0 k a0 t408 t409 t412 t413 true) else (wigeonlaw01_RingCounts.j0 k a0 t408 t409 t412 t413 (t414 != t417))) else (wigeonlaw01_RingCounts.j0 k a0 t408 t409 t412 t413 true)) else (wigeonlaw01_RingCounts.j0 k a0 t408 t409 t412 t413 true)) else (wigeonlaw01_RingCounts.j0 k a0 t408 t409 t412 t413 true)) = some r := H
    have A9 := Aside0.mk A90
    clear A90
    have HC10 := Aside0.mk H
    clear H
    go_enter Try.func12, Try.ntmps12
    go_upto_region 7 with (first | ((with_reducible refine gate_callee (f := 27) rfl ?_); refine goesL_ (some 16) rfl rfl Try.func27 (by kernel_rfl) rfl #[.string a0] rfl (by (try simp only [List.map_toArray, List.map_cons, List.map_nil]); first | done | rfl | (simp only [List.length_drop, List.length_take]; rfl)) ?_; (with_reducible refine (wigeonlaw01_long.calls a0 false _ A2.out).mono ?_); rintro e w' ⟨rfl, ⟨nd, rfl⟩⟩; refine ⟨_, rfl, ?_⟩) | ((with_reducible refine gate_callee (f := 40) rfl ?_); refine goesL_ (some 20) rfl rfl Try.func40 (by kernel_rfl) rfl #[.string a0] rfl (by (try simp only [List.map_toArray, List.map_cons, List.map_nil]); first | done | rfl | (simp only [List.length_drop, List.length_take]; rfl)) ?_; (with_reducible refine (ring_Count.calls a0 t408 t409 _ A6.out).mono ?_); rintro e w11 ⟨rfl, hb⟩; refine ⟨_, rfl, ?_⟩; have n0_ := Aside0.mk (below_step (by repeat (first | (with_reducible first | exact HB.out | apply below_alloc | apply pw_below_drewN | apply below_drew1) | exact HB.out)) hb); clear HB; have HB := n0_; clear n0_; (try clear hb); (try clear hb2); (try clear hk); (try clear hi)) | ((with_reducible refine gate_callee (f := 48) rfl ?_); refine goesL_ (some 25) rfl rfl Try.func48 (by kernel_rfl) rfl #[.string a0] rfl (by (try simp only [List.map_toArray, List.map_cons, List.map_nil]); first | done | rfl | (simp only [List.length_drop, List.length_take]; rfl)) ?_; (with_reducible refine (wigeonref01_Count.calls k a0 t410 t411 _ A7.out).mono ?_); rintro e w12 ⟨rfl, hb⟩; refine ⟨_, rfl, ?_⟩; have n0_ := Aside0.mk (below_step (by repeat (first | (with_reducible first | exact HB.out | apply below_alloc | apply pw_below_drewN | apply below_drew1) | exact HB.out)) hb); clear HB; have HB := n0_; clear n0_; (try clear hb); (try clear hb2); (try clear hk); (try clear hi)) | ((with_reducible refine gate_callee (f := 41) rfl ?_); refine goesL_ (some 30) rfl rfl Try.func41 (by kernel_rfl) rfl #[.string a0] rfl (by (try simp only [List.map_toArray, List.map_cons, List.map_nil]); first | done | rfl | (simp only [List.length_drop, List.length_take]; rfl)) ?_; (with_reducible refine (ring_First.calls a0 t412 t413 t414 _ A8.out).mono ?_); rintro e w13 ⟨rfl, hb⟩; refine ⟨_, rfl, ?_⟩; have n0_ := Aside0.mk (below_step (by repeat (first | (with_reducible first | exact HB.out | apply below_alloc | apply pw_below_drewN | apply below_drew1) | exact HB.out)) hb); clear HB; have HB := n0_; clear n0_; (try clear hb); (try clear hb2); (try clear hk); (try clear hi)) | ((with_reducible refine gate_callee (f := 49) rfl ?_); refine goesL_ (some 36) rfl rfl Try.func49 (by kernel_rfl) rfl #[.string a0] rfl (by (try simp only [List.map_toArray, List.map_cons, List.map_nil]); first | done | rfl | (simp only [List.length_drop, List.length_take]; rfl)) ?_; (with_reducible refine (wigeonref01_First.calls k a0 t415 t416 t417 _ A9.out).mono ?_); rintro e w14 ⟨rfl, hb⟩; refine ⟨_, rfl, ?_⟩; have n0_ := Aside0.mk (below_step (by repeat (first | (with_reducible first | exact HB.out | apply below_alloc | apply pw_below_drewN | apply below_drew1) | exact HB.out)) hb); clear HB; have HB := n0_; clear n0_; (try clear hb); (try clear hb2); (try clear hk); (try clear hi)))
    (try simp only [Act.put, List.setIfInBounds_toArray, List.set_cons_zero, List.set_cons_succ])
    go_cut [62] (fun v62 wc => ∃ (kq : Nat) (x62_9 : Bool), v62 = .bool x62_9 ∧ Aside0 (wigeonlaw01_RingCounts.j0 kq a0 t408 t409 t412 t413 x62_9 = some r) ∧ Aside0 (kq ≤ k) ∧ Aside0 (Below w.heap.size w wc))
    case first =>
      have H := HC10.out
      clear HC10
      by_cases c15 : t408 = t410
      · rw [if_pos c15] at H
        have c15b0 : (t408 == t410) = true := beq_iff_eq.mpr c15
        have c15b1 : (t408 != t410) = false := bne_eq_false_iff_eq.mpr c15
        clear c15
        (first | rw [c15b0] | (simp only [i64_w, i32_w]; rw [c15b0]) | skip)
        by_cases c16 : t409 = t411
        · rw [if_pos c16] at H
          have c16b0 : (t409 == t411) = true := beq_iff_eq.mpr c16
          have c16b1 : (t409 != t411) = false := bne_eq_false_iff_eq.mpr c16
          clear c16
          by_cases c17 : t412.toList = t415.toList
          · rw [if_pos c17] at H
            have c17b0 : (t412.toList == t415.toList) = true := beq_iff_eq.mpr c17
            have c17b1 : (t412.toList != t415.toList) = false := bne_eq_false_iff_eq.mpr c17
            clear c17
            by_cases c18 : (t413 != t416) = true
            · rw [if_pos c18] at H
              have c18b0 : (t413 != t416) = true := c18
              (try (have c18b1 : decide (t413 = t416) = false := by simpa using c18))
              (try (have c18b2 : (t413 == t416) = false := by simpa using c18))
              (try (have c18b3 : ¬ (t413 = t416) := by simpa using c18))
              clear c18
              have H' := Aside0.mk H
              clear H
              go_wp2
              go_meet
              case rel => exact ⟨_, (true), (by first | rfl | (simp; done) | (simp [*]; done)), H', ⟨by first | omega | exact Nat.le_refl _⟩, ⟨by repeat (first | (with_reducible first | exact HB.out | apply below_alloc | apply pw_below_drewN | apply below_drew1) | exact HB.out)⟩⟩
            · rw [if_neg c18] at H
              have c18b0 : (t413 != t416) = false := by simpa using c18
              (try (have c18b1 : decide (t413 = t416) = true := by simpa using c18))
              (try (have c18b2 : (t413 == t416) = true := by simpa using c18))
              clear c18
              have H' := Aside0.mk H
              clear H
              go_wp2
              go_meet
              case rel => exact ⟨_, ((t414 != t417)), (by first | rfl | (simp; done) | (simp [*]; done)), H', ⟨by first | omega | exact Nat.le_refl _⟩, ⟨by repeat (first | (with_reducible first | exact HB.out | apply below_alloc | apply pw_below_drewN | apply below_drew1) | exact HB.out)⟩⟩
          · rw [if_neg c17] at H
            have c17b0 : (t412.toList == t415.toList) = false := beq_eq_false_iff_ne.mpr c17
            have c17b1 : (t412.toList != t415.toList) = true := bne_iff_ne.mpr c17
            have H' := Aside0.mk H
            clear H
            go_wp2
            go_meet
            case rel => exact ⟨_, (true), (by first | rfl | (simp; done) | (simp [*]; done)), H', ⟨by first | omega | exact Nat.le_refl _⟩, ⟨by repeat (first | (with_reducible first | exact HB.out | apply below_alloc | apply pw_below_drewN | apply below_drew1) | exact HB.out)⟩⟩
        · rw [if_neg c16] at H
          have c16b0 : (t409 == t411) = false := beq_eq_false_iff_ne.mpr c16
          have c16b1 : (t409 != t411) = true := bne_iff_ne.mpr c16
          have H' := Aside0.mk H
          clear H
          go_wp2
          go_meet
          case rel => exact ⟨_, (true), (by first | rfl | (simp; done) | (simp [*]; done)), H', ⟨by first | omega | exact Nat.le_refl _⟩, ⟨by repeat (first | (with_reducible first | exact HB.out | apply below_alloc | apply pw_below_drewN | apply below_drew1) | exact HB.out)⟩⟩
      · rw [if_neg c15] at H
        have c15b0 : (t408 == t410) = false := beq_eq_false_iff_ne.mpr c15
        have c15b1 : (t408 != t410) = true := bne_iff_ne.mpr c15
        (first | rw [c15b0] | (simp only [i64_w, i32_w]; rw [c15b0]) | skip)
        have H' := Aside0.mk H
        clear H
        go_wp2
        go_meet
        case rel => exact ⟨_, (true), (by first | rfl | (simp; done) | (simp [*]; done)), H', ⟨by first | omega | exact Nat.le_refl _⟩, ⟨by repeat (first | (with_reducible first | exact HB.out | apply below_alloc | apply pw_below_drewN | apply below_drew1) | exact HB.out)⟩⟩
    case rest =>
      clear HC10
      try clear c1
      try clear c2
      try clear p2
      try clear c3
      try clear c4
      try clear c12
      try clear c15
      try clear c15b0
      try clear c15b1
      try clear c16
      try clear c16b0
      try clear c16b1
      try clear c17
      try clear c17b0
      try clear c17b1
      try clear c18
      try clear c18b0
      try clear c18b1
      try clear c18b2
      obtain ⟨kq, x62_9, rfl, HA, HJ9, HB⟩ := hcut
      cases kq with
      | zero => exact absurd HA.out (by simp [wigeonlaw01_RingCounts.j0])
      | succ kj9 =>
        have H := HA.out
        clear HA
        simp only [wigeonlaw01_RingCounts.j0] at H
        by_cases c19 : x62_9 = true
        · subst c19
          have H1 : (some false) = some r := by rw [if_pos rfl] at H; exact H
          clear H
          have H := H1
          clear H1
          obtain rfl := Option.some.inj H
          go_wp2
          go_ret
          exact ⟨by first | rfl | (simp [errW_none, errW_some] <;> rfl) | (simp [*, errW_none, errW_some] <;> rfl), by repeat (first | (with_reducible first | exact HB.out | apply below_alloc | apply pw_below_drewN | apply below_drew1) | exact HB.out)⟩
        · replace c19 := Bool.eq_false_iff.mpr c19
          subst c19
          have H1 : (if t413 = true then ((ring_Fits.f kj9 a0 t412).bind fun bt418 => (if t408 > 0 then (if bt418.2 = 0 then (if bt418.1 = true then ((wigeonlaw01_known.f kj9).bind fun t420 => (some t420)) else (some false)) else (some false)) else (some false))) else (if t409 = 0 then (if t408 = 0 then ((wigeonlaw01_known.f kj9).bind fun t421 => (some t421)) else (some false)) else ((wigeonlaw01_known.f kj9).bind fun t422 => (some t422)))) = some r := by rw [if_neg (show ¬ (false = true) by decide)] at H; exact H
          clear H
          have H := H1
          clear H1
          by_cases c20 : t413 = true
          · subst c20
            have H1 : ((ring_Fits.f kj9 a0 t412).bind fun bt418 => (if t408 > 0 then (if bt418.2 = 0 then (if bt418.1 = true then ((wigeonlaw01_known.f kj9).bind fun t420 => (some t420)) else (some false)) else (some false)) else (some false))) = some r := by rw [if_pos rfl] at H; exact H
            clear H
            have H := H1
            clear H1
            replace H := Option.bind_eq_some_iff.mp H
            obtain ⟨⟨t418, t419⟩, A210, H⟩ := H
            replace H : (if t408 > 0 then (if t419 = 0 then (if t418 = true then ((wigeonlaw01_known.f kj9).bind fun t420 => (some t420)) else (some false)) else (some false)) else (some false)) = some r := H
            have A21 := Aside0.mk A210
            clear A210
            by_cases c22 : t408 > 0
            · rw [if_pos c22] at H
              have c22b0 : decide (0 < t408) = true := decide_eq_true c22
              clear c22
              by_cases c23 : t419 = 0
              · rw [if_pos c23] at H
                have c23b0 : (t419 == 0) = true := beq_iff_eq.mpr c23
                have c23b1 : (t419 != 0) = false := bne_eq_false_iff_eq.mpr c23
                clear c23
                by_cases c24 : t418 = true
                · subst c24
                  have H1 : ((wigeonlaw01_known.f kj9).bind fun t420 => (some t420)) = some r := by rw [if_pos rfl] at H; exact H
                  clear H
                  have H := H1
                  clear H1
                  replace H := Option.bind_eq_some_iff.mp H
                  obtain ⟨t420, A250, H⟩ := H
                  replace H : (some t420) = some r := H
                  have A25 := Aside0.mk A250
                  clear A250
                  obtain rfl := Option.some.inj H
                  go_wp2_with (first | ((with_reducible refine gate_callee (f := 28) rfl ?_); refine goesL_ (some 77) rfl rfl Try.func28 (by kernel_rfl) rfl #[.string a0, .string t412] rfl (by (try simp only [List.map_toArray, List.map_cons, List.map_nil]); first | done | rfl | (simp only [List.length_drop, List.length_take]; rfl)) ?_; (with_reducible refine (ring_Fits.calls kj9 a0 t412 true t419 _ A21.out).mono ?_); rintro e w26 ⟨rfl, hb⟩; refine ⟨_, rfl, ?_⟩; have n0_ := Aside0.mk (below_step (by repeat (first | (with_reducible first | exact HB.out | apply below_alloc | apply pw_below_drewN | apply below_drew1) | exact HB.out)) hb); clear HB; have HB := n0_; clear n0_; (try clear hb); (try clear hb2); (try clear hk); (try clear hi)) | (go_at_call 17; (with_reducible refine (wigeonlaw01_known.calls kj9  t420 _ A25.out).mono ?_); rintro e w27 ⟨rfl, hb⟩; have n0_ := Aside0.mk (below_step (by repeat (first | (with_reducible first | exact HB.out | apply below_alloc | apply pw_below_drewN | apply below_drew1) | exact HB.out)) hb); clear HB; have HB := n0_; clear n0_; (try clear hb); (try clear hb2); (try clear hk); (try clear hi)))
                  go_ret
                  exact ⟨by first | rfl | (simp [errW_none, errW_some] <;> rfl) | (simp [*, errW_none, errW_some] <;> rfl), by repeat (first | (with_reducible first | exact HB.out | apply below_alloc | apply pw_below_drewN | apply below_drew1) | exact HB.out)⟩
                · replace c24 := Bool.eq_false_iff.mpr c24
                  subst c24
                  have H1 : (some false) = some r := by rw [if_neg (show ¬ (false = true) by decide)] at H; exact H
                  clear H
                  have H := H1
                  clear H1
                  obtain rfl := Option.some.inj H
                  go_wp2_with (first | ((with_reducible refine gate_callee (f := 28) rfl ?_); refine goesL_ (some 77) rfl rfl Try.func28 (by kernel_rfl) rfl #[.string a0, .string t412] rfl (by (try simp only [List.map_toArray, List.map_cons, List.map_nil]); first | done | rfl | (simp only [List.length_drop, List.length_take]; rfl)) ?_; (with_reducible refine (ring_Fits.calls kj9 a0 t412 false t419 _ A21.out).mono ?_); rintro e w28 ⟨rfl, hb⟩; refine ⟨_, rfl, ?_⟩; have n0_ := Aside0.mk (below_step (by repeat (first | (with_reducible first | exact HB.out | apply below_alloc | apply pw_below_drewN | apply below_drew1) | exact HB.out)) hb); clear HB; have HB := n0_; clear n0_; (try clear hb); (try clear hb2); (try clear hk); (try clear hi)))
                  go_ret
                  exact ⟨by first | rfl | (simp [errW_none, errW_some] <;> rfl) | (simp [*, errW_none, errW_some] <;> rfl), by repeat (first | (with_reducible first | exact HB.out | apply below_alloc | apply pw_below_drewN | apply below_drew1) | exact HB.out)⟩
              · rw [if_neg c23] at H
                have c23b0 : (t419 == 0) = false := beq_eq_false_iff_ne.mpr c23
                have c23b1 : (t419 != 0) = true := bne_iff_ne.mpr c23
                obtain rfl := Option.some.inj H
                go_wp2_with (first | ((with_reducible refine gate_callee (f := 28) rfl ?_); refine goesL_ (some 77) rfl rfl Try.func28 (by kernel_rfl) rfl #[.string a0, .string t412] rfl (by (try simp only [List.map_toArray, List.map_cons, List.map_nil]); first | done | rfl | (simp only [List.length_drop, List.length_take]; rfl)) ?_; (with_reducible refine (ring_Fits.calls kj9 a0 t412 t418 t419 _ A21.out).mono ?_); rintro e w29 ⟨rfl, hb⟩; refine ⟨_, rfl, ?_⟩; have n0_ := Aside0.mk (below_step (by repeat (first | (with_reducible first | exact HB.out | apply below_alloc | apply pw_below_drewN | apply below_drew1) | exact HB.out)) hb); clear HB; have HB := n0_; clear n0_; (try clear hb); (try clear hb2); (try clear hk); (try clear hi)))
                go_ret
                exact ⟨by first | rfl | (simp [errW_none, errW_some] <;> rfl) | (simp [*, errW_none, errW_some] <;> rfl), by repeat (first | (with_reducible first | exact HB.out | apply below_alloc | apply pw_below_drewN | apply below_drew1) | exact HB.out)⟩
            · rw [if_neg c22] at H
              have c22b0 : decide (0 < t408) = false := decide_eq_false c22
              clear c22
              obtain rfl := Option.some.inj H
              go_wp2_with (first | ((with_reducible refine gate_callee (f := 28) rfl ?_); refine goesL_ (some 77) rfl rfl Try.func28 (by kernel_rfl) rfl #[.string a0, .string t412] rfl (by (try simp only [List.map_toArray, List.map_cons, List.map_nil]); first | done | rfl | (simp only [List.length_drop, List.length_take]; rfl)) ?_; (with_reducible refine (ring_Fits.calls kj9 a0 t412 t418 t419 _ A21.out).mono ?_); rintro e w30 ⟨rfl, hb⟩; refine ⟨_, rfl, ?_⟩; have n0_ := Aside0.mk (below_step (by repeat (first | (with_reducible first | exact HB.out | apply below_alloc | apply pw_below_drewN | apply below_drew1) | exact HB.out)) hb); clear HB; have HB := n0_; clear n0_; (try clear hb); (try clear hb2); (try clear hk); (try clear hi)))
              go_ret
              exact ⟨by first | rfl | (simp [errW_none, errW_some] <;> rfl) | (simp [*, errW_none, errW_some] <;> rfl), by repeat (first | (with_reducible first | exact HB.out | apply below_alloc | apply pw_below_drewN | apply below_drew1) | exact HB.out)⟩
          · replace c20 := Bool.eq_false_iff.mpr c20
            subst c20
            have H1 : (if t409 = 0 then (if t408 = 0 then ((wigeonlaw01_known.f kj9).bind fun t421 => (some t421)) else (some false)) else ((wigeonlaw01_known.f kj9).bind fun t422 => (some t422))) = some r := by rw [if_neg (show ¬ (false = true) by decide)] at H; exact H
            clear H
            have H := H1
            clear H1
            by_cases c31 : t409 = 0
            · rw [if_pos c31] at H
              have c31b0 : (t409 == 0) = true := beq_iff_eq.mpr c31
              have c31b1 : (t409 != 0) = false := bne_eq_false_iff_eq.mpr c31
              clear c31
              by_cases c32 : t408 = 0
              · rw [if_pos c32] at H
                have c32b0 : (t408 == 0) = true := beq_iff_eq.mpr c32
                have c32b1 : (t408 != 0) = false := bne_eq_false_iff_eq.mpr c32
                clear c32
                replace H := Option.bind_eq_some_iff.mp H
                obtain ⟨t421, A330, H⟩ := H
                replace H : (some t421) = some r := H
                have A33 := Aside0.mk A330
                clear A330
                obtain rfl := Option.some.inj H
                go_wp2_with (first | (go_at_call 17; (with_reducible refine (wigeonlaw01_known.calls kj9  t421 _ A33.out).mono ?_); rintro e w34 ⟨rfl, hb⟩; have n0_ := Aside0.mk (below_step (by repeat (first | (with_reducible first | exact HB.out | apply below_alloc | apply pw_below_drewN | apply below_drew1) | exact HB.out)) hb); clear HB; have HB := n0_; clear n0_; (try clear hb); (try clear hb2); (try clear hk); (try clear hi)))
                go_ret
                exact ⟨by first | rfl | (simp [errW_none, errW_some] <;> rfl) | (simp [*, errW_none, errW_some] <;> rfl), by repeat (first | (with_reducible first | exact HB.out | apply below_alloc | apply pw_below_drewN | apply below_drew1) | exact HB.out)⟩
              · rw [if_neg c32] at H
                have c32b0 : (t408 == 0) = false := beq_eq_false_iff_ne.mpr c32
                have c32b1 : (t408 != 0) = true := bne_iff_ne.mpr c32
                obtain rfl := Option.some.inj H
                go_wp2
                go_ret
                exact ⟨by first | rfl | (simp [errW_none, errW_some] <;> rfl) | (simp [*, errW_none, errW_some] <;> rfl), by repeat (first | (with_reducible first | exact HB.out | apply below_alloc | apply pw_below_drewN | apply below_drew1) | exact HB.out)⟩
            · rw [if_neg c31] at H
              have c31b0 : (t409 == 0) = false := beq_eq_false_iff_ne.mpr c31
              have c31b1 : (t409 != 0) = true := bne_iff_ne.mpr c31
              replace H := Option.bind_eq_some_iff.mp H
              obtain ⟨t422, A350, H⟩ := H
              replace H : (some t422) = some r := H
              have A35 := Aside0.mk A350
              clear A350
              obtain rfl := Option.some.inj H
              go_wp2_with (first | (go_at_call 17; (with_reducible refine (wigeonlaw01_known.calls kj9  t422 _ A35.out).mono ?_); rintro e w36 ⟨rfl, hb⟩; have n0_ := Aside0.mk (below_step (by repeat (first | (with_reducible first | exact HB.out | apply below_alloc | apply pw_below_drewN | apply below_drew1) | exact HB.out)) hb); clear HB; have HB := n0_; clear n0_; (try clear hb); (try clear hb2); (try clear hk); (try clear hi)))
              go_ret
              exact ⟨by first | rfl | (simp [errW_none, errW_some] <;> rfl) | (simp [*, errW_none, errW_some] <;> rfl), by repeat (first | (with_reducible first | exact HB.out | apply below_alloc | apply pw_below_drewN | apply below_drew1) | exact HB.out)⟩

/-- THE ONE PURE STATEMENT of wigeonlaw01_RingCounts: yours. -/
def wigeonlaw01_RingCounts.Pure : Prop := ∀ (a0 : ByteArray), a0.size ≤ 140737488351232 → ∃ k, wigeonlaw01_RingCounts.f k a0 = some true
theorem wigeonlaw01_RingCounts.walk (P : wigeonlaw01_RingCounts.Pure) (a0 : ByteArray) (w : World) (w0 : a0.size ≤ 140737488351232) :
    Calls Try.prog 12 #[.string a0] w fun e w' => e = .returned (.bool true) ∧ Below w.heap.size w w' := by
  obtain ⟨k, h⟩ := P a0 w0
  refine (wigeonlaw01_RingCounts.calls k a0 true w h).mono ?_
  rintro e w' ⟨rfl, hd⟩
  exact ⟨rfl, hd⟩

end Go.Proofs.Ytlbhighbhchdmaa.Q
