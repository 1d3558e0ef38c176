-- Written by a program of this session (wip/tools/gprint.py, over the kit's print); Lean checks it.
import Derived.Test.YthihlapmkcelpaaDoorQx0
import Derived.Test.YthihlapmkcelpaaDoorQx2
import Derived.Test.YthihlapmkcelpaaDoorQx5
namespace Go.Proofs.YthihlapmkcelpaaDoor.Q
open Go.RowKit Go.Proofs.YthihlapmkcelpaaDoorW.PrintWords Go.Proofs.YthihlapmkcelpaaDoorW.PrintLast Go.Proofs.YthihlapmkcelpaaDoorW.PrintMore
attribute [local go_sem] max2_int min2_int max_two min_two max_three min_three max_four min_four   -- for this text's walks alone
set_option linter.unusedVariables false
set_option linter.unusedSimpArgs false

/-! ### wigeonlaw03_WindTurns: function 4 -/
def wigeonlaw03_WindTurns.j0 : Nat → Int → Int → Int → Int → Int → Bool → Option (Bool)
  | 0, _, _, _, _, _, _ => none
  | k + 1, x0, x1, x5, x6, x9, x58 => if x58 = true then (some false) else (if x6 = 0 then ((wind_Mirror.f x5).bind fun bt162 => ((wind_Turn.f x9 (wrap64 (-x1))).bind fun bt164 => ((wind_Turn.f x5 (wrap64 (-x1))).bind fun bt166 => (if bt162.2 = 0 then (if bt164.2 = 0 then (if bt162.1 = bt164.1 then (if bt166.2 = 0 then (if bt166.1 = x0 then ((wigeonlaw03_known.f).bind fun t168 => (some t168)) else (some false)) else (some false)) else (some false)) else (some false)) else (some false))))) else ((wigeonlaw03_known.f).bind fun t161 => (some t161)))
def wigeonlaw03_WindTurns.f (k : Nat) (a0 : Int) (a1 : Int) : Option (Bool) := (wind_Turn.f a0 a1).bind fun bt153 => ((wigeonref03_Turn.f a0 a1).bind fun bt155 => ((wind_Mirror.f a0).bind fun bt157 => ((wigeonref03_Mirror.f a0).bind fun bt159 => (if bt153.1 = bt155.1 then (if bt153.2 = bt155.2 then (if bt157.1 = bt159.1 then (wigeonlaw03_WindTurns.j0 k a0 a1 bt153.1 bt153.2 bt157.1 (bt157.2 != bt159.2)) else (wigeonlaw03_WindTurns.j0 k a0 a1 bt153.1 bt153.2 bt157.1 true)) else (wigeonlaw03_WindTurns.j0 k a0 a1 bt153.1 bt153.2 bt157.1 true)) else (wigeonlaw03_WindTurns.j0 k a0 a1 bt153.1 bt153.2 bt157.1 true)))))
theorem wigeonlaw03_WindTurns.mono_l : ∀ k, (∀ y0 y1 y2 y3 y4 y5, LeO (wigeonlaw03_WindTurns.j0 k y0 y1 y2 y3 y4 y5) (wigeonlaw03_WindTurns.j0 (k + 1) y0 y1 y2 y3 y4 y5))
  | 0 => fun _ _ _ _ _ _ r h => by simp [wigeonlaw03_WindTurns.j0] at h
  | k + 1 => by
    have ih0 := wigeonlaw03_WindTurns.mono_l k
    · intro y0 y1 y2 y3 y4 y5
      unfold wigeonlaw03_WindTurns.j0
      repeat' first
      | (with_reducible exact ih0 _ _ _ _ _ _)
      | (with_reducible exact LeO.refl _)
      | (with_reducible exact LeO.none _)
      | (with_reducible refine LeO.ite ?_ ?_)
      | (with_reducible refine LeO.bind ?_ (fun _ => ?_))
      | exact ih0 _ _ _ _ _ _
      | exact LeO.none _
      | refine LeO.ite ?_ ?_
      | refine LeO.bind ?_ (fun _ => ?_)
theorem wigeonlaw03_WindTurns.mono : ∀ a0 a1 k, LeO (wigeonlaw03_WindTurns.f k a0 a1) (wigeonlaw03_WindTurns.f (k + 1) a0 a1) := by
  intro a0 a1 k
  have ih0 := wigeonlaw03_WindTurns.mono_l k
  unfold wigeonlaw03_WindTurns.f
  repeat' first
      | (with_reducible exact ih0 _ _ _ _ _ _)
      | (with_reducible exact LeO.refl _)
      | (with_reducible exact LeO.none _)
      | (with_reducible refine LeO.ite ?_ ?_)
      | (with_reducible refine LeO.bind ?_ (fun _ => ?_))
      | exact ih0 _ _ _ _ _ _
      | exact LeO.none _
      | refine LeO.ite ?_ ?_
      | refine LeO.bind ?_ (fun _ => ?_)
set_option maxHeartbeats 8000000 in
set_option maxRecDepth 100000 in
theorem wigeonlaw03_WindTurns.calls (k : Nat) (a0 : Int) (a1 : Int) (r : Bool) (w : World) (HS : Hid (SpaceW w)) (h : wigeonlaw03_WindTurns.f k a0 a1 = some r) :
    Calls Tryd.prog 4 #[.int .i64 a0, .int .i64 a1] w fun e w' => e = .returned (.bool r) ∧ Below w.heap.size w w' := by
  have HB := Aside0.mk (Below.refl w.heap.size w)
  have H : ((wind_Turn.f a0 a1).bind fun bt153 => ((wigeonref03_Turn.f a0 a1).bind fun bt155 => ((wind_Mirror.f a0).bind fun bt157 => ((wigeonref03_Mirror.f a0).bind fun bt159 => (if bt153.1 = bt155.1 then (if bt153.2 = bt155.2 then (if bt157.1 = bt159.1 then (wigeonlaw03_WindTurns.j0 k a0 a1 bt153.1 bt153.2 bt157.1 (bt157.2 != bt159.2)) else (wigeonlaw03_WindTurns.j0 k a0 a1 bt153.1 bt153.2 bt157.1 true)) else (wigeonlaw03_WindTurns.j0 k a0 a1 bt153.1 bt153.2 bt157.1 true)) else (wigeonlaw03_WindTurns.j0 k a0 a1 bt153.1 bt153.2 bt157.1 true)))))) = some r := h
  clear h
  replace H := Option.bind_eq_some_iff.mp H
  obtain ⟨⟨t153, t154⟩, A30, H⟩ := H
  replace H : ((wigeonref03_Turn.f a0 a1).bind fun bt155 => ((wind_Mirror.f a0).bind fun bt157 => ((wigeonref03_Mirror.f a0).bind fun bt159 => (if t153 = bt155.1 then (if t154 = bt155.2 then (if bt157.1 = bt159.1 then (wigeonlaw03_WindTurns.j0 k a0 a1 t153 t154 bt157.1 (bt157.2 != bt159.2)) else (wigeonlaw03_WindTurns.j0 k a0 a1 t153 t154 bt157.1 true)) else (wigeonlaw03_WindTurns.j0 k a0 a1 t153 t154 bt157.1 true)) else (wigeonlaw03_WindTurns.j0 k a0 a1 t153 t154 bt157.1 true))))) = some r := H
  have A3 := Aside0.mk A30
  clear A30
  replace H := Option.bind_eq_some_iff.mp H
  obtain ⟨⟨t155, t156⟩, A40, H⟩ := H
  replace H : ((wind_Mirror.f a0).bind fun bt157 => ((wigeonref03_Mirror.f a0).bind fun bt159 => (if t153 = t155 then (if t154 = t156 then (if bt157.1 = bt159.1 then (wigeonlaw03_WindTurns.j0 k a0 a1 t153 t154 bt157.1 (bt157.2 != bt159.2)) else (wigeonlaw03_WindTurns.j0 k a0 a1 t153 t154 bt157.1 true)) else (wigeonlaw03_WindTurns.j0 k a0 a1 t153 t154 bt157.1 true)) else (wigeonlaw03_WindTurns.j0 k a0 a1 t153 t154 bt157.1 true)))) = some r := H
  have A4 := Aside0.mk A40
  clear A40
  replace H := Option.bind_eq_some_iff.mp H
  obtain ⟨⟨t157, t158⟩, A50, H⟩ := H
  replace H : ((wigeonref03_Mirror.f a0).bind fun bt159 => (if t153 = t155 then (if t154 = t156 then (if t157 = bt159.1 then (wigeonlaw03_WindTurns.j0 k a0 a1 t153 t154 t157 (t158 != bt159.2)) else (wigeonlaw03_WindTurns.j0 k a0 a1 t153 t154 t157 true)) else (wigeonlaw03_WindTurns.j0 k a0 a1 t153 t154 t157 true)) else (wigeonlaw03_WindTurns.j0 k a0 a1 t153 t154 t157 true))) = some r := H
  have A5 := Aside0.mk A50
  clear A50
  replace H := Option.bind_eq_some_iff.mp H
  obtain ⟨⟨t159, t160⟩, A60, H⟩ := H
  replace H : (if t153 = t155 then (if t154 = t156 then (if t157 = t159 then (wigeonlaw03_WindTurns.j0 k a0 a1 t153 t154 t157 (t158 != t160)) else (wigeonlaw03_WindTurns.j0 k a0 a1 t153 t154 t157 true)) else (wigeonlaw03_WindTurns.j0 k a0 a1 t153 t154 t157 true)) else (wigeonlaw03_WindTurns.j0 k a0 a1 t153 t154 t157 true)) = some r := H
  have A6 := Aside0.mk A60
  clear A60
  have HC7 := Aside0.mk H
  clear H
  go_enter Tryd.func4, Tryd.ntmps4
  go_upto_region 5 with (first | ((with_reducible refine gate_callee (f := 21) rfl ?_); refine goesL_ (some 22) rfl rfl Tryd.func21 (by kernel_rfl) rfl #[.int .i64 a0, .int .i64 a1] rfl (by (try simp only [List.map_toArray, List.map_cons, List.map_nil]); first | done | rfl | (simp only [List.length_drop, List.length_take]; rfl)) ?_; (with_reducible refine (wind_Turn.calls a0 a1 t153 t154 _ A3.out).mono ?_); rintro e w' ⟨rfl, ⟨nd, rfl⟩⟩; refine ⟨_, rfl, ?_⟩) | ((with_reducible refine gate_callee (f := 22) rfl ?_); refine goesL_ (some 28) rfl rfl Tryd.func22 (by kernel_rfl) rfl #[.int .i64 a0, .int .i64 a1] rfl (by (try simp only [List.map_toArray, List.map_cons, List.map_nil]); first | done | rfl | (simp only [List.length_drop, List.length_take]; rfl)) ?_; (with_reducible refine (wigeonref03_Turn.calls a0 a1 t155 t156 _ A4.out).mono ?_); rintro e w8 ⟨rfl, hb⟩; refine ⟨_, rfl, ?_⟩; have n0_ := Aside0.mk (below_step (by repeat (first | (with_reducible first | exact HB.out | apply below_alloc | apply pw_below_drewN | apply below_drew1) | exact HB.out)) hb); clear HB; have HB := n0_; clear n0_; (try clear hb); (try clear hb2); (try clear hk); (try clear hi)) | ((with_reducible refine gate_callee (f := 23) rfl ?_); refine goesL_ (some 33) rfl rfl Tryd.func23 (by kernel_rfl) rfl #[.int .i64 a0] rfl (by (try simp only [List.map_toArray, List.map_cons, List.map_nil]); first | done | rfl | (simp only [List.length_drop, List.length_take]; rfl)) ?_; (with_reducible refine (wind_Mirror.calls a0 t157 t158 _ A5.out).mono ?_); rintro e w9 ⟨rfl, hb⟩; refine ⟨_, rfl, ?_⟩; have n0_ := Aside0.mk (below_step (by repeat (first | (with_reducible first | exact HB.out | apply below_alloc | apply pw_below_drewN | apply below_drew1) | exact HB.out)) hb); clear HB; have HB := n0_; clear n0_; (try clear hb); (try clear hb2); (try clear hk); (try clear hi)) | ((with_reducible refine gate_callee (f := 24) rfl ?_); refine goesL_ (some 38) rfl rfl Tryd.func24 (by kernel_rfl) rfl #[.int .i64 a0] rfl (by (try simp only [List.map_toArray, List.map_cons, List.map_nil]); first | done | rfl | (simp only [List.length_drop, List.length_take]; rfl)) ?_; (with_reducible refine (wigeonref03_Mirror.calls a0 t159 t160 _ A6.out).mono ?_); rintro e w10 ⟨rfl, hb⟩; refine ⟨_, rfl, ?_⟩; have n0_ := Aside0.mk (below_step (by repeat (first | (with_reducible first | exact HB.out | apply below_alloc | apply pw_below_drewN | apply below_drew1) | exact HB.out)) hb); clear HB; have HB := n0_; clear n0_; (try clear hb); (try clear hb2); (try clear hk); (try clear hi)))
  (try simp only [Act.put, List.setIfInBounds_toArray, List.set_cons_zero, List.set_cons_succ])
  go_cut [58] (fun v58 wc => ∃ (kq : Nat) (x58_6 : Bool), v58 = .bool x58_6 ∧ Aside0 (wigeonlaw03_WindTurns.j0 kq a0 a1 t153 t154 t157 x58_6 = some r) ∧ Aside0 (kq ≤ k) ∧ Aside0 (Below w.heap.size w wc))
  case first =>
    have H := HC7.out
    clear HC7
    by_cases c11 : t153 = t155
    · rw [if_pos c11] at H
      have c11b0 : (t153 == t155) = true := beq_iff_eq.mpr c11
      have c11b1 : (t153 != t155) = false := bne_eq_false_iff_eq.mpr c11
      clear c11
      (first | rw [c11b0] | (simp only [i64_w, i32_w]; rw [c11b0]) | skip)
      by_cases c12 : t154 = t156
      · rw [if_pos c12] at H
        have c12b0 : (t154 == t156) = true := beq_iff_eq.mpr c12
        have c12b1 : (t154 != t156) = false := bne_eq_false_iff_eq.mpr c12
        clear c12
        by_cases c13 : t157 = t159
        · rw [if_pos c13] at H
          have c13b0 : (t157 == t159) = true := beq_iff_eq.mpr c13
          have c13b1 : (t157 != t159) = false := bne_eq_false_iff_eq.mpr c13
          clear c13
          have H' := Aside0.mk H
          clear H
          go_wp2
          go_meet
          case rel => exact ⟨_, ((t158 != t160)), (by first | rfl | (simp; done) | (simp [*]; done)), H', ⟨by first | omega | exact Nat.le_refl _⟩, ⟨by repeat (first | (with_reducible first | exact HB.out | apply below_alloc | apply pw_below_drewN | apply below_drew1) | exact HB.out)⟩⟩
        · rw [if_neg c13] at H
          have c13b0 : (t157 == t159) = false := beq_eq_false_iff_ne.mpr c13
          have c13b1 : (t157 != t159) = true := bne_iff_ne.mpr c13
          have H' := Aside0.mk H
          clear H
          go_wp2
          go_meet
          case rel => exact ⟨_, (true), (by first | rfl | (simp; done) | (simp [*]; done)), H', ⟨by first | omega | exact Nat.le_refl _⟩, ⟨by repeat (first | (with_reducible first | exact HB.out | apply below_alloc | apply pw_below_drewN | apply below_drew1) | exact HB.out)⟩⟩
      · rw [if_neg c12] at H
        have c12b0 : (t154 == t156) = false := beq_eq_false_iff_ne.mpr c12
        have c12b1 : (t154 != t156) = true := bne_iff_ne.mpr c12
        have H' := Aside0.mk H
        clear H
        go_wp2
        go_meet
        case rel => exact ⟨_, (true), (by first | rfl | (simp; done) | (simp [*]; done)), H', ⟨by first | omega | exact Nat.le_refl _⟩, ⟨by repeat (first | (with_reducible first | exact HB.out | apply below_alloc | apply pw_below_drewN | apply below_drew1) | exact HB.out)⟩⟩
    · rw [if_neg c11] at H
      have c11b0 : (t153 == t155) = false := beq_eq_false_iff_ne.mpr c11
      have c11b1 : (t153 != t155) = true := bne_iff_ne.mpr c11
      (first | rw [c11b0] | (simp only [i64_w, i32_w]; rw [c11b0]) | skip)
      have H' := Aside0.mk H
      clear H
      go_wp2
      go_meet
      case rel => exact ⟨_, (true), (by first | rfl | (simp; done) | (simp [*]; done)), H', ⟨by first | omega | exact Nat.le_refl _⟩, ⟨by repeat (first | (with_reducible first | exact HB.out | apply below_alloc | apply pw_below_drewN | apply below_drew1) | exact HB.out)⟩⟩
  case rest =>
    clear HC7
    try clear c1
    try clear c2
    try clear p2
    try clear c4
    try clear c11
    try clear c11b0
    try clear c11b1
    try clear c12
    try clear c12b0
    try clear c12b1
    try clear c13
    try clear c13b0
    try clear c13b1
    obtain ⟨kq, x58_6, rfl, HA, HJ6, HB⟩ := hcut
    cases kq with
    | zero => exact absurd HA.out (by simp [wigeonlaw03_WindTurns.j0])
    | succ kj6 =>
      have H := HA.out
      clear HA
      simp only [wigeonlaw03_WindTurns.j0] at H
      by_cases c14 : x58_6 = true
      · subst c14
        have H1 : (some false) = some r := by rw [if_pos rfl] at H; exact H
        clear H
        have H := H1
        clear H1
        obtain rfl := Option.some.inj H
        go_wp2
        go_ret
        exact ⟨by first | rfl | (simp [errW_none, errW_some] <;> rfl) | (simp [*, errW_none, errW_some] <;> rfl), by repeat (first | (with_reducible first | exact HB.out | apply below_alloc | apply pw_below_drewN | apply below_drew1) | exact HB.out)⟩
      · replace c14 := Bool.eq_false_iff.mpr c14
        subst c14
        have H1 : (if t154 = 0 then ((wind_Mirror.f t153).bind fun bt162 => ((wind_Turn.f t157 (wrap64 (-a1))).bind fun bt164 => ((wind_Turn.f t153 (wrap64 (-a1))).bind fun bt166 => (if bt162.2 = 0 then (if bt164.2 = 0 then (if bt162.1 = bt164.1 then (if bt166.2 = 0 then (if bt166.1 = a0 then ((wigeonlaw03_known.f).bind fun t168 => (some t168)) else (some false)) else (some false)) else (some false)) else (some false)) else (some false))))) else ((wigeonlaw03_known.f).bind fun t161 => (some t161))) = some r := by rw [if_neg (show ¬ (false = true) by decide)] at H; exact H
        clear H
        have H := H1
        clear H1
        by_cases c15 : t154 = 0
        · rw [if_pos c15] at H
          have c15b0 : (t154 == 0) = true := beq_iff_eq.mpr c15
          have c15b1 : (t154 != 0) = false := bne_eq_false_iff_eq.mpr c15
          clear c15
          replace H := Option.bind_eq_some_iff.mp H
          obtain ⟨⟨t162, t163⟩, A160, H⟩ := H
          replace H : ((wind_Turn.f t157 (wrap64 (-a1))).bind fun bt164 => ((wind_Turn.f t153 (wrap64 (-a1))).bind fun bt166 => (if t163 = 0 then (if bt164.2 = 0 then (if t162 = bt164.1 then (if bt166.2 = 0 then (if bt166.1 = a0 then ((wigeonlaw03_known.f).bind fun t168 => (some t168)) else (some false)) else (some false)) else (some false)) else (some false)) else (some false)))) = some r := H
          have A16 := Aside0.mk A160
          clear A160
          replace H := Option.bind_eq_some_iff.mp H
          obtain ⟨⟨t164, t165⟩, A170, H⟩ := H
          replace H : ((wind_Turn.f t153 (wrap64 (-a1))).bind fun bt166 => (if t163 = 0 then (if t165 = 0 then (if t162 = t164 then (if bt166.2 = 0 then (if bt166.1 = a0 then ((wigeonlaw03_known.f).bind fun t168 => (some t168)) else (some false)) else (some false)) else (some false)) else (some false)) else (some false))) = some r := H
          have A17 := Aside0.mk A170
          clear A170
          replace H := Option.bind_eq_some_iff.mp H
          obtain ⟨⟨t166, t167⟩, A180, H⟩ := H
          replace H : (if t163 = 0 then (if t165 = 0 then (if t162 = t164 then (if t167 = 0 then (if t166 = a0 then ((wigeonlaw03_known.f).bind fun t168 => (some t168)) else (some false)) else (some false)) else (some false)) else (some false)) else (some false)) = some r := H
          have A18 := Aside0.mk A180
          clear A180
          by_cases c19 : t163 = 0
          · rw [if_pos c19] at H
            have c19b0 : (t163 == 0) = true := beq_iff_eq.mpr c19
            have c19b1 : (t163 != 0) = false := bne_eq_false_iff_eq.mpr c19
            clear c19
            by_cases c20 : t165 = 0
            · rw [if_pos c20] at H
              have c20b0 : (t165 == 0) = true := beq_iff_eq.mpr c20
              have c20b1 : (t165 != 0) = false := bne_eq_false_iff_eq.mpr c20
              clear c20
              by_cases c21 : t162 = t164
              · rw [if_pos c21] at H
                have c21b0 : (t162 == t164) = true := beq_iff_eq.mpr c21
                have c21b1 : (t162 != t164) = false := bne_eq_false_iff_eq.mpr c21
                clear c21
                by_cases c22 : t167 = 0
                · rw [if_pos c22] at H
                  have c22b0 : (t167 == 0) = true := beq_iff_eq.mpr c22
                  have c22b1 : (t167 != 0) = false := bne_eq_false_iff_eq.mpr c22
                  clear c22
                  by_cases c23 : t166 = a0
                  · rw [if_pos c23] at H
                    have c23b0 : (t166 == a0) = true := beq_iff_eq.mpr c23
                    have c23b1 : (t166 != a0) = false := bne_eq_false_iff_eq.mpr c23
                    clear c23
                    replace H := Option.bind_eq_some_iff.mp H
                    obtain ⟨t168, A240, H⟩ := H
                    replace H : (some t168) = some r := H
                    have A24 := Aside0.mk A240
                    clear A240
                    obtain rfl := Option.some.inj H
                    go_wp2_with (first | ((with_reducible refine gate_callee (f := 23) rfl ?_); refine goesL_ (some 64) rfl rfl Tryd.func23 (by kernel_rfl) rfl #[.int .i64 t153] rfl (by (try simp only [List.map_toArray, List.map_cons, List.map_nil]); first | done | rfl | (simp only [List.length_drop, List.length_take]; rfl)) ?_; (with_reducible refine (wind_Mirror.calls t153 t162 t163 _ A16.out).mono ?_); rintro e w25 ⟨rfl, hb⟩; refine ⟨_, rfl, ?_⟩; have n0_ := Aside0.mk (below_step (by repeat (first | (with_reducible first | exact HB.out | apply below_alloc | apply pw_below_drewN | apply below_drew1) | exact HB.out)) hb); clear HB; have HB := n0_; clear n0_; (try clear hb); (try clear hb2); (try clear hk); (try clear hi)) | ((with_reducible refine gate_callee (f := 21) rfl ?_); refine goesL_ (some 71) rfl rfl Tryd.func21 (by kernel_rfl) rfl #[.int .i64 t157, .int .i64 (wrap64 (-a1))] rfl (by (try simp only [List.map_toArray, List.map_cons, List.map_nil]); first | done | rfl | (simp only [List.length_drop, List.length_take]; rfl)) ?_; (with_reducible refine (wind_Turn.calls t157 (wrap64 (-a1)) t164 t165 _ A17.out).mono ?_); rintro e w' ⟨rfl, ⟨nd, rfl⟩⟩; refine ⟨_, rfl, ?_⟩) | ((with_reducible refine gate_callee (f := 21) rfl ?_); refine goesL_ (some 78) rfl rfl Tryd.func21 (by kernel_rfl) rfl #[.int .i64 t153, .int .i64 (wrap64 (-a1))] rfl (by (try simp only [List.map_toArray, List.map_cons, List.map_nil]); first | done | rfl | (simp only [List.length_drop, List.length_take]; rfl)) ?_; (with_reducible refine (wind_Turn.calls t153 (wrap64 (-a1)) t166 t167 _ A18.out).mono ?_); rintro e w' ⟨rfl, ⟨nd, rfl⟩⟩; refine ⟨_, rfl, ?_⟩) | (go_at_call 16; (with_reducible refine (wigeonlaw03_known.calls  t168 _ A24.out).mono ?_); rintro e w26 ⟨rfl, hb⟩; have n0_ := Aside0.mk (below_step (by repeat (first | (with_reducible first | exact HB.out | apply below_alloc | apply pw_below_drewN | apply below_drew1) | exact HB.out)) hb); clear HB; have HB := n0_; clear n0_; (try clear hb); (try clear hb2); (try clear hk); (try clear hi)))
                    go_ret
                    exact ⟨by first | rfl | (simp [errW_none, errW_some] <;> rfl) | (simp [*, errW_none, errW_some] <;> rfl), by repeat (first | (with_reducible first | exact HB.out | apply below_alloc | apply pw_below_drewN | apply below_drew1) | exact HB.out)⟩
                  · rw [if_neg c23] at H
                    have c23b0 : (t166 == a0) = false := beq_eq_false_iff_ne.mpr c23
                    have c23b1 : (t166 != a0) = true := bne_iff_ne.mpr c23
                    obtain rfl := Option.some.inj H
                    go_wp2_with (first | ((with_reducible refine gate_callee (f := 23) rfl ?_); refine goesL_ (some 64) rfl rfl Tryd.func23 (by kernel_rfl) rfl #[.int .i64 t153] rfl (by (try simp only [List.map_toArray, List.map_cons, List.map_nil]); first | done | rfl | (simp only [List.length_drop, List.length_take]; rfl)) ?_; (with_reducible refine (wind_Mirror.calls t153 t162 t163 _ A16.out).mono ?_); rintro e w27 ⟨rfl, hb⟩; refine ⟨_, rfl, ?_⟩; have n0_ := Aside0.mk (below_step (by repeat (first | (with_reducible first | exact HB.out | apply below_alloc | apply pw_below_drewN | apply below_drew1) | exact HB.out)) hb); clear HB; have HB := n0_; clear n0_; (try clear hb); (try clear hb2); (try clear hk); (try clear hi)) | ((with_reducible refine gate_callee (f := 21) rfl ?_); refine goesL_ (some 71) rfl rfl Tryd.func21 (by kernel_rfl) rfl #[.int .i64 t157, .int .i64 (wrap64 (-a1))] rfl (by (try simp only [List.map_toArray, List.map_cons, List.map_nil]); first | done | rfl | (simp only [List.length_drop, List.length_take]; rfl)) ?_; (with_reducible refine (wind_Turn.calls t157 (wrap64 (-a1)) t164 t165 _ A17.out).mono ?_); rintro e w' ⟨rfl, ⟨nd, rfl⟩⟩; refine ⟨_, rfl, ?_⟩) | ((with_reducible refine gate_callee (f := 21) rfl ?_); refine goesL_ (some 78) rfl rfl Tryd.func21 (by kernel_rfl) rfl #[.int .i64 t153, .int .i64 (wrap64 (-a1))] rfl (by (try simp only [List.map_toArray, List.map_cons, List.map_nil]); first | done | rfl | (simp only [List.length_drop, List.length_take]; rfl)) ?_; (with_reducible refine (wind_Turn.calls t153 (wrap64 (-a1)) t166 t167 _ A18.out).mono ?_); rintro e w' ⟨rfl, ⟨nd, rfl⟩⟩; refine ⟨_, rfl, ?_⟩))
                    go_ret
                    exact ⟨by first | rfl | (simp [errW_none, errW_some] <;> rfl) | (simp [*, errW_none, errW_some] <;> rfl), by repeat (first | (with_reducible first | exact HB.out | apply below_alloc | apply pw_below_drewN | apply below_drew1) | exact HB.out)⟩
                · rw [if_neg c22] at H
                  have c22b0 : (t167 == 0) = false := beq_eq_false_iff_ne.mpr c22
                  have c22b1 : (t167 != 0) = true := bne_iff_ne.mpr c22
                  obtain rfl := Option.some.inj H
                  go_wp2_with (first | ((with_reducible refine gate_callee (f := 23) rfl ?_); refine goesL_ (some 64) rfl rfl Tryd.func23 (by kernel_rfl) rfl #[.int .i64 t153] rfl (by (try simp only [List.map_toArray, List.map_cons, List.map_nil]); first | done | rfl | (simp only [List.length_drop, List.length_take]; rfl)) ?_; (with_reducible refine (wind_Mirror.calls t153 t162 t163 _ A16.out).mono ?_); rintro e w28 ⟨rfl, hb⟩; refine ⟨_, rfl, ?_⟩; have n0_ := Aside0.mk (below_step (by repeat (first | (with_reducible first | exact HB.out | apply below_alloc | apply pw_below_drewN | apply below_drew1) | exact HB.out)) hb); clear HB; have HB := n0_; clear n0_; (try clear hb); (try clear hb2); (try clear hk); (try clear hi)) | ((with_reducible refine gate_callee (f := 21) rfl ?_); refine goesL_ (some 71) rfl rfl Tryd.func21 (by kernel_rfl) rfl #[.int .i64 t157, .int .i64 (wrap64 (-a1))] rfl (by (try simp only [List.map_toArray, List.map_cons, List.map_nil]); first | done | rfl | (simp only [List.length_drop, List.length_take]; rfl)) ?_; (with_reducible refine (wind_Turn.calls t157 (wrap64 (-a1)) t164 t165 _ A17.out).mono ?_); rintro e w' ⟨rfl, ⟨nd, rfl⟩⟩; refine ⟨_, rfl, ?_⟩) | ((with_reducible refine gate_callee (f := 21) rfl ?_); refine goesL_ (some 78) rfl rfl Tryd.func21 (by kernel_rfl) rfl #[.int .i64 t153, .int .i64 (wrap64 (-a1))] rfl (by (try simp only [List.map_toArray, List.map_cons, List.map_nil]); first | done | rfl | (simp only [List.length_drop, List.length_take]; rfl)) ?_; (with_reducible refine (wind_Turn.calls t153 (wrap64 (-a1)) t166 t167 _ A18.out).mono ?_); rintro e w' ⟨rfl, ⟨nd, rfl⟩⟩; refine ⟨_, rfl, ?_⟩))
                  go_ret
                  exact ⟨by first | rfl | (simp [errW_none, errW_some] <;> rfl) | (simp [*, errW_none, errW_some] <;> rfl), by repeat (first | (with_reducible first | exact HB.out | apply below_alloc | apply pw_below_drewN | apply below_drew1) | exact HB.out)⟩
              · rw [if_neg c21] at H
                have c21b0 : (t162 == t164) = false := beq_eq_false_iff_ne.mpr c21
                have c21b1 : (t162 != t164) = true := bne_iff_ne.mpr c21
                obtain rfl := Option.some.inj H
                go_wp2_with (first | ((with_reducible refine gate_callee (f := 23) rfl ?_); refine goesL_ (some 64) rfl rfl Tryd.func23 (by kernel_rfl) rfl #[.int .i64 t153] rfl (by (try simp only [List.map_toArray, List.map_cons, List.map_nil]); first | done | rfl | (simp only [List.length_drop, List.length_take]; rfl)) ?_; (with_reducible refine (wind_Mirror.calls t153 t162 t163 _ A16.out).mono ?_); rintro e w29 ⟨rfl, hb⟩; refine ⟨_, rfl, ?_⟩; have n0_ := Aside0.mk (below_step (by repeat (first | (with_reducible first | exact HB.out | apply below_alloc | apply pw_below_drewN | apply below_drew1) | exact HB.out)) hb); clear HB; have HB := n0_; clear n0_; (try clear hb); (try clear hb2); (try clear hk); (try clear hi)) | ((with_reducible refine gate_callee (f := 21) rfl ?_); refine goesL_ (some 71) rfl rfl Tryd.func21 (by kernel_rfl) rfl #[.int .i64 t157, .int .i64 (wrap64 (-a1))] rfl (by (try simp only [List.map_toArray, List.map_cons, List.map_nil]); first | done | rfl | (simp only [List.length_drop, List.length_take]; rfl)) ?_; (with_reducible refine (wind_Turn.calls t157 (wrap64 (-a1)) t164 t165 _ A17.out).mono ?_); rintro e w' ⟨rfl, ⟨nd, rfl⟩⟩; refine ⟨_, rfl, ?_⟩) | ((with_reducible refine gate_callee (f := 21) rfl ?_); refine goesL_ (some 78) rfl rfl Tryd.func21 (by kernel_rfl) rfl #[.int .i64 t153, .int .i64 (wrap64 (-a1))] rfl (by (try simp only [List.map_toArray, List.map_cons, List.map_nil]); first | done | rfl | (simp only [List.length_drop, List.length_take]; rfl)) ?_; (with_reducible refine (wind_Turn.calls t153 (wrap64 (-a1)) t166 t167 _ A18.out).mono ?_); rintro e w' ⟨rfl, ⟨nd, rfl⟩⟩; refine ⟨_, rfl, ?_⟩))
                go_ret
                exact ⟨by first | rfl | (simp [errW_none, errW_some] <;> rfl) | (simp [*, errW_none, errW_some] <;> rfl), by repeat (first | (with_reducible first | exact HB.out | apply below_alloc | apply pw_below_drewN | apply below_drew1) | exact HB.out)⟩
            · rw [if_neg c20] at H
              have c20b0 : (t165 == 0) = false := beq_eq_false_iff_ne.mpr c20
              have c20b1 : (t165 != 0) = true := bne_iff_ne.mpr c20
              obtain rfl := Option.some.inj H
              go_wp2_with (first | ((with_reducible refine gate_callee (f := 23) rfl ?_); refine goesL_ (some 64) rfl rfl Tryd.func23 (by kernel_rfl) rfl #[.int .i64 t153] rfl (by (try simp only [List.map_toArray, List.map_cons, List.map_nil]); first | done | rfl | (simp only [List.length_drop, List.length_take]; rfl)) ?_; (with_reducible refine (wind_Mirror.calls t153 t162 t163 _ A16.out).mono ?_); rintro e w30 ⟨rfl, hb⟩; refine ⟨_, rfl, ?_⟩; have n0_ := Aside0.mk (below_step (by repeat (first | (with_reducible first | exact HB.out | apply below_alloc | apply pw_below_drewN | apply below_drew1) | exact HB.out)) hb); clear HB; have HB := n0_; clear n0_; (try clear hb); (try clear hb2); (try clear hk); (try clear hi)) | ((with_reducible refine gate_callee (f := 21) rfl ?_); refine goesL_ (some 71) rfl rfl Tryd.func21 (by kernel_rfl) rfl #[.int .i64 t157, .int .i64 (wrap64 (-a1))] rfl (by (try simp only [List.map_toArray, List.map_cons, List.map_nil]); first | done | rfl | (simp only [List.length_drop, List.length_take]; rfl)) ?_; (with_reducible refine (wind_Turn.calls t157 (wrap64 (-a1)) t164 t165 _ A17.out).mono ?_); rintro e w' ⟨rfl, ⟨nd, rfl⟩⟩; refine ⟨_, rfl, ?_⟩) | ((with_reducible refine gate_callee (f := 21) rfl ?_); refine goesL_ (some 78) rfl rfl Tryd.func21 (by kernel_rfl) rfl #[.int .i64 t153, .int .i64 (wrap64 (-a1))] rfl (by (try simp only [List.map_toArray, List.map_cons, List.map_nil]); first | done | rfl | (simp only [List.length_drop, List.length_take]; rfl)) ?_; (with_reducible refine (wind_Turn.calls t153 (wrap64 (-a1)) t166 t167 _ A18.out).mono ?_); rintro e w' ⟨rfl, ⟨nd, rfl⟩⟩; refine ⟨_, rfl, ?_⟩))
              go_ret
              exact ⟨by first | rfl | (simp [errW_none, errW_some] <;> rfl) | (simp [*, errW_none, errW_some] <;> rfl), by repeat (first | (with_reducible first | exact HB.out | apply below_alloc | apply pw_below_drewN | apply below_drew1) | exact HB.out)⟩
          · rw [if_neg c19] at H
            have c19b0 : (t163 == 0) = false := beq_eq_false_iff_ne.mpr c19
            have c19b1 : (t163 != 0) = true := bne_iff_ne.mpr c19
            obtain rfl := Option.some.inj H
            go_wp2_with (first | ((with_reducible refine gate_callee (f := 23) rfl ?_); refine goesL_ (some 64) rfl rfl Tryd.func23 (by kernel_rfl) rfl #[.int .i64 t153] rfl (by (try simp only [List.map_toArray, List.map_cons, List.map_nil]); first | done | rfl | (simp only [List.length_drop, List.length_take]; rfl)) ?_; (with_reducible refine (wind_Mirror.calls t153 t162 t163 _ A16.out).mono ?_); rintro e w31 ⟨rfl, hb⟩; refine ⟨_, rfl, ?_⟩; have n0_ := Aside0.mk (below_step (by repeat (first | (with_reducible first | exact HB.out | apply below_alloc | apply pw_below_drewN | apply below_drew1) | exact HB.out)) hb); clear HB; have HB := n0_; clear n0_; (try clear hb); (try clear hb2); (try clear hk); (try clear hi)) | ((with_reducible refine gate_callee (f := 21) rfl ?_); refine goesL_ (some 71) rfl rfl Tryd.func21 (by kernel_rfl) rfl #[.int .i64 t157, .int .i64 (wrap64 (-a1))] rfl (by (try simp only [List.map_toArray, List.map_cons, List.map_nil]); first | done | rfl | (simp only [List.length_drop, List.length_take]; rfl)) ?_; (with_reducible refine (wind_Turn.calls t157 (wrap64 (-a1)) t164 t165 _ A17.out).mono ?_); rintro e w' ⟨rfl, ⟨nd, rfl⟩⟩; refine ⟨_, rfl, ?_⟩) | ((with_reducible refine gate_callee (f := 21) rfl ?_); refine goesL_ (some 78) rfl rfl Tryd.func21 (by kernel_rfl) rfl #[.int .i64 t153, .int .i64 (wrap64 (-a1))] rfl (by (try simp only [List.map_toArray, List.map_cons, List.map_nil]); first | done | rfl | (simp only [List.length_drop, List.length_take]; rfl)) ?_; (with_reducible refine (wind_Turn.calls t153 (wrap64 (-a1)) t166 t167 _ A18.out).mono ?_); rintro e w' ⟨rfl, ⟨nd, rfl⟩⟩; refine ⟨_, rfl, ?_⟩))
            go_ret
            exact ⟨by first | rfl | (simp [errW_none, errW_some] <;> rfl) | (simp [*, errW_none, errW_some] <;> rfl), by repeat (first | (with_reducible first | exact HB.out | apply below_alloc | apply pw_below_drewN | apply below_drew1) | exact HB.out)⟩
        · rw [if_neg c15] at H
          have c15b0 : (t154 == 0) = false := beq_eq_false_iff_ne.mpr c15
          have c15b1 : (t154 != 0) = true := bne_iff_ne.mpr c15
          replace H := Option.bind_eq_some_iff.mp H
          obtain ⟨t161, A320, H⟩ := H
          replace H : (some t161) = some r := H
          have A32 := Aside0.mk A320
          clear A320
          obtain rfl := Option.some.inj H
          go_wp2_with (first | ((with_reducible refine gate_callee (f := 16) rfl ?_); refine goesL_ (some 61) rfl rfl Tryd.func16 (by kernel_rfl) rfl #[] rfl (by (try simp only [List.map_toArray, List.map_cons, List.map_nil]); first | done | rfl | (simp only [List.length_drop, List.length_take]; rfl)) ?_; (with_reducible refine (wigeonlaw03_known.calls  t161 _ A32.out).mono ?_); rintro e w33 ⟨rfl, hb⟩; refine ⟨_, rfl, ?_⟩; have n0_ := Aside0.mk (below_step (by repeat (first | (with_reducible first | exact HB.out | apply below_alloc | apply pw_below_drewN | apply below_drew1) | exact HB.out)) hb); clear HB; have HB := n0_; clear n0_; (try clear hb); (try clear hb2); (try clear hk); (try clear hi)))
          go_ret
          exact ⟨by first | rfl | (simp [errW_none, errW_some] <;> rfl) | (simp [*, errW_none, errW_some] <;> rfl), by repeat (first | (with_reducible first | exact HB.out | apply below_alloc | apply pw_below_drewN | apply below_drew1) | exact HB.out)⟩

/-- THE ONE PURE STATEMENT of wigeonlaw03_WindTurns: yours. -/
def wigeonlaw03_WindTurns.Pure : Prop := ∀ (a0 : Int) (a1 : Int), (Lit.int .i64 a0).wf = true → (Lit.int .i64 a1).wf = true → ∃ k, wigeonlaw03_WindTurns.f k a0 a1 = some true
theorem wigeonlaw03_WindTurns.walk (P : wigeonlaw03_WindTurns.Pure) (a0 : Int) (a1 : Int) (w : World) (HS : Hid (SpaceW w)) (w0 : (Lit.int .i64 a0).wf = true) (w1 : (Lit.int .i64 a1).wf = true) :
    Calls Tryd.prog 4 #[.int .i64 a0, .int .i64 a1] w fun e w' => e = .returned (.bool true) ∧ Below w.heap.size w w' := by
  obtain ⟨k, h⟩ := P a0 a1 w0 w1
  refine (wigeonlaw03_WindTurns.calls k a0 a1 true w HS h).mono ?_
  rintro e w' ⟨rfl, hd⟩
  exact ⟨rfl, hd⟩

end Go.Proofs.YthihlapmkcelpaaDoor.Q
