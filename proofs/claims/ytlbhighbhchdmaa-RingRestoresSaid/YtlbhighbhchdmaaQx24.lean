-- Written by a program of this session (wip/tools/gprint.py, over the kit's print); Lean checks it.
import Derived.Test.YtlbhighbhchdmaaQx0
import Derived.Test.YtlbhighbhchdmaaQx1
import Derived.Test.YtlbhighbhchdmaaQx8
import Derived.Test.YtlbhighbhchdmaaQx14
import Derived.Test.YtlbhighbhchdmaaQx20
import Derived.Test.YtlbhighbhchdmaaQx21
namespace Go.Proofs.Ytlbhighbhchdmaa.Q
open Go.RowKit Go.Proofs.YtlbhighbhchdmaaW.PrintWords Go.Proofs.YtlbhighbhchdmaaW.PrintLast Go.Proofs.YtlbhighbhchdmaaW.PrintMore
attribute [local go_sem] max2_int min2_int max_two min_two max_three min_three max_four min_four   -- for this text's walks alone
set_option linter.unusedVariables false
set_option linter.unusedSimpArgs false

/-! ### wigeonlaw01_RingRestores: function 10 -/
def wigeonlaw01_RingRestores.j0 : Nat → Int → ByteArray → Int → Bool → Option (Bool)
  | 0, _, _, _, _ => none
  | k + 1, x2, x7, x8, x31 => if x31 = true then (if x8 = 0 then (some false) else ((wigeonlaw01_known.f k).bind fun t427 => (some t427))) else (if 0 ≤ (wrap64 ((wrap64 ((x7.size : Int) - 6)) + (wrap64 (Int.tmod (IntKind.u64.wrap (x2)) 6)))) then (if (wrap64 ((wrap64 ((x7.size : Int) - 6)) + (wrap64 (Int.tmod (IntKind.u64.wrap (x2)) 6)))) ≤ (x7.size : Int) then (if (x7.extract 0 ((wrap64 ((wrap64 ((x7.size : Int) - 6)) + (wrap64 (Int.tmod (IntKind.u64.wrap (x2)) 6)))) : Int).toNat).size + 1 ≤ 9223372036854775807 then (if 0 ≤ (wrap64 ((wrap64 ((wrap64 ((x7.size : Int) - 6)) + (wrap64 (Int.tmod (IntKind.u64.wrap (x2)) 6)))) + 1)) then (if (wrap64 ((wrap64 ((wrap64 ((x7.size : Int) - 6)) + (wrap64 (Int.tmod (IntKind.u64.wrap (x2)) 6)))) + 1)) ≤ (x7.size : Int) then (if ((x7.extract 0 ((wrap64 ((wrap64 ((x7.size : Int) - 6)) + (wrap64 (Int.tmod (IntKind.u64.wrap (x2)) 6)))) : Int).toNat) ++ (⟨#[63]⟩ : ByteArray)).size + (x7.extract ((wrap64 ((wrap64 ((wrap64 ((x7.size : Int) - 6)) + (wrap64 (Int.tmod (IntKind.u64.wrap (x2)) 6)))) + 1)) : Int).toNat x7.size).size ≤ 9223372036854775807 then ((ring_Count.f (((x7.extract 0 ((wrap64 ((wrap64 ((x7.size : Int) - 6)) + (wrap64 (Int.tmod (IntKind.u64.wrap (x2)) 6)))) : Int).toNat) ++ (⟨#[63]⟩ : ByteArray)) ++ (x7.extract ((wrap64 ((wrap64 ((wrap64 ((x7.size : Int) - 6)) + (wrap64 (Int.tmod (IntKind.u64.wrap (x2)) 6)))) + 1)) : Int).toNat x7.size))).bind fun bt428 => ((ring_First.f (((x7.extract 0 ((wrap64 ((wrap64 ((x7.size : Int) - 6)) + (wrap64 (Int.tmod (IntKind.u64.wrap (x2)) 6)))) : Int).toNat) ++ (⟨#[63]⟩ : ByteArray)) ++ (x7.extract ((wrap64 ((wrap64 ((wrap64 ((x7.size : Int) - 6)) + (wrap64 (Int.tmod (IntKind.u64.wrap (x2)) 6)))) + 1)) : Int).toNat x7.size))).bind fun bt430 => (if bt428.2 = 0 then (if bt428.1 = 1 then (if bt430.2.2 = 0 then (if bt430.2.1 = true then (if bt430.1.toList = x7.toList then ((wigeonlaw01_known.f k).bind fun t433 => (some t433)) else (some false)) else (some false)) else (some false)) else (some false)) else (some false)))) else (none)) else (none)) else (none)) else (none)) else (none)) else (none))
def wigeonlaw01_RingRestores.f (k : Nat) (a0 : ByteArray) (a1 : Int) (a2 : Int) : Option (Bool) := (wigeonlaw01_long.f a0).bind fun t423 => (if t423 = true then ((wigeonlaw01_known.f k).bind fun t424 => (some t424)) else ((ring_Make.f k a0 a1).bind fun bt425 => (if bt425.2 = 0 then (wigeonlaw01_RingRestores.j0 k a2 bt425.1 bt425.2 (decide ((bt425.1.size : Int) < 7))) else (wigeonlaw01_RingRestores.j0 k a2 bt425.1 bt425.2 true))))
theorem wigeonlaw01_RingRestores.mono_l : ∀ k, (∀ y0 y1 y2 y3, LeO (wigeonlaw01_RingRestores.j0 k y0 y1 y2 y3) (wigeonlaw01_RingRestores.j0 (k + 1) y0 y1 y2 y3))
  | 0 => fun _ _ _ _ r h => by simp [wigeonlaw01_RingRestores.j0] at h
  | k + 1 => by
    have ih0 := wigeonlaw01_RingRestores.mono_l k
    · intro y0 y1 y2 y3
      unfold wigeonlaw01_RingRestores.j0
      repeat' first
      | (with_reducible exact ih0 _ _ _ _)
      | (with_reducible exact ring_Make.mono _ _ _)
      | (with_reducible exact wigeonlaw01_known.mono _)
      | (with_reducible exact LeO.refl _)
      | (with_reducible exact LeO.none _)
      | (with_reducible refine LeO.ite ?_ ?_)
      | (with_reducible refine LeO.bind ?_ (fun _ => ?_))
      | exact ih0 _ _ _ _
      | exact ring_Make.mono _ _ _
      | exact wigeonlaw01_known.mono _
      | exact LeO.none _
      | refine LeO.ite ?_ ?_
      | refine LeO.bind ?_ (fun _ => ?_)
theorem wigeonlaw01_RingRestores.mono : ∀ a0 a1 a2 k, LeO (wigeonlaw01_RingRestores.f k a0 a1 a2) (wigeonlaw01_RingRestores.f (k + 1) a0 a1 a2) := by
  intro a0 a1 a2 k
  have ih0 := wigeonlaw01_RingRestores.mono_l k
  unfold wigeonlaw01_RingRestores.f
  repeat' first
      | (with_reducible exact ih0 _ _ _ _)
      | (with_reducible exact ring_Make.mono _ _ _)
      | (with_reducible exact wigeonlaw01_known.mono _)
      | (with_reducible exact LeO.refl _)
      | (with_reducible exact LeO.none _)
      | (with_reducible refine LeO.ite ?_ ?_)
      | (with_reducible refine LeO.bind ?_ (fun _ => ?_))
      | exact ih0 _ _ _ _
      | exact ring_Make.mono _ _ _
      | exact wigeonlaw01_known.mono _
      | exact LeO.none _
      | refine LeO.ite ?_ ?_
      | refine LeO.bind ?_ (fun _ => ?_)
set_option maxHeartbeats 8000000 in
set_option maxRecDepth 100000 in
theorem wigeonlaw01_RingRestores.calls (k : Nat) (a0 : ByteArray) (a1 : Int) (a2 : Int) (r : Bool) (w : World) (h : wigeonlaw01_RingRestores.f k a0 a1 a2 = some r) :
    Calls Try.prog 10 #[.string a0, .int .i64 a1, .int .i64 a2] w fun e w' => e = .returned (.bool r) ∧ Below w.heap.size w w' := by
  have HB := Aside0.mk (Below.refl w.heap.size w)
  have H : ((wigeonlaw01_long.f a0).bind fun t423 => (if t423 = true then ((wigeonlaw01_known.f k).bind fun t424 => (some t424)) else ((ring_Make.f k a0 a1).bind fun bt425 => (if bt425.2 = 0 then (wigeonlaw01_RingRestores.j0 k a2 bt425.1 bt425.2 (decide ((bt425.1.size : Int) < 7))) else (wigeonlaw01_RingRestores.j0 k a2 bt425.1 bt425.2 true))))) = some r := h
  clear h
  replace H := Option.bind_eq_some_iff.mp H
  obtain ⟨t423, A40, H⟩ := H
  replace H : (if t423 = true then ((wigeonlaw01_known.f k).bind fun t424 => (some t424)) else ((ring_Make.f k a0 a1).bind fun bt425 => (if bt425.2 = 0 then (wigeonlaw01_RingRestores.j0 k a2 bt425.1 bt425.2 (decide ((bt425.1.size : Int) < 7))) else (wigeonlaw01_RingRestores.j0 k a2 bt425.1 bt425.2 true)))) = some r := H
  have A4 := Aside0.mk A40
  clear A40
  by_cases c5 : t423 = true
  · subst c5
    have H1 : ((wigeonlaw01_known.f k).bind fun t424 => (some t424)) = some r := by rw [if_pos rfl] at H; exact H
    clear H
    have H := H1
    clear H1
    replace H := Option.bind_eq_some_iff.mp H
    obtain ⟨t424, A60, H⟩ := H
    replace H : (some t424) = some r := H
    have A6 := Aside0.mk A60
    clear A60
    obtain rfl := Option.some.inj H
    go_enter Try.func10, Try.ntmps10
    go_wp2_with (first | (go_at_call 27; (with_reducible refine (wigeonlaw01_long.calls a0 true _ A4.out).mono ?_); rintro e w' ⟨rfl, ⟨nd, rfl⟩⟩; (try first | exact ⟨rfl, _, World.drewN_drewN _ _ _⟩ | exact ⟨rfl, _, Eq.trans (World.drewN_drewN _ _ _) (congrArg (World.drewN _) (Nat.add_assoc _ _ _))⟩)) | (go_at_call 17; (with_reducible refine (wigeonlaw01_known.calls k  t424 _ A6.out).mono ?_); rintro e w7 ⟨rfl, hb⟩; have n0_ := Aside0.mk (below_step (by repeat (first | (with_reducible first | exact HB.out | apply below_alloc | apply pw_below_drewN | apply below_drew1) | exact HB.out)) hb); clear HB; have HB := n0_; clear n0_; (try clear hb); (try clear hb2); (try clear hk); (try clear hi)))
    repeat (go_quiet (first | (go_at_call 27; (with_reducible refine (wigeonlaw01_long.calls a0 true _ A4.out).mono ?_); rintro e w' ⟨rfl, ⟨nd, rfl⟩⟩; (try first | exact ⟨rfl, _, World.drewN_drewN _ _ _⟩ | exact ⟨rfl, _, Eq.trans (World.drewN_drewN _ _ _) (congrArg (World.drewN _) (Nat.add_assoc _ _ _))⟩)) | (go_at_call 17; (with_reducible refine (wigeonlaw01_known.calls k  t424 _ A6.out).mono ?_); rintro e w7 ⟨rfl, hb⟩; have n0_ := Aside0.mk (below_step (by repeat (first | (with_reducible first | exact HB.out | apply below_alloc | apply pw_below_drewN | apply below_drew1) | exact HB.out)) hb); clear HB; have HB := n0_; clear n0_; (try clear hb); (try clear hb2); (try clear hk); (try clear hi))); try go_wp2_with (first | (go_at_call 27; (with_reducible refine (wigeonlaw01_long.calls a0 true _ A4.out).mono ?_); rintro e w' ⟨rfl, ⟨nd, rfl⟩⟩; (try first | exact ⟨rfl, _, World.drewN_drewN _ _ _⟩ | exact ⟨rfl, _, Eq.trans (World.drewN_drewN _ _ _) (congrArg (World.drewN _) (Nat.add_assoc _ _ _))⟩)) | (go_at_call 17; (with_reducible refine (wigeonlaw01_known.calls k  t424 _ A6.out).mono ?_); rintro e w7 ⟨rfl, hb⟩; have n0_ := Aside0.mk (below_step (by repeat (first | (with_reducible first | exact HB.out | apply below_alloc | apply pw_below_drewN | apply below_drew1) | exact HB.out)) hb); clear HB; have HB := n0_; clear n0_; (try clear hb); (try clear hb2); (try clear hk); (try clear hi))))
    go_ret
    exact ⟨by first | rfl | (simp [errW_none, errW_some] <;> rfl) | (simp [*, errW_none, errW_some] <;> rfl), by repeat (first | (with_reducible first | exact HB.out | apply below_alloc | apply pw_below_drewN | apply below_drew1) | exact HB.out)⟩
  · replace c5 := Bool.eq_false_iff.mpr c5
    subst c5
    have H1 : ((ring_Make.f k a0 a1).bind fun bt425 => (if bt425.2 = 0 then (wigeonlaw01_RingRestores.j0 k a2 bt425.1 bt425.2 (decide ((bt425.1.size : Int) < 7))) else (wigeonlaw01_RingRestores.j0 k a2 bt425.1 bt425.2 true))) = some r := by rw [if_neg (show ¬ (false = true) by decide)] at H; exact H
    clear H
    have H := H1
    clear H1
    replace H := Option.bind_eq_some_iff.mp H
    obtain ⟨⟨t425, t426⟩, A80, H⟩ := H
    replace H : (if t426 = 0 then (wigeonlaw01_RingRestores.j0 k a2 t425 t426 (decide ((t425.size : Int) < 7))) else (wigeonlaw01_RingRestores.j0 k a2 t425 t426 true)) = some r := H
    have A8 := Aside0.mk A80
    clear A80
    have HC9 := Aside0.mk H
    clear H
    go_enter Try.func10, Try.ntmps10
    go_upto_region 4 with (first | (go_at_call 27; (with_reducible refine (wigeonlaw01_long.calls a0 false _ A4.out).mono ?_); rintro e w' ⟨rfl, ⟨nd, rfl⟩⟩; (try first | exact ⟨rfl, _, World.drewN_drewN _ _ _⟩ | exact ⟨rfl, _, Eq.trans (World.drewN_drewN _ _ _) (congrArg (World.drewN _) (Nat.add_assoc _ _ _))⟩)) | (go_at_call 38; (with_reducible refine (ring_Make.calls k a0 a1 t425 t426 _ A8.out).mono ?_); rintro e w10 ⟨rfl, hb⟩; have n0_ := Aside0.mk (below_step (by repeat (first | (with_reducible first | exact HB.out | apply below_alloc | apply pw_below_drewN | apply below_drew1) | exact HB.out)) hb); clear HB; have HB := n0_; clear n0_; (try clear hb); (try clear hb2); (try clear hk); (try clear hi)))
    repeat (go_quiet (first | (go_at_call 27; (with_reducible refine (wigeonlaw01_long.calls a0 false _ A4.out).mono ?_); rintro e w' ⟨rfl, ⟨nd, rfl⟩⟩; (try first | exact ⟨rfl, _, World.drewN_drewN _ _ _⟩ | exact ⟨rfl, _, Eq.trans (World.drewN_drewN _ _ _) (congrArg (World.drewN _) (Nat.add_assoc _ _ _))⟩)) | (go_at_call 38; (with_reducible refine (ring_Make.calls k a0 a1 t425 t426 _ A8.out).mono ?_); rintro e w10 ⟨rfl, hb⟩; have n0_ := Aside0.mk (below_step (by repeat (first | (with_reducible first | exact HB.out | apply below_alloc | apply pw_below_drewN | apply below_drew1) | exact HB.out)) hb); clear HB; have HB := n0_; clear n0_; (try clear hb); (try clear hb2); (try clear hk); (try clear hi))); go_upto_region 4 with (first | (go_at_call 27; (with_reducible refine (wigeonlaw01_long.calls a0 false _ A4.out).mono ?_); rintro e w' ⟨rfl, ⟨nd, rfl⟩⟩; (try first | exact ⟨rfl, _, World.drewN_drewN _ _ _⟩ | exact ⟨rfl, _, Eq.trans (World.drewN_drewN _ _ _) (congrArg (World.drewN _) (Nat.add_assoc _ _ _))⟩)) | (go_at_call 38; (with_reducible refine (ring_Make.calls k a0 a1 t425 t426 _ A8.out).mono ?_); rintro e w10 ⟨rfl, hb⟩; have n0_ := Aside0.mk (below_step (by repeat (first | (with_reducible first | exact HB.out | apply below_alloc | apply pw_below_drewN | apply below_drew1) | exact HB.out)) hb); clear HB; have HB := n0_; clear n0_; (try clear hb); (try clear hb2); (try clear hk); (try clear hi))))
    (try simp only [Act.put, List.setIfInBounds_toArray, List.set_cons_zero, List.set_cons_succ])
    go_cut [31] (fun v31 wc => ∃ (kq : Nat) (x31_8 : Bool), v31 = .bool x31_8 ∧ Aside0 (wigeonlaw01_RingRestores.j0 kq a2 t425 t426 x31_8 = some r) ∧ Aside0 (kq ≤ k) ∧ Aside0 (Below w.heap.size w wc))
    case first =>
      have H := HC9.out
      clear HC9
      by_cases c11 : t426 = 0
      · rw [if_pos c11] at H
        have c11b0 : (t426 == 0) = true := beq_iff_eq.mpr c11
        have c11b1 : (t426 != 0) = false := bne_eq_false_iff_eq.mpr c11
        clear c11
        (first | rw [c11b0] | (simp only [i64_w, i32_w]; rw [c11b0]) | skip)
        have H' := Aside0.mk H
        clear H
        go_wp2
        repeat (go_quiet (fail); try go_wp2)
        go_meet
        case rel => exact ⟨_, (decide ((t425.size : Int) < 7)), (by first | rfl | (simp; done) | (simp [*]; done)), H', ⟨by first | omega | exact Nat.le_refl _⟩, ⟨by repeat (first | (with_reducible first | exact HB.out | apply below_alloc | apply pw_below_drewN | apply below_drew1) | exact HB.out)⟩⟩
      · rw [if_neg c11] at H
        have c11b0 : (t426 == 0) = false := beq_eq_false_iff_ne.mpr c11
        have c11b1 : (t426 != 0) = true := bne_iff_ne.mpr c11
        (first | rw [c11b0] | (simp only [i64_w, i32_w]; rw [c11b0]) | skip)
        have H' := Aside0.mk H
        clear H
        go_wp2
        repeat (go_quiet (fail); try go_wp2)
        go_meet
        case rel => exact ⟨_, (true), (by first | rfl | (simp; done) | (simp [*]; done)), H', ⟨by first | omega | exact Nat.le_refl _⟩, ⟨by repeat (first | (with_reducible first | exact HB.out | apply below_alloc | apply pw_below_drewN | apply below_drew1) | exact HB.out)⟩⟩
    case rest =>
      clear HC9
      try clear c1
      try clear p2
      try clear c5
      try clear c10
      try clear c11
      try clear c11b0
      try clear c11b1
      obtain ⟨kq, x31_8, rfl, HA, HJ8, HB⟩ := hcut
      cases kq with
      | zero => exact absurd HA.out (by simp [wigeonlaw01_RingRestores.j0])
      | succ kj8 =>
        have H := HA.out
        clear HA
        simp only [wigeonlaw01_RingRestores.j0] at H
        by_cases c12 : x31_8 = true
        · subst c12
          have H1 : (if t426 = 0 then (some false) else ((wigeonlaw01_known.f kj8).bind fun t427 => (some t427))) = some r := by rw [if_pos rfl] at H; exact H
          clear H
          have H := H1
          clear H1
          by_cases c13 : t426 = 0
          · rw [if_pos c13] at H
            have c13b0 : (t426 == 0) = true := beq_iff_eq.mpr c13
            have c13b1 : (t426 != 0) = false := bne_eq_false_iff_eq.mpr c13
            clear c13
            obtain rfl := Option.some.inj H
            go_wp2
            repeat (go_quiet (fail); try go_wp2)
            go_ret
            exact ⟨by first | rfl | (simp [errW_none, errW_some] <;> rfl) | (simp [*, errW_none, errW_some] <;> rfl), by repeat (first | (with_reducible first | exact HB.out | apply below_alloc | apply pw_below_drewN | apply below_drew1) | exact HB.out)⟩
          · rw [if_neg c13] at H
            have c13b0 : (t426 == 0) = false := beq_eq_false_iff_ne.mpr c13
            have c13b1 : (t426 != 0) = true := bne_iff_ne.mpr c13
            replace H := Option.bind_eq_some_iff.mp H
            obtain ⟨t427, A140, H⟩ := H
            replace H : (some t427) = some r := H
            have A14 := Aside0.mk A140
            clear A140
            obtain rfl := Option.some.inj H
            go_wp2_with (first | (go_at_call 17; (with_reducible refine (wigeonlaw01_known.calls kj8  t427 _ A14.out).mono ?_); rintro e w15 ⟨rfl, hb⟩; have n0_ := Aside0.mk (below_step (by repeat (first | (with_reducible first | exact HB.out | apply below_alloc | apply pw_below_drewN | apply below_drew1) | exact HB.out)) hb); clear HB; have HB := n0_; clear n0_; (try clear hb); (try clear hb2); (try clear hk); (try clear hi)))
            repeat (go_quiet (first | (go_at_call 17; (with_reducible refine (wigeonlaw01_known.calls kj8  t427 _ A14.out).mono ?_); rintro e w15 ⟨rfl, hb⟩; have n0_ := Aside0.mk (below_step (by repeat (first | (with_reducible first | exact HB.out | apply below_alloc | apply pw_below_drewN | apply below_drew1) | exact HB.out)) hb); clear HB; have HB := n0_; clear n0_; (try clear hb); (try clear hb2); (try clear hk); (try clear hi))); try go_wp2_with (first | (go_at_call 17; (with_reducible refine (wigeonlaw01_known.calls kj8  t427 _ A14.out).mono ?_); rintro e w15 ⟨rfl, hb⟩; have n0_ := Aside0.mk (below_step (by repeat (first | (with_reducible first | exact HB.out | apply below_alloc | apply pw_below_drewN | apply below_drew1) | exact HB.out)) hb); clear HB; have HB := n0_; clear n0_; (try clear hb); (try clear hb2); (try clear hk); (try clear hi))))
            go_ret
            exact ⟨by first | rfl | (simp [errW_none, errW_some] <;> rfl) | (simp [*, errW_none, errW_some] <;> rfl), by repeat (first | (with_reducible first | exact HB.out | apply below_alloc | apply pw_below_drewN | apply below_drew1) | exact HB.out)⟩
        · replace c12 := Bool.eq_false_iff.mpr c12
          subst c12
          have H1 : (if 0 ≤ (wrap64 ((wrap64 ((t425.size : Int) - 6)) + (wrap64 (Int.tmod (IntKind.u64.wrap (a2)) 6)))) then (if (wrap64 ((wrap64 ((t425.size : Int) - 6)) + (wrap64 (Int.tmod (IntKind.u64.wrap (a2)) 6)))) ≤ (t425.size : Int) then (if (t425.extract 0 ((wrap64 ((wrap64 ((t425.size : Int) - 6)) + (wrap64 (Int.tmod (IntKind.u64.wrap (a2)) 6)))) : Int).toNat).size + 1 ≤ 9223372036854775807 then (if 0 ≤ (wrap64 ((wrap64 ((wrap64 ((t425.size : Int) - 6)) + (wrap64 (Int.tmod (IntKind.u64.wrap (a2)) 6)))) + 1)) then (if (wrap64 ((wrap64 ((wrap64 ((t425.size : Int) - 6)) + (wrap64 (Int.tmod (IntKind.u64.wrap (a2)) 6)))) + 1)) ≤ (t425.size : Int) then (if ((t425.extract 0 ((wrap64 ((wrap64 ((t425.size : Int) - 6)) + (wrap64 (Int.tmod (IntKind.u64.wrap (a2)) 6)))) : Int).toNat) ++ (⟨#[63]⟩ : ByteArray)).size + (t425.extract ((wrap64 ((wrap64 ((wrap64 ((t425.size : Int) - 6)) + (wrap64 (Int.tmod (IntKind.u64.wrap (a2)) 6)))) + 1)) : Int).toNat t425.size).size ≤ 9223372036854775807 then ((ring_Count.f (((t425.extract 0 ((wrap64 ((wrap64 ((t425.size : Int) - 6)) + (wrap64 (Int.tmod (IntKind.u64.wrap (a2)) 6)))) : Int).toNat) ++ (⟨#[63]⟩ : ByteArray)) ++ (t425.extract ((wrap64 ((wrap64 ((wrap64 ((t425.size : Int) - 6)) + (wrap64 (Int.tmod (IntKind.u64.wrap (a2)) 6)))) + 1)) : Int).toNat t425.size))).bind fun bt428 => ((ring_First.f (((t425.extract 0 ((wrap64 ((wrap64 ((t425.size : Int) - 6)) + (wrap64 (Int.tmod (IntKind.u64.wrap (a2)) 6)))) : Int).toNat) ++ (⟨#[63]⟩ : ByteArray)) ++ (t425.extract ((wrap64 ((wrap64 ((wrap64 ((t425.size : Int) - 6)) + (wrap64 (Int.tmod (IntKind.u64.wrap (a2)) 6)))) + 1)) : Int).toNat t425.size))).bind fun bt430 => (if bt428.2 = 0 then (if bt428.1 = 1 then (if bt430.2.2 = 0 then (if bt430.2.1 = true then (if bt430.1.toList = t425.toList then ((wigeonlaw01_known.f kj8).bind fun t433 => (some t433)) else (some false)) else (some false)) else (some false)) else (some false)) else (some false)))) else (none)) else (none)) else (none)) else (none)) else (none)) else (none)) = some r := by rw [if_neg (show ¬ (false = true) by decide)] at H; exact H
          clear H
          have H := H1
          clear H1
          obtain ⟨ji16, hji16⟩ : ∃ j_ : Int, (wrap64 ((wrap64 ((t425.size : Int) - 6)) + (wrap64 (Int.tmod (IntKind.u64.wrap (a2)) 6)))) = j_ := ⟨_, rfl⟩
          replace H : (if 0 ≤ (ji16) then (if (ji16) ≤ (t425.size : Int) then (if (t425.extract 0 ((ji16) : Int).toNat).size + 1 ≤ 9223372036854775807 then (if 0 ≤ (wrap64 ((ji16) + 1)) then (if (wrap64 ((ji16) + 1)) ≤ (t425.size : Int) then (if ((t425.extract 0 ((ji16) : Int).toNat) ++ (⟨#[63]⟩ : ByteArray)).size + (t425.extract ((wrap64 ((ji16) + 1)) : Int).toNat t425.size).size ≤ 9223372036854775807 then ((ring_Count.f (((t425.extract 0 ((ji16) : Int).toNat) ++ (⟨#[63]⟩ : ByteArray)) ++ (t425.extract ((wrap64 ((ji16) + 1)) : Int).toNat t425.size))).bind fun bt428 => ((ring_First.f (((t425.extract 0 ((ji16) : Int).toNat) ++ (⟨#[63]⟩ : ByteArray)) ++ (t425.extract ((wrap64 ((ji16) + 1)) : Int).toNat t425.size))).bind fun bt430 => (if bt428.2 = 0 then (if bt428.1 = 1 then (if bt430.2.2 = 0 then (if bt430.2.1 = true then (if bt430.1.toList = t425.toList then ((wigeonlaw01_known.f kj8).bind fun t433 => (some t433)) else (some false)) else (some false)) else (some false)) else (some false)) else (some false)))) else (none)) else (none)) else (none)) else (none)) else (none)) else (none)) = some r := by first | (rw [hji16] at H; exact H) | (simp only [hji16] at H ⊢; exact H)
          have hji16w : (IntKind.i64.wrap ((wrap64 ((t425.size : Int) - 6)) + (wrap64 (Int.tmod (IntKind.u64.wrap (a2)) 6)))) = ji16 := (i64_w _).trans hji16
          by_cases c17 : 0 ≤ (ji16)
          · rw [if_pos c17] at H
            have c17b0 := eq_true c17
            have c17b1 : decide (0 ≤ (ji16)) = true := decide_eq_true c17
            clear c17
            by_cases c18 : (ji16) ≤ (t425.size : Int)
            · rw [if_pos c18] at H
              have c18b0 := eq_true c18
              have c18b1 : decide ((ji16) ≤ (t425.size : Int)) = true := decide_eq_true c18
              clear c18
              by_cases c19 : (t425.extract 0 ((ji16) : Int).toNat).size + 1 ≤ 9223372036854775807
              · rw [if_pos c19] at H
                have c19b0 := eq_true c19
                have c19b1 : decide ((t425.extract 0 ((ji16) : Int).toNat).size + 1 ≤ 9223372036854775807) = true := decide_eq_true c19
                try have c19b2 : (9223372036854775807 < (t425.extract 0 ((ji16) : Int).toNat).size + 1) = False := eq_false (Nat.not_lt.2 c19)
                have c19n : (9223372036854775807 < (ji16).toNat + 1) = False := eq_false (Nat.not_lt.2 (by have h := c19; have h2 := of_decide_eq_true c18b1; rw [ByteArray.size_extract] at h; omega))
                obtain ⟨ji20, hji20⟩ : ∃ j_ : Int, (wrap64 ((ji16) + 1)) = j_ := ⟨_, rfl⟩
                replace H : (if 0 ≤ (ji20) then (if (ji20) ≤ (t425.size : Int) then (if ((t425.extract 0 ((ji16) : Int).toNat) ++ (⟨#[63]⟩ : ByteArray)).size + (t425.extract ((ji20) : Int).toNat t425.size).size ≤ 9223372036854775807 then ((ring_Count.f (((t425.extract 0 ((ji16) : Int).toNat) ++ (⟨#[63]⟩ : ByteArray)) ++ (t425.extract ((ji20) : Int).toNat t425.size))).bind fun bt428 => ((ring_First.f (((t425.extract 0 ((ji16) : Int).toNat) ++ (⟨#[63]⟩ : ByteArray)) ++ (t425.extract ((ji20) : Int).toNat t425.size))).bind fun bt430 => (if bt428.2 = 0 then (if bt428.1 = 1 then (if bt430.2.2 = 0 then (if bt430.2.1 = true then (if bt430.1.toList = t425.toList then ((wigeonlaw01_known.f kj8).bind fun t433 => (some t433)) else (some false)) else (some false)) else (some false)) else (some false)) else (some false)))) else (none)) else (none)) else (none)) = some r := by first | (rw [hji20] at H; exact H) | (simp only [hji20] at H ⊢; exact H)
                have hji20w : (IntKind.i64.wrap ((ji16) + 1)) = ji20 := (i64_w _).trans hji20
                by_cases c21 : 0 ≤ (ji20)
                · rw [if_pos c21] at H
                  have c21b0 := eq_true c21
                  have c21b1 : decide (0 ≤ (ji20)) = true := decide_eq_true c21
                  clear c21
                  by_cases c22 : (ji20) ≤ (t425.size : Int)
                  · rw [if_pos c22] at H
                    have c22b0 := eq_true c22
                    have c22b1 : decide ((ji20) ≤ (t425.size : Int)) = true := decide_eq_true c22
                    clear c22
                    by_cases c23 : ((t425.extract 0 ((ji16) : Int).toNat) ++ (⟨#[63]⟩ : ByteArray)).size + (t425.extract ((ji20) : Int).toNat t425.size).size ≤ 9223372036854775807
                    · rw [if_pos c23] at H
                      have c23b0 := eq_true c23
                      have c23b1 : decide (((t425.extract 0 ((ji16) : Int).toNat) ++ (⟨#[63]⟩ : ByteArray)).size + (t425.extract ((ji20) : Int).toNat t425.size).size ≤ 9223372036854775807) = true := decide_eq_true c23
                      try have c23b2 : (9223372036854775807 < ((t425.extract 0 ((ji16) : Int).toNat) ++ (⟨#[63]⟩ : ByteArray)).size + (t425.extract ((ji20) : Int).toNat t425.size).size) = False := eq_false (Nat.not_lt.2 c23)
                      replace H := Option.bind_eq_some_iff.mp H
                      obtain ⟨⟨t428, t429⟩, A240, H⟩ := H
                      replace H : ((ring_First.f (((t425.extract 0 ((ji16) : Int).toNat) ++ (⟨#[63]⟩ : ByteArray)) ++ (t425.extract ((ji20) : Int).toNat t425.size))).bind fun bt430 => (if t429 = 0 then (if t428 = 1 then (if bt430.2.2 = 0 then (if bt430.2.1 = true then (if bt430.1.toList = t425.toList then ((wigeonlaw01_known.f kj8).bind fun t433 => (some t433)) else (some false)) else (some false)) else (some false)) else (some false)) else (some false))) = some r := H
                      have A24 := Aside0.mk A240
                      clear A240
                      replace H := Option.bind_eq_some_iff.mp H
                      obtain ⟨⟨t430, t431, t432⟩, A250, H⟩ := H
                      replace H : (if t429 = 0 then (if t428 = 1 then (if t432 = 0 then (if t431 = true then (if t430.toList = t425.toList then ((wigeonlaw01_known.f kj8).bind fun t433 => (some t433)) else (some false)) else (some false)) else (some false)) else (some false)) else (some false)) = some r := H
                      have A25 := Aside0.mk A250
                      clear A250
                      by_cases c26 : t429 = 0
                      · rw [if_pos c26] at H
                        have c26b0 : (t429 == 0) = true := beq_iff_eq.mpr c26
                        have c26b1 : (t429 != 0) = false := bne_eq_false_iff_eq.mpr c26
                        clear c26
                        by_cases c27 : t428 = 1
                        · rw [if_pos c27] at H
                          have c27b0 : (t428 == 1) = true := beq_iff_eq.mpr c27
                          have c27b1 : (t428 != 1) = false := bne_eq_false_iff_eq.mpr c27
                          clear c27
                          by_cases c28 : t432 = 0
                          · rw [if_pos c28] at H
                            have c28b0 : (t432 == 0) = true := beq_iff_eq.mpr c28
                            have c28b1 : (t432 != 0) = false := bne_eq_false_iff_eq.mpr c28
                            clear c28
                            by_cases c29 : t431 = true
                            · subst c29
                              have H1 : (if t430.toList = t425.toList then ((wigeonlaw01_known.f kj8).bind fun t433 => (some t433)) else (some false)) = some r := by rw [if_pos rfl] at H; exact H
                              clear H
                              have H := H1
                              clear H1
                              by_cases c30 : t430.toList = t425.toList
                              · rw [if_pos c30] at H
                                have c30b0 : (t430.toList == t425.toList) = true := beq_iff_eq.mpr c30
                                have c30b1 : (t430.toList != t425.toList) = false := bne_eq_false_iff_eq.mpr c30
                                clear c30
                                replace H := Option.bind_eq_some_iff.mp H
                                obtain ⟨t433, A310, H⟩ := H
                                replace H : (some t433) = some r := H
                                have A31 := Aside0.mk A310
                                clear A310
                                obtain rfl := Option.some.inj H
                                go_wp2_with (first | (go_at_call 40; (with_reducible refine (ring_Count.calls (((t425.extract 0 ((ji16) : Int).toNat) ++ (⟨#[63]⟩ : ByteArray)) ++ (t425.extract ((ji20) : Int).toNat t425.size)) t428 t429 _ A24.out).mono ?_); rintro e w32 ⟨rfl, hb⟩; have n0_ := Aside0.mk (below_step (by repeat (first | (with_reducible first | exact HB.out | apply below_alloc | apply pw_below_drewN | apply below_drew1) | exact HB.out)) hb); clear HB; have HB := n0_; clear n0_; (try clear hb); (try clear hb2); (try clear hk); (try clear hi)) | (go_at_call 41; (with_reducible refine (ring_First.calls (((t425.extract 0 ((ji16) : Int).toNat) ++ (⟨#[63]⟩ : ByteArray)) ++ (t425.extract ((ji20) : Int).toNat t425.size)) t430 true t432 _ A25.out).mono ?_); rintro e w33 ⟨rfl, hb⟩; have n0_ := Aside0.mk (below_step (by repeat (first | (with_reducible first | exact HB.out | apply below_alloc | apply pw_below_drewN | apply below_drew1) | exact HB.out)) hb); clear HB; have HB := n0_; clear n0_; (try clear hb); (try clear hb2); (try clear hk); (try clear hi)) | (go_at_call 17; (with_reducible refine (wigeonlaw01_known.calls kj8  t433 _ A31.out).mono ?_); rintro e w34 ⟨rfl, hb⟩; have n0_ := Aside0.mk (below_step (by repeat (first | (with_reducible first | exact HB.out | apply below_alloc | apply pw_below_drewN | apply below_drew1) | exact HB.out)) hb); clear HB; have HB := n0_; clear n0_; (try clear hb); (try clear hb2); (try clear hk); (try clear hi)))
                                repeat (go_quiet (first | (go_at_call 40; (with_reducible refine (ring_Count.calls (((t425.extract 0 ((ji16) : Int).toNat) ++ (⟨#[63]⟩ : ByteArray)) ++ (t425.extract ((ji20) : Int).toNat t425.size)) t428 t429 _ A24.out).mono ?_); rintro e w32 ⟨rfl, hb⟩; have n0_ := Aside0.mk (below_step (by repeat (first | (with_reducible first | exact HB.out | apply below_alloc | apply pw_below_drewN | apply below_drew1) | exact HB.out)) hb); clear HB; have HB := n0_; clear n0_; (try clear hb); (try clear hb2); (try clear hk); (try clear hi)) | (go_at_call 41; (with_reducible refine (ring_First.calls (((t425.extract 0 ((ji16) : Int).toNat) ++ (⟨#[63]⟩ : ByteArray)) ++ (t425.extract ((ji20) : Int).toNat t425.size)) t430 true t432 _ A25.out).mono ?_); rintro e w33 ⟨rfl, hb⟩; have n0_ := Aside0.mk (below_step (by repeat (first | (with_reducible first | exact HB.out | apply below_alloc | apply pw_below_drewN | apply below_drew1) | exact HB.out)) hb); clear HB; have HB := n0_; clear n0_; (try clear hb); (try clear hb2); (try clear hk); (try clear hi)) | (go_at_call 17; (with_reducible refine (wigeonlaw01_known.calls kj8  t433 _ A31.out).mono ?_); rintro e w34 ⟨rfl, hb⟩; have n0_ := Aside0.mk (below_step (by repeat (first | (with_reducible first | exact HB.out | apply below_alloc | apply pw_below_drewN | apply below_drew1) | exact HB.out)) hb); clear HB; have HB := n0_; clear n0_; (try clear hb); (try clear hb2); (try clear hk); (try clear hi))); try go_wp2_with (first | (go_at_call 40; (with_reducible refine (ring_Count.calls (((t425.extract 0 ((ji16) : Int).toNat) ++ (⟨#[63]⟩ : ByteArray)) ++ (t425.extract ((ji20) : Int).toNat t425.size)) t428 t429 _ A24.out).mono ?_); rintro e w32 ⟨rfl, hb⟩; have n0_ := Aside0.mk (below_step (by repeat (first | (with_reducible first | exact HB.out | apply below_alloc | apply pw_below_drewN | apply below_drew1) | exact HB.out)) hb); clear HB; have HB := n0_; clear n0_; (try clear hb); (try clear hb2); (try clear hk); (try clear hi)) | (go_at_call 41; (with_reducible refine (ring_First.calls (((t425.extract 0 ((ji16) : Int).toNat) ++ (⟨#[63]⟩ : ByteArray)) ++ (t425.extract ((ji20) : Int).toNat t425.size)) t430 true t432 _ A25.out).mono ?_); rintro e w33 ⟨rfl, hb⟩; have n0_ := Aside0.mk (below_step (by repeat (first | (with_reducible first | exact HB.out | apply below_alloc | apply pw_below_drewN | apply below_drew1) | exact HB.out)) hb); clear HB; have HB := n0_; clear n0_; (try clear hb); (try clear hb2); (try clear hk); (try clear hi)) | (go_at_call 17; (with_reducible refine (wigeonlaw01_known.calls kj8  t433 _ A31.out).mono ?_); rintro e w34 ⟨rfl, hb⟩; have n0_ := Aside0.mk (below_step (by repeat (first | (with_reducible first | exact HB.out | apply below_alloc | apply pw_below_drewN | apply below_drew1) | exact HB.out)) hb); clear HB; have HB := n0_; clear n0_; (try clear hb); (try clear hb2); (try clear hk); (try clear hi))))
                                go_ret
                                exact ⟨by first | rfl | (simp [errW_none, errW_some] <;> rfl) | (simp only [← hji16, ← hji20]; first | rfl | (simp [errW_none, errW_some] <;> rfl)) | (simp [*, errW_none, errW_some] <;> rfl), by repeat (first | (with_reducible first | exact HB.out | apply below_alloc | apply pw_below_drewN | apply below_drew1) | exact HB.out)⟩
                              · rw [if_neg c30] at H
                                have c30b0 : (t430.toList == t425.toList) = false := beq_eq_false_iff_ne.mpr c30
                                have c30b1 : (t430.toList != t425.toList) = true := bne_iff_ne.mpr c30
                                obtain rfl := Option.some.inj H
                                go_wp2_with (first | (go_at_call 40; (with_reducible refine (ring_Count.calls (((t425.extract 0 ((ji16) : Int).toNat) ++ (⟨#[63]⟩ : ByteArray)) ++ (t425.extract ((ji20) : Int).toNat t425.size)) t428 t429 _ A24.out).mono ?_); rintro e w35 ⟨rfl, hb⟩; have n0_ := Aside0.mk (below_step (by repeat (first | (with_reducible first | exact HB.out | apply below_alloc | apply pw_below_drewN | apply below_drew1) | exact HB.out)) hb); clear HB; have HB := n0_; clear n0_; (try clear hb); (try clear hb2); (try clear hk); (try clear hi)) | (go_at_call 41; (with_reducible refine (ring_First.calls (((t425.extract 0 ((ji16) : Int).toNat) ++ (⟨#[63]⟩ : ByteArray)) ++ (t425.extract ((ji20) : Int).toNat t425.size)) t430 true t432 _ A25.out).mono ?_); rintro e w36 ⟨rfl, hb⟩; have n0_ := Aside0.mk (below_step (by repeat (first | (with_reducible first | exact HB.out | apply below_alloc | apply pw_below_drewN | apply below_drew1) | exact HB.out)) hb); clear HB; have HB := n0_; clear n0_; (try clear hb); (try clear hb2); (try clear hk); (try clear hi)))
                                repeat (go_quiet (first | (go_at_call 40; (with_reducible refine (ring_Count.calls (((t425.extract 0 ((ji16) : Int).toNat) ++ (⟨#[63]⟩ : ByteArray)) ++ (t425.extract ((ji20) : Int).toNat t425.size)) t428 t429 _ A24.out).mono ?_); rintro e w35 ⟨rfl, hb⟩; have n0_ := Aside0.mk (below_step (by repeat (first | (with_reducible first | exact HB.out | apply below_alloc | apply pw_below_drewN | apply below_drew1) | exact HB.out)) hb); clear HB; have HB := n0_; clear n0_; (try clear hb); (try clear hb2); (try clear hk); (try clear hi)) | (go_at_call 41; (with_reducible refine (ring_First.calls (((t425.extract 0 ((ji16) : Int).toNat) ++ (⟨#[63]⟩ : ByteArray)) ++ (t425.extract ((ji20) : Int).toNat t425.size)) t430 true t432 _ A25.out).mono ?_); rintro e w36 ⟨rfl, hb⟩; have n0_ := Aside0.mk (below_step (by repeat (first | (with_reducible first | exact HB.out | apply below_alloc | apply pw_below_drewN | apply below_drew1) | exact HB.out)) hb); clear HB; have HB := n0_; clear n0_; (try clear hb); (try clear hb2); (try clear hk); (try clear hi))); try go_wp2_with (first | (go_at_call 40; (with_reducible refine (ring_Count.calls (((t425.extract 0 ((ji16) : Int).toNat) ++ (⟨#[63]⟩ : ByteArray)) ++ (t425.extract ((ji20) : Int).toNat t425.size)) t428 t429 _ A24.out).mono ?_); rintro e w35 ⟨rfl, hb⟩; have n0_ := Aside0.mk (below_step (by repeat (first | (with_reducible first | exact HB.out | apply below_alloc | apply pw_below_drewN | apply below_drew1) | exact HB.out)) hb); clear HB; have HB := n0_; clear n0_; (try clear hb); (try clear hb2); (try clear hk); (try clear hi)) | (go_at_call 41; (with_reducible refine (ring_First.calls (((t425.extract 0 ((ji16) : Int).toNat) ++ (⟨#[63]⟩ : ByteArray)) ++ (t425.extract ((ji20) : Int).toNat t425.size)) t430 true t432 _ A25.out).mono ?_); rintro e w36 ⟨rfl, hb⟩; have n0_ := Aside0.mk (below_step (by repeat (first | (with_reducible first | exact HB.out | apply below_alloc | apply pw_below_drewN | apply below_drew1) | exact HB.out)) hb); clear HB; have HB := n0_; clear n0_; (try clear hb); (try clear hb2); (try clear hk); (try clear hi))))
                                go_ret
                                exact ⟨by first | rfl | (simp [errW_none, errW_some] <;> rfl) | (simp only [← hji16, ← hji20]; first | rfl | (simp [errW_none, errW_some] <;> rfl)) | (simp [*, errW_none, errW_some] <;> rfl), by repeat (first | (with_reducible first | exact HB.out | apply below_alloc | apply pw_below_drewN | apply below_drew1) | exact HB.out)⟩
                            · replace c29 := Bool.eq_false_iff.mpr c29
                              subst c29
                              have H1 : (some false) = some r := by rw [if_neg (show ¬ (false = true) by decide)] at H; exact H
                              clear H
                              have H := H1
                              clear H1
                              obtain rfl := Option.some.inj H
                              go_wp2_with (first | (go_at_call 40; (with_reducible refine (ring_Count.calls (((t425.extract 0 ((ji16) : Int).toNat) ++ (⟨#[63]⟩ : ByteArray)) ++ (t425.extract ((ji20) : Int).toNat t425.size)) t428 t429 _ A24.out).mono ?_); rintro e w37 ⟨rfl, hb⟩; have n0_ := Aside0.mk (below_step (by repeat (first | (with_reducible first | exact HB.out | apply below_alloc | apply pw_below_drewN | apply below_drew1) | exact HB.out)) hb); clear HB; have HB := n0_; clear n0_; (try clear hb); (try clear hb2); (try clear hk); (try clear hi)) | (go_at_call 41; (with_reducible refine (ring_First.calls (((t425.extract 0 ((ji16) : Int).toNat) ++ (⟨#[63]⟩ : ByteArray)) ++ (t425.extract ((ji20) : Int).toNat t425.size)) t430 false t432 _ A25.out).mono ?_); rintro e w38 ⟨rfl, hb⟩; have n0_ := Aside0.mk (below_step (by repeat (first | (with_reducible first | exact HB.out | apply below_alloc | apply pw_below_drewN | apply below_drew1) | exact HB.out)) hb); clear HB; have HB := n0_; clear n0_; (try clear hb); (try clear hb2); (try clear hk); (try clear hi)))
                              repeat (go_quiet (first | (go_at_call 40; (with_reducible refine (ring_Count.calls (((t425.extract 0 ((ji16) : Int).toNat) ++ (⟨#[63]⟩ : ByteArray)) ++ (t425.extract ((ji20) : Int).toNat t425.size)) t428 t429 _ A24.out).mono ?_); rintro e w37 ⟨rfl, hb⟩; have n0_ := Aside0.mk (below_step (by repeat (first | (with_reducible first | exact HB.out | apply below_alloc | apply pw_below_drewN | apply below_drew1) | exact HB.out)) hb); clear HB; have HB := n0_; clear n0_; (try clear hb); (try clear hb2); (try clear hk); (try clear hi)) | (go_at_call 41; (with_reducible refine (ring_First.calls (((t425.extract 0 ((ji16) : Int).toNat) ++ (⟨#[63]⟩ : ByteArray)) ++ (t425.extract ((ji20) : Int).toNat t425.size)) t430 false t432 _ A25.out).mono ?_); rintro e w38 ⟨rfl, hb⟩; have n0_ := Aside0.mk (below_step (by repeat (first | (with_reducible first | exact HB.out | apply below_alloc | apply pw_below_drewN | apply below_drew1) | exact HB.out)) hb); clear HB; have HB := n0_; clear n0_; (try clear hb); (try clear hb2); (try clear hk); (try clear hi))); try go_wp2_with (first | (go_at_call 40; (with_reducible refine (ring_Count.calls (((t425.extract 0 ((ji16) : Int).toNat) ++ (⟨#[63]⟩ : ByteArray)) ++ (t425.extract ((ji20) : Int).toNat t425.size)) t428 t429 _ A24.out).mono ?_); rintro e w37 ⟨rfl, hb⟩; have n0_ := Aside0.mk (below_step (by repeat (first | (with_reducible first | exact HB.out | apply below_alloc | apply pw_below_drewN | apply below_drew1) | exact HB.out)) hb); clear HB; have HB := n0_; clear n0_; (try clear hb); (try clear hb2); (try clear hk); (try clear hi)) | (go_at_call 41; (with_reducible refine (ring_First.calls (((t425.extract 0 ((ji16) : Int).toNat) ++ (⟨#[63]⟩ : ByteArray)) ++ (t425.extract ((ji20) : Int).toNat t425.size)) t430 false t432 _ A25.out).mono ?_); rintro e w38 ⟨rfl, hb⟩; have n0_ := Aside0.mk (below_step (by repeat (first | (with_reducible first | exact HB.out | apply below_alloc | apply pw_below_drewN | apply below_drew1) | exact HB.out)) hb); clear HB; have HB := n0_; clear n0_; (try clear hb); (try clear hb2); (try clear hk); (try clear hi))))
                              go_ret
                              exact ⟨by first | rfl | (simp [errW_none, errW_some] <;> rfl) | (simp only [← hji16, ← hji20]; first | rfl | (simp [errW_none, errW_some] <;> rfl)) | (simp [*, errW_none, errW_some] <;> rfl), by repeat (first | (with_reducible first | exact HB.out | apply below_alloc | apply pw_below_drewN | apply below_drew1) | exact HB.out)⟩
                          · rw [if_neg c28] at H
                            have c28b0 : (t432 == 0) = false := beq_eq_false_iff_ne.mpr c28
                            have c28b1 : (t432 != 0) = true := bne_iff_ne.mpr c28
                            obtain rfl := Option.some.inj H
                            go_wp2_with (first | (go_at_call 40; (with_reducible refine (ring_Count.calls (((t425.extract 0 ((ji16) : Int).toNat) ++ (⟨#[63]⟩ : ByteArray)) ++ (t425.extract ((ji20) : Int).toNat t425.size)) t428 t429 _ A24.out).mono ?_); rintro e w39 ⟨rfl, hb⟩; have n0_ := Aside0.mk (below_step (by repeat (first | (with_reducible first | exact HB.out | apply below_alloc | apply pw_below_drewN | apply below_drew1) | exact HB.out)) hb); clear HB; have HB := n0_; clear n0_; (try clear hb); (try clear hb2); (try clear hk); (try clear hi)) | (go_at_call 41; (with_reducible refine (ring_First.calls (((t425.extract 0 ((ji16) : Int).toNat) ++ (⟨#[63]⟩ : ByteArray)) ++ (t425.extract ((ji20) : Int).toNat t425.size)) t430 t431 t432 _ A25.out).mono ?_); rintro e w40 ⟨rfl, hb⟩; have n0_ := Aside0.mk (below_step (by repeat (first | (with_reducible first | exact HB.out | apply below_alloc | apply pw_below_drewN | apply below_drew1) | exact HB.out)) hb); clear HB; have HB := n0_; clear n0_; (try clear hb); (try clear hb2); (try clear hk); (try clear hi)))
                            repeat (go_quiet (first | (go_at_call 40; (with_reducible refine (ring_Count.calls (((t425.extract 0 ((ji16) : Int).toNat) ++ (⟨#[63]⟩ : ByteArray)) ++ (t425.extract ((ji20) : Int).toNat t425.size)) t428 t429 _ A24.out).mono ?_); rintro e w39 ⟨rfl, hb⟩; have n0_ := Aside0.mk (below_step (by repeat (first | (with_reducible first | exact HB.out | apply below_alloc | apply pw_below_drewN | apply below_drew1) | exact HB.out)) hb); clear HB; have HB := n0_; clear n0_; (try clear hb); (try clear hb2); (try clear hk); (try clear hi)) | (go_at_call 41; (with_reducible refine (ring_First.calls (((t425.extract 0 ((ji16) : Int).toNat) ++ (⟨#[63]⟩ : ByteArray)) ++ (t425.extract ((ji20) : Int).toNat t425.size)) t430 t431 t432 _ A25.out).mono ?_); rintro e w40 ⟨rfl, hb⟩; have n0_ := Aside0.mk (below_step (by repeat (first | (with_reducible first | exact HB.out | apply below_alloc | apply pw_below_drewN | apply below_drew1) | exact HB.out)) hb); clear HB; have HB := n0_; clear n0_; (try clear hb); (try clear hb2); (try clear hk); (try clear hi))); try go_wp2_with (first | (go_at_call 40; (with_reducible refine (ring_Count.calls (((t425.extract 0 ((ji16) : Int).toNat) ++ (⟨#[63]⟩ : ByteArray)) ++ (t425.extract ((ji20) : Int).toNat t425.size)) t428 t429 _ A24.out).mono ?_); rintro e w39 ⟨rfl, hb⟩; have n0_ := Aside0.mk (below_step (by repeat (first | (with_reducible first | exact HB.out | apply below_alloc | apply pw_below_drewN | apply below_drew1) | exact HB.out)) hb); clear HB; have HB := n0_; clear n0_; (try clear hb); (try clear hb2); (try clear hk); (try clear hi)) | (go_at_call 41; (with_reducible refine (ring_First.calls (((t425.extract 0 ((ji16) : Int).toNat) ++ (⟨#[63]⟩ : ByteArray)) ++ (t425.extract ((ji20) : Int).toNat t425.size)) t430 t431 t432 _ A25.out).mono ?_); rintro e w40 ⟨rfl, hb⟩; have n0_ := Aside0.mk (below_step (by repeat (first | (with_reducible first | exact HB.out | apply below_alloc | apply pw_below_drewN | apply below_drew1) | exact HB.out)) hb); clear HB; have HB := n0_; clear n0_; (try clear hb); (try clear hb2); (try clear hk); (try clear hi))))
                            go_ret
                            exact ⟨by first | rfl | (simp [errW_none, errW_some] <;> rfl) | (simp only [← hji16, ← hji20]; first | rfl | (simp [errW_none, errW_some] <;> rfl)) | (simp [*, errW_none, errW_some] <;> rfl), by repeat (first | (with_reducible first | exact HB.out | apply below_alloc | apply pw_below_drewN | apply below_drew1) | exact HB.out)⟩
                        · rw [if_neg c27] at H
                          have c27b0 : (t428 == 1) = false := beq_eq_false_iff_ne.mpr c27
                          have c27b1 : (t428 != 1) = true := bne_iff_ne.mpr c27
                          obtain rfl := Option.some.inj H
                          go_wp2_with (first | (go_at_call 40; (with_reducible refine (ring_Count.calls (((t425.extract 0 ((ji16) : Int).toNat) ++ (⟨#[63]⟩ : ByteArray)) ++ (t425.extract ((ji20) : Int).toNat t425.size)) t428 t429 _ A24.out).mono ?_); rintro e w41 ⟨rfl, hb⟩; have n0_ := Aside0.mk (below_step (by repeat (first | (with_reducible first | exact HB.out | apply below_alloc | apply pw_below_drewN | apply below_drew1) | exact HB.out)) hb); clear HB; have HB := n0_; clear n0_; (try clear hb); (try clear hb2); (try clear hk); (try clear hi)) | (go_at_call 41; (with_reducible refine (ring_First.calls (((t425.extract 0 ((ji16) : Int).toNat) ++ (⟨#[63]⟩ : ByteArray)) ++ (t425.extract ((ji20) : Int).toNat t425.size)) t430 t431 t432 _ A25.out).mono ?_); rintro e w42 ⟨rfl, hb⟩; have n0_ := Aside0.mk (below_step (by repeat (first | (with_reducible first | exact HB.out | apply below_alloc | apply pw_below_drewN | apply below_drew1) | exact HB.out)) hb); clear HB; have HB := n0_; clear n0_; (try clear hb); (try clear hb2); (try clear hk); (try clear hi)))
                          repeat (go_quiet (first | (go_at_call 40; (with_reducible refine (ring_Count.calls (((t425.extract 0 ((ji16) : Int).toNat) ++ (⟨#[63]⟩ : ByteArray)) ++ (t425.extract ((ji20) : Int).toNat t425.size)) t428 t429 _ A24.out).mono ?_); rintro e w41 ⟨rfl, hb⟩; have n0_ := Aside0.mk (below_step (by repeat (first | (with_reducible first | exact HB.out | apply below_alloc | apply pw_below_drewN | apply below_drew1) | exact HB.out)) hb); clear HB; have HB := n0_; clear n0_; (try clear hb); (try clear hb2); (try clear hk); (try clear hi)) | (go_at_call 41; (with_reducible refine (ring_First.calls (((t425.extract 0 ((ji16) : Int).toNat) ++ (⟨#[63]⟩ : ByteArray)) ++ (t425.extract ((ji20) : Int).toNat t425.size)) t430 t431 t432 _ A25.out).mono ?_); rintro e w42 ⟨rfl, hb⟩; have n0_ := Aside0.mk (below_step (by repeat (first | (with_reducible first | exact HB.out | apply below_alloc | apply pw_below_drewN | apply below_drew1) | exact HB.out)) hb); clear HB; have HB := n0_; clear n0_; (try clear hb); (try clear hb2); (try clear hk); (try clear hi))); try go_wp2_with (first | (go_at_call 40; (with_reducible refine (ring_Count.calls (((t425.extract 0 ((ji16) : Int).toNat) ++ (⟨#[63]⟩ : ByteArray)) ++ (t425.extract ((ji20) : Int).toNat t425.size)) t428 t429 _ A24.out).mono ?_); rintro e w41 ⟨rfl, hb⟩; have n0_ := Aside0.mk (below_step (by repeat (first | (with_reducible first | exact HB.out | apply below_alloc | apply pw_below_drewN | apply below_drew1) | exact HB.out)) hb); clear HB; have HB := n0_; clear n0_; (try clear hb); (try clear hb2); (try clear hk); (try clear hi)) | (go_at_call 41; (with_reducible refine (ring_First.calls (((t425.extract 0 ((ji16) : Int).toNat) ++ (⟨#[63]⟩ : ByteArray)) ++ (t425.extract ((ji20) : Int).toNat t425.size)) t430 t431 t432 _ A25.out).mono ?_); rintro e w42 ⟨rfl, hb⟩; have n0_ := Aside0.mk (below_step (by repeat (first | (with_reducible first | exact HB.out | apply below_alloc | apply pw_below_drewN | apply below_drew1) | exact HB.out)) hb); clear HB; have HB := n0_; clear n0_; (try clear hb); (try clear hb2); (try clear hk); (try clear hi))))
                          go_ret
                          exact ⟨by first | rfl | (simp [errW_none, errW_some] <;> rfl) | (simp only [← hji16, ← hji20]; first | rfl | (simp [errW_none, errW_some] <;> rfl)) | (simp [*, errW_none, errW_some] <;> rfl), by repeat (first | (with_reducible first | exact HB.out | apply below_alloc | apply pw_below_drewN | apply below_drew1) | exact HB.out)⟩
                      · rw [if_neg c26] at H
                        have c26b0 : (t429 == 0) = false := beq_eq_false_iff_ne.mpr c26
                        have c26b1 : (t429 != 0) = true := bne_iff_ne.mpr c26
                        obtain rfl := Option.some.inj H
                        go_wp2_with (first | (go_at_call 40; (with_reducible refine (ring_Count.calls (((t425.extract 0 ((ji16) : Int).toNat) ++ (⟨#[63]⟩ : ByteArray)) ++ (t425.extract ((ji20) : Int).toNat t425.size)) t428 t429 _ A24.out).mono ?_); rintro e w43 ⟨rfl, hb⟩; have n0_ := Aside0.mk (below_step (by repeat (first | (with_reducible first | exact HB.out | apply below_alloc | apply pw_below_drewN | apply below_drew1) | exact HB.out)) hb); clear HB; have HB := n0_; clear n0_; (try clear hb); (try clear hb2); (try clear hk); (try clear hi)) | (go_at_call 41; (with_reducible refine (ring_First.calls (((t425.extract 0 ((ji16) : Int).toNat) ++ (⟨#[63]⟩ : ByteArray)) ++ (t425.extract ((ji20) : Int).toNat t425.size)) t430 t431 t432 _ A25.out).mono ?_); rintro e w44 ⟨rfl, hb⟩; have n0_ := Aside0.mk (below_step (by repeat (first | (with_reducible first | exact HB.out | apply below_alloc | apply pw_below_drewN | apply below_drew1) | exact HB.out)) hb); clear HB; have HB := n0_; clear n0_; (try clear hb); (try clear hb2); (try clear hk); (try clear hi)))
                        repeat (go_quiet (first | (go_at_call 40; (with_reducible refine (ring_Count.calls (((t425.extract 0 ((ji16) : Int).toNat) ++ (⟨#[63]⟩ : ByteArray)) ++ (t425.extract ((ji20) : Int).toNat t425.size)) t428 t429 _ A24.out).mono ?_); rintro e w43 ⟨rfl, hb⟩; have n0_ := Aside0.mk (below_step (by repeat (first | (with_reducible first | exact HB.out | apply below_alloc | apply pw_below_drewN | apply below_drew1) | exact HB.out)) hb); clear HB; have HB := n0_; clear n0_; (try clear hb); (try clear hb2); (try clear hk); (try clear hi)) | (go_at_call 41; (with_reducible refine (ring_First.calls (((t425.extract 0 ((ji16) : Int).toNat) ++ (⟨#[63]⟩ : ByteArray)) ++ (t425.extract ((ji20) : Int).toNat t425.size)) t430 t431 t432 _ A25.out).mono ?_); rintro e w44 ⟨rfl, hb⟩; have n0_ := Aside0.mk (below_step (by repeat (first | (with_reducible first | exact HB.out | apply below_alloc | apply pw_below_drewN | apply below_drew1) | exact HB.out)) hb); clear HB; have HB := n0_; clear n0_; (try clear hb); (try clear hb2); (try clear hk); (try clear hi))); try go_wp2_with (first | (go_at_call 40; (with_reducible refine (ring_Count.calls (((t425.extract 0 ((ji16) : Int).toNat) ++ (⟨#[63]⟩ : ByteArray)) ++ (t425.extract ((ji20) : Int).toNat t425.size)) t428 t429 _ A24.out).mono ?_); rintro e w43 ⟨rfl, hb⟩; have n0_ := Aside0.mk (below_step (by repeat (first | (with_reducible first | exact HB.out | apply below_alloc | apply pw_below_drewN | apply below_drew1) | exact HB.out)) hb); clear HB; have HB := n0_; clear n0_; (try clear hb); (try clear hb2); (try clear hk); (try clear hi)) | (go_at_call 41; (with_reducible refine (ring_First.calls (((t425.extract 0 ((ji16) : Int).toNat) ++ (⟨#[63]⟩ : ByteArray)) ++ (t425.extract ((ji20) : Int).toNat t425.size)) t430 t431 t432 _ A25.out).mono ?_); rintro e w44 ⟨rfl, hb⟩; have n0_ := Aside0.mk (below_step (by repeat (first | (with_reducible first | exact HB.out | apply below_alloc | apply pw_below_drewN | apply below_drew1) | exact HB.out)) hb); clear HB; have HB := n0_; clear n0_; (try clear hb); (try clear hb2); (try clear hk); (try clear hi))))
                        go_ret
                        exact ⟨by first | rfl | (simp [errW_none, errW_some] <;> rfl) | (simp only [← hji16, ← hji20]; first | rfl | (simp [errW_none, errW_some] <;> rfl)) | (simp [*, errW_none, errW_some] <;> rfl), by repeat (first | (with_reducible first | exact HB.out | apply below_alloc | apply pw_below_drewN | apply below_drew1) | exact HB.out)⟩
                    · rw [if_neg c23] at H
                      exact absurd H (by simp)
                  · rw [if_neg c22] at H
                    exact absurd H (by simp)
                · rw [if_neg c21] at H
                  exact absurd H (by simp)
              · rw [if_neg c19] at H
                exact absurd H (by simp)
            · rw [if_neg c18] at H
              exact absurd H (by simp)
          · rw [if_neg c17] at H
            exact absurd H (by simp)

/-- THE ONE PURE STATEMENT of wigeonlaw01_RingRestores: yours. -/
def wigeonlaw01_RingRestores.Pure : Prop := ∀ (a0 : ByteArray) (a1 : Int) (a2 : Int), a0.size ≤ 140737488351232 → (Lit.int .i64 a1).wf = true → (Lit.int .i64 a2).wf = true → ∃ k, wigeonlaw01_RingRestores.f k a0 a1 a2 = some true
theorem wigeonlaw01_RingRestores.walk (P : wigeonlaw01_RingRestores.Pure) (a0 : ByteArray) (a1 : Int) (a2 : Int) (w : World) (w0 : a0.size ≤ 140737488351232) (w1 : (Lit.int .i64 a1).wf = true) (w2 : (Lit.int .i64 a2).wf = true) :
    Calls Try.prog 10 #[.string a0, .int .i64 a1, .int .i64 a2] w fun e w' => e = .returned (.bool true) ∧ Below w.heap.size w w' := by
  obtain ⟨k, h⟩ := P a0 a1 a2 w0 w1 w2
  refine (wigeonlaw01_RingRestores.calls k a0 a1 a2 true w h).mono ?_
  rintro e w' ⟨rfl, hd⟩
  exact ⟨rfl, hd⟩

end Go.Proofs.Ytlbhighbhchdmaa.Q
