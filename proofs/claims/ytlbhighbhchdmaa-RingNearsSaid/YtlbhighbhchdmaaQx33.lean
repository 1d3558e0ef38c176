-- Written by a program of this session (wip/tools/gprint.py, over the kit's print); Lean checks it.
import Derived.Test.YtlbhighbhchdmaaQx0
import Derived.Test.YtlbhighbhchdmaaQx4
import Derived.Test.YtlbhighbhchdmaaQx10
import Derived.Test.YtlbhighbhchdmaaQx13
import Derived.Test.YtlbhighbhchdmaaQx32
namespace Go.Proofs.Ytlbhighbhchdmaa.Q
open Go.RowKit Go.Proofs.YtlbhighbhchdmaaW.PrintWords Go.Proofs.YtlbhighbhchdmaaW.PrintLast Go.Proofs.YtlbhighbhchdmaaW.PrintMore
attribute [local go_sem] max2_int min2_int max_two min_two max_three min_three max_four min_four   -- for this text's walks alone
set_option linter.unusedVariables false
set_option linter.unusedSimpArgs false

/-! ### wigeonref01_Near: function 51 -/
mutual
def wigeonref01_Near.l0 : Nat → ByteArray → ByteArray → List ByteArray → Int → Option (List ByteArray × Int)
  | 0, _, _, _, _ => none
  | k + 1, x0, x4, x5, x6 => if x6 < 6 then (wigeonref01_Near.l1 k x0 x4 x5 x6 0) else (some (x5, 0))
def wigeonref01_Near.l1 : Nat → ByteArray → ByteArray → List ByteArray → Int → Int → Option (List ByteArray × Int)
  | 0, _, _, _, _, _ => none
  | k + 1, x0, x4, x5, x6, x7 => if x7 < 10 then ((wigeonref01_tail.f k x0).bind fun t586 => (if 0 ≤ x6 then (if x6 < (t586.length : Int) then ((some (t586.set (x6 : Int).toNat x7 : List Int)).bind fun y589 => ((wigeonref01_text.f k x4 y589).bind fun t590 => (if t590.toList = x0.toList then (wigeonref01_Near.l1 k x0 x4 x5 x6 (wrap64 (x7 + 1))) else ((wigeonref01_sum.f k y589).bind fun t591 => (if t591 = 0 then ((wigeonref01_put.f k x5 t590).bind fun t592 => (wigeonref01_Near.l1 k x0 x4 t592 x6 (wrap64 (x7 + 1)))) else (wigeonref01_Near.l1 k x0 x4 x5 x6 (wrap64 (x7 + 1)))))))) else (none)) else (none))) else ((wigeonref01_tail.f k x0).bind fun t595 => (if x6 > 0 then (if 0 ≤ x6 then (if x6 < (t595.length : Int) then (if 0 ≤ (wrap64 (x6 - 1)) then (if (wrap64 (x6 - 1)) < (t595.length : Int) then ((some ((t595.set ((wrap64 (x6 - 1)) : Int).toNat (rd t595 x6)).set (x6 : Int).toNat (rd t595 (wrap64 (x6 - 1))) : List Int)).bind fun y601 => ((wigeonref01_text.f k x4 y601).bind fun t602 => (if t602.toList = x0.toList then (wigeonref01_Near.l0 k x0 x4 x5 (wrap64 (x6 + 1))) else ((wigeonref01_sum.f k y601).bind fun t603 => (if t603 = 0 then ((wigeonref01_put.f k x5 t602).bind fun t604 => (wigeonref01_Near.l0 k x0 x4 t604 (wrap64 (x6 + 1)))) else (wigeonref01_Near.l0 k x0 x4 x5 (wrap64 (x6 + 1)))))))) else (none)) else (none)) else (none)) else (none)) else (wigeonref01_Near.l0 k x0 x4 x5 (wrap64 (x6 + 1)))))
end
def wigeonref01_Near.f (k : Nat) (a0 : ByteArray) : Option (List ByteArray × Int) := (wigeonref01_formed.f k a0 false).bind fun t585 => (if t585 = true then (if 0 ≤ (wrap64 ((a0.size : Int) - 6)) then (if (wrap64 ((a0.size : Int) - 6)) ≤ (a0.size : Int) then (wigeonref01_Near.l0 k a0 (a0.extract 0 ((wrap64 ((a0.size : Int) - 6)) : Int).toNat) ([] : List ByteArray) 0) else (none)) else (none)) else (some (([] : List ByteArray), 2)))
theorem wigeonref01_Near.mono_l : ∀ k, (∀ y0 y1 y2 y3, LeO (wigeonref01_Near.l0 k y0 y1 y2 y3) (wigeonref01_Near.l0 (k + 1) y0 y1 y2 y3)) ∧ (∀ y0 y1 y2 y3 y4, LeO (wigeonref01_Near.l1 k y0 y1 y2 y3 y4) (wigeonref01_Near.l1 (k + 1) y0 y1 y2 y3 y4))
  | 0 => ⟨fun _ _ _ _ r h => by simp [wigeonref01_Near.l0] at h, fun _ _ _ _ _ r h => by simp [wigeonref01_Near.l1] at h⟩
  | k + 1 => by
    obtain ⟨ih0, ih1⟩ := wigeonref01_Near.mono_l k
    refine ⟨?_, ?_⟩
    · intro y0 y1 y2 y3
      unfold wigeonref01_Near.l0
      repeat' first
      | (with_reducible exact ih0 _ _ _ _)
      | (with_reducible exact ih1 _ _ _ _ _)
      | (with_reducible exact wigeonref01_formed.mono _ _ _)
      | (with_reducible exact wigeonref01_put.mono _ _ _)
      | (with_reducible exact wigeonref01_sum.mono _ _)
      | (with_reducible exact wigeonref01_tail.mono _ _)
      | (with_reducible exact wigeonref01_text.mono _ _ _)
      | (with_reducible exact LeO.refl _)
      | (with_reducible exact LeO.none _)
      | (with_reducible refine LeO.ite ?_ ?_)
      | (with_reducible refine LeO.bind ?_ (fun _ => ?_))
      | exact ih0 _ _ _ _
      | exact ih1 _ _ _ _ _
      | exact wigeonref01_formed.mono _ _ _
      | exact wigeonref01_put.mono _ _ _
      | exact wigeonref01_sum.mono _ _
      | exact wigeonref01_tail.mono _ _
      | exact wigeonref01_text.mono _ _ _
      | exact LeO.none _
      | refine LeO.ite ?_ ?_
      | refine LeO.bind ?_ (fun _ => ?_)
    · intro y0 y1 y2 y3 y4
      unfold wigeonref01_Near.l1
      repeat' first
      | (with_reducible exact ih0 _ _ _ _)
      | (with_reducible exact ih1 _ _ _ _ _)
      | (with_reducible exact wigeonref01_formed.mono _ _ _)
      | (with_reducible exact wigeonref01_put.mono _ _ _)
      | (with_reducible exact wigeonref01_sum.mono _ _)
      | (with_reducible exact wigeonref01_tail.mono _ _)
      | (with_reducible exact wigeonref01_text.mono _ _ _)
      | (with_reducible exact LeO.refl _)
      | (with_reducible exact LeO.none _)
      | (with_reducible refine LeO.ite ?_ ?_)
      | (with_reducible refine LeO.bind ?_ (fun _ => ?_))
      | exact ih0 _ _ _ _
      | exact ih1 _ _ _ _ _
      | exact wigeonref01_formed.mono _ _ _
      | exact wigeonref01_put.mono _ _ _
      | exact wigeonref01_sum.mono _ _
      | exact wigeonref01_tail.mono _ _
      | exact wigeonref01_text.mono _ _ _
      | exact LeO.none _
      | refine LeO.ite ?_ ?_
      | refine LeO.bind ?_ (fun _ => ?_)
theorem wigeonref01_Near.mono : ∀ a0 k, LeO (wigeonref01_Near.f k a0) (wigeonref01_Near.f (k + 1) a0) := by
  intro a0 k
  obtain ⟨ih0, ih1⟩ := wigeonref01_Near.mono_l k
  unfold wigeonref01_Near.f
  repeat' first
      | (with_reducible exact ih0 _ _ _ _)
      | (with_reducible exact ih1 _ _ _ _ _)
      | (with_reducible exact wigeonref01_formed.mono _ _ _)
      | (with_reducible exact wigeonref01_put.mono _ _ _)
      | (with_reducible exact wigeonref01_sum.mono _ _)
      | (with_reducible exact wigeonref01_tail.mono _ _)
      | (with_reducible exact wigeonref01_text.mono _ _ _)
      | (with_reducible exact LeO.refl _)
      | (with_reducible exact LeO.none _)
      | (with_reducible refine LeO.ite ?_ ?_)
      | (with_reducible refine LeO.bind ?_ (fun _ => ?_))
      | exact ih0 _ _ _ _
      | exact ih1 _ _ _ _ _
      | exact wigeonref01_formed.mono _ _ _
      | exact wigeonref01_put.mono _ _ _
      | exact wigeonref01_sum.mono _ _
      | exact wigeonref01_tail.mono _ _
      | exact wigeonref01_text.mono _ _ _
      | exact LeO.none _
      | refine LeO.ite ?_ ?_
      | refine LeO.bind ?_ (fun _ => ?_)
def wigeonref01_Near.T18 : Bool × List (List Nat × List Nat) := (true, [([], []), ([], []), ([1], [1]), ([], []), ([], []), ([], []), ([], []), ([5, 6], [5, 6]), ([7], [7]), ([], []), ([], []), ([10], [10]), ([9, 11], [9, 11]), ([12], [12]), ([0, 2, 0, 1, 2, 5, 6, 7, 8, 13], [0, 2]), ([14, 8, 0, 1, 2, 5, 6, 7, 8, 13], [8, 14]), ([3, 4, 0, 1, 2, 3, 4, 5, 6, 7, 8, 9, 10, 11, 12, 13, 14, 15], [3, 4]), ([16, 13, 15, 0, 1, 2, 3, 4, 5, 6, 7, 8, 9, 10, 11, 12, 13, 14, 15], [13, 16])])
def wigeonref01_Near.B18 : List Nat := [0, 0, 2, 0, 0, 0, 0, 96, 224, 0, 0, 1024, 3584, 7680, 16359, 32743, 65535, 131071]
theorem wigeonref01_Near.tab18 : rtab .any (opsOf Try.f51 18) = wigeonref01_Near.T18 := by kernel_rfl
theorem wigeonref01_Near.bits18 : waitsOk wigeonref01_Near.T18.2 wigeonref01_Near.B18 = true := by kernel_rfl
set_option maxHeartbeats 8000000 in
set_option maxRecDepth 100000 in
theorem wigeonref01_Near.calls (k : Nat) (a0 : ByteArray) (r1 : List ByteArray) (r2 : Int) (w : World) (h : wigeonref01_Near.f k a0 = some (r1, r2)) :
    Calls Try.prog 51 #[.string a0] w fun e w' => ∃ v0_ : Value, e = .returned (.tuple #[v0_, .int .i64 r2]) ∧ Kd.R Kd.string 9 w' w.heap.size (fun _ => True) v0_ r1 ∧ Below w.heap.size w w' := by
  have HB := Aside0.mk (Below.refl w.heap.size w)
  have H : ((wigeonref01_formed.f k a0 false).bind fun t585 => (if t585 = true then (if 0 ≤ (wrap64 ((a0.size : Int) - 6)) then (if (wrap64 ((a0.size : Int) - 6)) ≤ (a0.size : Int) then (wigeonref01_Near.l0 k a0 (a0.extract 0 ((wrap64 ((a0.size : Int) - 6)) : Int).toNat) ([] : List ByteArray) 0) else (none)) else (none)) else (some (([] : List ByteArray), 2)))) = some (r1, r2) := h
  clear h
  replace H := Option.bind_eq_some_iff.mp H
  obtain ⟨t585, A20, H⟩ := H
  replace H : (if t585 = true then (if 0 ≤ (wrap64 ((a0.size : Int) - 6)) then (if (wrap64 ((a0.size : Int) - 6)) ≤ (a0.size : Int) then (wigeonref01_Near.l0 k a0 (a0.extract 0 ((wrap64 ((a0.size : Int) - 6)) : Int).toNat) ([] : List ByteArray) 0) else (none)) else (none)) else (some (([] : List ByteArray), 2))) = some (r1, r2) := H
  have A2 := Aside0.mk A20
  clear A20
  by_cases c3 : t585 = true
  · subst c3
    have H1 : (if 0 ≤ (wrap64 ((a0.size : Int) - 6)) then (if (wrap64 ((a0.size : Int) - 6)) ≤ (a0.size : Int) then (wigeonref01_Near.l0 k a0 (a0.extract 0 ((wrap64 ((a0.size : Int) - 6)) : Int).toNat) ([] : List ByteArray) 0) else (none)) else (none)) = some (r1, r2) := by rw [if_pos rfl] at H; exact H
    clear H
    have H := H1
    clear H1
    obtain ⟨ji4, hji4⟩ : ∃ j_ : Int, (wrap64 ((a0.size : Int) - 6)) = j_ := ⟨_, rfl⟩
    replace H : (if 0 ≤ (ji4) then (if (ji4) ≤ (a0.size : Int) then (wigeonref01_Near.l0 k a0 (a0.extract 0 ((ji4) : Int).toNat) ([] : List ByteArray) 0) else (none)) else (none)) = some (r1, r2) := by first | (rw [hji4] at H; exact H) | (simp only [hji4] at H ⊢; exact H)
    (try rw [hji4] at A2)
    have hji4w : (IntKind.i64.wrap ((a0.size : Int) - 6)) = ji4 := (i64_w _).trans hji4
    by_cases c5 : 0 ≤ (ji4)
    · rw [if_pos c5] at H
      have c5b0 := eq_true c5
      have c5b1 : decide (0 ≤ (ji4)) = true := decide_eq_true c5
      clear c5
      by_cases c6 : (ji4) ≤ (a0.size : Int)
      · rw [if_pos c6] at H
        have c6b0 := eq_true c6
        have c6b1 : decide ((ji4) ≤ (a0.size : Int)) = true := decide_eq_true c6
        clear c6
        have H' := Aside0.mk H
        clear H
        go_enter Try.func51, Try.ntmps51
        go_wp2_with (first | ((with_reducible refine gate_callee (f := 72) rfl ?_); refine goesL_ (some 13) rfl rfl Try.func72 (by kernel_rfl) rfl #[.string a0, .bool false] rfl (by (try simp only [List.map_toArray, List.map_cons, List.map_nil]); first | done | rfl | (simp only [List.length_drop, List.length_take]; rfl)) ?_; (with_reducible refine (wigeonref01_formed.calls k a0 false true _ A2.out).mono ?_); rintro e w' ⟨rfl, ⟨nd, rfl⟩⟩; refine ⟨_, rfl, ?_⟩))
        go_loopg [5, 6] k (fun kq v5 v6 w' => ∃ (x5_1 : List ByteArray) (x6_1 : Int), v6 = .int .i64 x6_1 ∧ Aside0 (wigeonref01_Near.l0 kq a0 (a0.extract 0 ((ji4) : Int).toNat) x5_1 x6_1 = some (r1, r2)) ∧ Aside0 (kq ≤ k) ∧ Aside0 (Kd.R Kd.string 9 w' w.heap.size (fun _ => True) v5 x5_1) ∧ Aside0 (Below w.heap.size w w'))
        case atStart => exact ⟨(([] : List ByteArray)), (0), (by first | rfl | (simp; done) | (simp [*]; done)), H', ⟨Nat.le_refl _⟩, ⟨by first | exact Kd.R_nil _ _ _ _ _ | exact Kd.N_nil _ _ _ _ _ | exact Kd.V_nil _ _ _ _ _ | exact Kd.Q_nil _ _ _ _ _ | exact Kd.S_nil _ _ _ _ _⟩, ⟨by repeat (first | (with_reducible first | exact HB.out | apply below_alloc | apply pw_below_drewN | apply below_drew1) | exact HB.out)⟩⟩
        case round =>
          clear H'
          try clear p2
          try clear c3
          try clear c5
          try clear c5b0
          try clear c5b1
          try clear c6
          try clear c6b0
          try clear c6b1
          try clear p6
          obtain ⟨x5_1, x6_1, rfl, HA, HK1, HO_5, HB⟩ := hrel
          cases gk with
          | zero => exact absurd HA.out (by simp [wigeonref01_Near.l0])
          | succ k1 =>
            have H := HA.out
            clear HA
            simp only [wigeonref01_Near.l0] at H
            by_cases c7 : x6_1 < 6
            · rw [if_pos c7] at H
              have c7b0 : decide (x6_1 < 6) = true := decide_eq_true c7
              clear c7
              have H' := Aside0.mk H
              clear H
              go_wp2
              go_loopg [5, 7] k1 (fun kq v5 v7 w' => ∃ (x5_2 : List ByteArray) (x7_2 : Int), v7 = .int .i64 x7_2 ∧ Aside0 (wigeonref01_Near.l1 kq a0 (a0.extract 0 ((ji4) : Int).toNat) x5_2 x6_1 x7_2 = some (r1, r2)) ∧ Aside0 (kq ≤ k1) ∧ Aside0 (Kd.R Kd.string 9 w' w.heap.size (fun _ => True) v5 x5_2) ∧ Aside0 (Below w.heap.size w w'))
              case atStart => exact ⟨(x5_1), (0), (by first | rfl | (simp; done) | (simp [*]; done)), H', ⟨Nat.le_refl _⟩, ⟨by (with_reducible repeat (first | apply Kd.R_alloc | apply Kd.R_drewN | apply Kd.R_drew)); exact HO_5.out⟩, ⟨by repeat (first | (with_reducible first | exact HB.out | apply below_alloc | apply pw_below_drewN | apply below_drew1) | exact HB.out)⟩⟩
              case round =>
                clear H'
                try clear p2
                try clear c3
                try clear c5
                try clear c5b0
                try clear c5b1
                try clear c6
                try clear c6b0
                try clear c6b1
                try clear p6
                try clear c7
                try clear c7b0
                try clear p2
                try clear p6
                obtain ⟨x5_2, x7_2, rfl, HA, HK2, HO_5, HB⟩ := hrel
                cases gk with
                | zero => exact absurd HA.out (by simp [wigeonref01_Near.l1])
                | succ k2 =>
                  have H := HA.out
                  clear HA
                  simp only [wigeonref01_Near.l1] at H
                  by_cases c8 : x7_2 < 10
                  · rw [if_pos c8] at H
                    have c8b0 : decide (x7_2 < 10) = true := decide_eq_true c8
                    clear c8
                    replace H := Option.bind_eq_some_iff.mp H
                    obtain ⟨t586, A90, H⟩ := H
                    replace H : (if 0 ≤ x6_1 then (if x6_1 < (t586.length : Int) then ((some (t586.set (x6_1 : Int).toNat x7_2 : List Int)).bind fun y589 => ((wigeonref01_text.f k2 (a0.extract 0 ((ji4) : Int).toNat) y589).bind fun t590 => (if t590.toList = a0.toList then (wigeonref01_Near.l1 k2 a0 (a0.extract 0 ((ji4) : Int).toNat) x5_2 x6_1 (wrap64 (x7_2 + 1))) else ((wigeonref01_sum.f k2 y589).bind fun t591 => (if t591 = 0 then ((wigeonref01_put.f k2 x5_2 t590).bind fun t592 => (wigeonref01_Near.l1 k2 a0 (a0.extract 0 ((ji4) : Int).toNat) t592 x6_1 (wrap64 (x7_2 + 1)))) else (wigeonref01_Near.l1 k2 a0 (a0.extract 0 ((ji4) : Int).toNat) x5_2 x6_1 (wrap64 (x7_2 + 1)))))))) else (none)) else (none)) = some (r1, r2) := H
                    have A9 := Aside0.mk A90
                    clear A90
                    by_cases c10 : 0 ≤ x6_1
                    · rw [if_pos c10] at H
                      have c10b0 : decide (0 ≤ x6_1) = true := decide_eq_true c10
                      clear c10
                      by_cases c11 : x6_1 < (t586.length : Int)
                      · rw [if_pos c11] at H
                        have c11b0 : decide (x6_1 < (t586.length : Int)) = true := decide_eq_true c11
                        clear c11
                        obtain ⟨y589, hy589⟩ : ∃ y_ : List Int, y_ = (t586.set (x6_1 : Int).toNat x7_2) := ⟨_, rfl⟩
                        replace H : ((wigeonref01_text.f k2 (a0.extract 0 ((ji4) : Int).toNat) y589).bind fun t590 => (if t590.toList = a0.toList then (wigeonref01_Near.l1 k2 a0 (a0.extract 0 ((ji4) : Int).toNat) x5_2 x6_1 (wrap64 (x7_2 + 1))) else ((wigeonref01_sum.f k2 y589).bind fun t591 => (if t591 = 0 then ((wigeonref01_put.f k2 x5_2 t590).bind fun t592 => (wigeonref01_Near.l1 k2 a0 (a0.extract 0 ((ji4) : Int).toNat) t592 x6_1 (wrap64 (x7_2 + 1)))) else (wigeonref01_Near.l1 k2 a0 (a0.extract 0 ((ji4) : Int).toNat) x5_2 x6_1 (wrap64 (x7_2 + 1))))))) = some (r1, r2) := by first | (rw [hy589]; with_reducible exact H) | (have H2_ := (Option.bind_some _ _).symm.trans H; rw [hy589]; with_reducible exact H2_) | (have H2_ := (Option.bind_some _ _).symm.trans H; with_reducible exact H2_) | with_reducible exact H | (rw [hy589]; exact H) | exact H
                        have Ny589 := Aside0.mk hy589
                        clear hy589
                        replace H := Option.bind_eq_some_iff.mp H
                        obtain ⟨t590, A130, H⟩ := H
                        replace H : (if t590.toList = a0.toList then (wigeonref01_Near.l1 k2 a0 (a0.extract 0 ((ji4) : Int).toNat) x5_2 x6_1 (wrap64 (x7_2 + 1))) else ((wigeonref01_sum.f k2 y589).bind fun t591 => (if t591 = 0 then ((wigeonref01_put.f k2 x5_2 t590).bind fun t592 => (wigeonref01_Near.l1 k2 a0 (a0.extract 0 ((ji4) : Int).toNat) t592 x6_1 (wrap64 (x7_2 + 1)))) else (wigeonref01_Near.l1 k2 a0 (a0.extract 0 ((ji4) : Int).toNat) x5_2 x6_1 (wrap64 (x7_2 + 1)))))) = some (r1, r2) := H
                        have A13 := Aside0.mk A130
                        clear A130
                        by_cases c14 : t590.toList = a0.toList
                        · rw [if_pos c14] at H
                          have c14b0 : (t590.toList == a0.toList) = true := beq_iff_eq.mpr c14
                          have c14b1 : (t590.toList != a0.toList) = false := bne_eq_false_iff_eq.mpr c14
                          clear c14
                          have H' := Aside0.mk H
                          clear H
                          go_wp2_with (first | ((with_reducible refine gate_callee (f := 77) rfl ?_); refine goesL_ (some 29) rfl rfl Try.func77 (by kernel_rfl) rfl #[.string a0] rfl (by (try simp only [List.map_toArray, List.map_cons, List.map_nil]); first | done | rfl | (simp only [List.length_drop, List.length_take]; rfl)) ?_; (with_reducible refine (wigeonref01_tail.calls k2 a0 t586 _ A9.out).mono ?_); rintro e w15 ⟨v587, rfl, ho0, hb⟩; refine ⟨_, rfl, ?_⟩; have n0_ := Aside0.mk (Kd.R_below (by (with_reducible repeat (first | apply Kd.R_alloc | apply Kd.R_drewN | apply Kd.R_drew)); exact HO_5.out) hb); have n1_ := Aside0.mk (Kd.R_lower ho0 (below_size (by repeat (first | (with_reducible first | exact HB.out | apply below_alloc | apply pw_below_drewN | apply below_drew1) | exact HB.out)))); have n2_ := Aside0.mk (below_step (by repeat (first | (with_reducible first | exact HB.out | apply below_alloc | apply pw_below_drewN | apply below_drew1) | exact HB.out)) hb); clear HO_5; clear HB; have HO_5 := n0_; have HO588 := n1_; have HB := n2_; clear n0_ n1_ n2_; (try clear hb); (try clear hb2); (try clear hk); (try clear hi); (try clear ho0); have p12 : 0 ≤ (x6_1 : Int) := of_decide_eq_true (by first | (with_reducible assumption) | assumption); have q12 : (x6_1 : Int) < ((t586.length : Int) : Int) := of_decide_eq_true (by first | (with_reducible assumption) | assumption); obtain ⟨go12, co12, eo12, gb12, gl12, cl12, HG12⟩ := Kd.R_form HO588.out (by omega); (first | cases eo12 | (injection eo12 with ea_ en_ ec_; (first | subst ea_ | (injection ea_ with ea_; subst ea_)); subst ec_; clear en_)); have GB12 := Aside0.mk gb12; have GG12 := Aside0.mk HG12; clear gb12 gl12 HG12; obtain ⟨hx12_0, hf12_0⟩ := Kd.R_celln 0 HO588.out (x6_1 : Int) p12 q12; replace p12 := eq_true p12; replace q12 := eq_true q12; obtain ⟨hy16_, hz16_⟩ := Kd.R_celln 0 HO588.out (x6_1 : Int) (of_decide_eq_true (by first | (with_reducible assumption) | assumption)) (of_decide_eq_true (by first | (with_reducible assumption) | assumption)); have HP16 := Kd.R_putg HO588.out (x6_1 : Int) x7_2) | ((with_reducible refine gate_store (t := 3) (p := 33) rfl ?_); refine store_event (t := 3) (p := 33) (v := ?vo_w17) (w1 := (w15.setCell ⟨go12, (x6_1 : Int).toNat, none⟩ (.int .i64 x7_2))) ?hg ?ho ?hn ?hr ?_; (case ho => rfl); (case hg => rfl); (case hn => rfl); (case hr => first | (go_simp; done) | (go_simp; rfl)); intro w17 hw; have hg : w15.grownBy w17 (some go12) := (by rw [hw]; exact HP16.2); have hp_ : Kd.R (Kd.int .i64) 3 w17 w.heap.size (fun _ => True) (.slice (some ⟨go12, 0, none⟩) t586.length co12) y589 := (by rw [hw, Ny589.out]; exact HP16.1); clear HP16; have n0_ := Aside0.mk (Kd.R_over' (v := (.slice (some ⟨go12, 0, none⟩) t586.length co12)) (by (with_reducible repeat (first | apply Kd.R_alloc | apply Kd.R_drewN | apply Kd.R_drew)); exact HO_5.out) (Kd.R_typed HO588.out) (by decide) hg); have n1_ := Aside0.mk (hp_); have n2_ := Aside0.mk ((by rw [hw]; exact below_set (HB.out) GB12.out : Below w.heap.size w w17)); clear HO_5; clear HO588; clear HB; have HO_5 := n0_; have HO588 := n1_; have HB := n2_; clear n0_ n1_ n2_; clear hg hw hp_) | ((with_reducible refine gate_callee (f := 83) rfl ?_); refine goesL_ (some 36) rfl rfl Try.func83 (by kernel_rfl) rfl #[.string (a0.extract 0 ((ji4) : Int).toNat), .slice (some ⟨go12, 0, none⟩) y589.length co12] rfl (by (try simp only [List.map_toArray, List.map_cons, List.map_nil]); first | done | (rw [show y589.length = t586.length from (Kd.R_reads' HO588.out).1.symm] <;> rfl) | (simp only [hji4]; rfl) | rfl | (simp only [List.length_drop, List.length_take]; rfl)) ?_; (with_reducible refine (wigeonref01_text.calls k2 (a0.extract 0 ((ji4) : Int).toNat) _ _ y589 t590 _ ?side1 ?side2 A13.out).mono ?_); (case side1 => repeat (first | exact (Kd.R_reads' HO588.out).2.2 | (with_reducible refine Kd.C_alloc ?_ _) | (with_reducible refine Kd.C_drewN ?_ _) | (with_reducible refine Kd.C_drew ?_))); (case side2 => rw [show y589.length = t586.length from (Kd.R_reads' HO588.out).1.symm]; exact (Kd.R_reads' HO588.out).2.1); rintro e w' ⟨rfl, ⟨nd, rfl⟩⟩; refine ⟨_, rfl, ?_⟩))
                          go_roundg k2
                          case measure => have := HK1.out; have := HK2.out; omega
                          case rel => exact ⟨(x5_2), (wrap64 (x7_2 + 1)), (by first | rfl | (simp; done) | (simp [*]; done)), H', ⟨by have := HK1.out; have := HK2.out; omega⟩, ⟨by (with_reducible repeat (first | apply Kd.R_alloc | apply Kd.R_drewN | apply Kd.R_drew)); exact HO_5.out⟩, ⟨by repeat (first | (with_reducible first | exact HB.out | apply below_alloc | apply pw_below_drewN | apply below_drew1) | exact HB.out)⟩⟩
                        · rw [if_neg c14] at H
                          have c14b0 : (t590.toList == a0.toList) = false := beq_eq_false_iff_ne.mpr c14
                          have c14b1 : (t590.toList != a0.toList) = true := bne_iff_ne.mpr c14
                          replace H := Option.bind_eq_some_iff.mp H
                          obtain ⟨t591, A180, H⟩ := H
                          replace H : (if t591 = 0 then ((wigeonref01_put.f k2 x5_2 t590).bind fun t592 => (wigeonref01_Near.l1 k2 a0 (a0.extract 0 ((ji4) : Int).toNat) t592 x6_1 (wrap64 (x7_2 + 1)))) else (wigeonref01_Near.l1 k2 a0 (a0.extract 0 ((ji4) : Int).toNat) x5_2 x6_1 (wrap64 (x7_2 + 1)))) = some (r1, r2) := H
                          have A18 := Aside0.mk A180
                          clear A180
                          by_cases c19 : t591 = 0
                          · rw [if_pos c19] at H
                            have c19b0 : (t591 == 0) = true := beq_iff_eq.mpr c19
                            have c19b1 : (t591 != 0) = false := bne_eq_false_iff_eq.mpr c19
                            clear c19
                            replace H := Option.bind_eq_some_iff.mp H
                            obtain ⟨t592, A200, H⟩ := H
                            replace H : (wigeonref01_Near.l1 k2 a0 (a0.extract 0 ((ji4) : Int).toNat) t592 x6_1 (wrap64 (x7_2 + 1))) = some (r1, r2) := H
                            have A20 := Aside0.mk A200
                            clear A200
                            have H' := Aside0.mk H
                            clear H
                            go_wp2_with (first | ((with_reducible refine gate_callee (f := 77) rfl ?_); refine goesL_ (some 29) rfl rfl Try.func77 (by kernel_rfl) rfl #[.string a0] rfl (by (try simp only [List.map_toArray, List.map_cons, List.map_nil]); first | done | rfl | (simp only [List.length_drop, List.length_take]; rfl)) ?_; (with_reducible refine (wigeonref01_tail.calls k2 a0 t586 _ A9.out).mono ?_); rintro e w21 ⟨v587, rfl, ho0, hb⟩; refine ⟨_, rfl, ?_⟩; have n0_ := Aside0.mk (Kd.R_below (by (with_reducible repeat (first | apply Kd.R_alloc | apply Kd.R_drewN | apply Kd.R_drew)); exact HO_5.out) hb); have n1_ := Aside0.mk (Kd.R_lower ho0 (below_size (by repeat (first | (with_reducible first | exact HB.out | apply below_alloc | apply pw_below_drewN | apply below_drew1) | exact HB.out)))); have n2_ := Aside0.mk (below_step (by repeat (first | (with_reducible first | exact HB.out | apply below_alloc | apply pw_below_drewN | apply below_drew1) | exact HB.out)) hb); clear HO_5; clear HB; have HO_5 := n0_; have HO588 := n1_; have HB := n2_; clear n0_ n1_ n2_; (try clear hb); (try clear hb2); (try clear hk); (try clear hi); (try clear ho0); have p12 : 0 ≤ (x6_1 : Int) := of_decide_eq_true (by first | (with_reducible assumption) | assumption); have q12 : (x6_1 : Int) < ((t586.length : Int) : Int) := of_decide_eq_true (by first | (with_reducible assumption) | assumption); obtain ⟨go12, co12, eo12, gb12, gl12, cl12, HG12⟩ := Kd.R_form HO588.out (by omega); (first | cases eo12 | (injection eo12 with ea_ en_ ec_; (first | subst ea_ | (injection ea_ with ea_; subst ea_)); subst ec_; clear en_)); have GB12 := Aside0.mk gb12; have GG12 := Aside0.mk HG12; clear gb12 gl12 HG12; obtain ⟨hx12_0, hf12_0⟩ := Kd.R_celln 0 HO588.out (x6_1 : Int) p12 q12; replace p12 := eq_true p12; replace q12 := eq_true q12; obtain ⟨hy22_, hz22_⟩ := Kd.R_celln 0 HO588.out (x6_1 : Int) (of_decide_eq_true (by first | (with_reducible assumption) | assumption)) (of_decide_eq_true (by first | (with_reducible assumption) | assumption)); have HP22 := Kd.R_putg HO588.out (x6_1 : Int) x7_2) | ((with_reducible refine gate_store (t := 3) (p := 33) rfl ?_); refine store_event (t := 3) (p := 33) (v := ?vo_w23) (w1 := (w21.setCell ⟨go12, (x6_1 : Int).toNat, none⟩ (.int .i64 x7_2))) ?hg ?ho ?hn ?hr ?_; (case ho => rfl); (case hg => rfl); (case hn => rfl); (case hr => first | (go_simp; done) | (go_simp; rfl)); intro w23 hw; have hg : w21.grownBy w23 (some go12) := (by rw [hw]; exact HP22.2); have hp_ : Kd.R (Kd.int .i64) 3 w23 w.heap.size (fun _ => True) (.slice (some ⟨go12, 0, none⟩) t586.length co12) y589 := (by rw [hw, Ny589.out]; exact HP22.1); clear HP22; have n0_ := Aside0.mk (Kd.R_over' (v := (.slice (some ⟨go12, 0, none⟩) t586.length co12)) (by (with_reducible repeat (first | apply Kd.R_alloc | apply Kd.R_drewN | apply Kd.R_drew)); exact HO_5.out) (Kd.R_typed HO588.out) (by decide) hg); have n1_ := Aside0.mk (hp_); have n2_ := Aside0.mk ((by rw [hw]; exact below_set (HB.out) GB12.out : Below w.heap.size w w23)); clear HO_5; clear HO588; clear HB; have HO_5 := n0_; have HO588 := n1_; have HB := n2_; clear n0_ n1_ n2_; clear hg hw hp_) | ((with_reducible refine gate_callee (f := 83) rfl ?_); refine goesL_ (some 36) rfl rfl Try.func83 (by kernel_rfl) rfl #[.string (a0.extract 0 ((ji4) : Int).toNat), .slice (some ⟨go12, 0, none⟩) y589.length co12] rfl (by (try simp only [List.map_toArray, List.map_cons, List.map_nil]); first | done | (rw [show y589.length = t586.length from (Kd.R_reads' HO588.out).1.symm] <;> rfl) | (simp only [hji4]; rfl) | rfl | (simp only [List.length_drop, List.length_take]; rfl)) ?_; (with_reducible refine (wigeonref01_text.calls k2 (a0.extract 0 ((ji4) : Int).toNat) _ _ y589 t590 _ ?side1 ?side2 A13.out).mono ?_); (case side1 => repeat (first | exact (Kd.R_reads' HO588.out).2.2 | (with_reducible refine Kd.C_alloc ?_ _) | (with_reducible refine Kd.C_drewN ?_ _) | (with_reducible refine Kd.C_drew ?_))); (case side2 => rw [show y589.length = t586.length from (Kd.R_reads' HO588.out).1.symm]; exact (Kd.R_reads' HO588.out).2.1); rintro e w' ⟨rfl, ⟨nd, rfl⟩⟩; refine ⟨_, rfl, ?_⟩) | (go_at_call 62; refine calls_of_args (args' := #[.slice (some ⟨go12, 0, none⟩) y589.length co12]) (by first | (rw [show y589.length = t586.length from (Kd.R_reads' HO588.out).1.symm] <;> rfl) | rfl) ?_; (with_reducible refine (wigeonref01_sum.calls k2 _ _ y589 t591 _ ?side1 ?side2 A18.out).mono ?_); (case side1 => repeat (first | exact (Kd.R_reads' HO588.out).2.2 | (with_reducible refine Kd.C_alloc ?_ _) | (with_reducible refine Kd.C_drewN ?_ _) | (with_reducible refine Kd.C_drew ?_))); (case side2 => rw [show y589.length = t586.length from (Kd.R_reads' HO588.out).1.symm]; exact (Kd.R_reads' HO588.out).2.1); rintro e w' ⟨rfl, ⟨nd, rfl⟩⟩; obtain ⟨Ao24, co24, eo24⟩ := Kd.R_slice HO_5.out; subst eo24) | ((with_reducible refine gate_callee (f := 87) rfl ?_); refine goesL_ (some 47) rfl rfl Try.func87 (by kernel_rfl) rfl #[.slice Ao24 x5_2.length co24, .string t590] rfl (by (try simp only [List.map_toArray, List.map_cons, List.map_nil]); first | done | rfl | (simp only [List.length_drop, List.length_take]; rfl)) ?_; (with_reducible refine (wigeonref01_put.calls k2 _ _ x5_2 t590 t592 _ ?side1 ?side2 A20.out).mono ?_); (case side1 => repeat (first | exact (Kd.R_reads' HO_5.out).2.2 | (with_reducible refine Kd.C_alloc ?_ _) | (with_reducible refine Kd.C_drewN ?_ _) | (with_reducible refine Kd.C_drew ?_))); (case side2 => exact (Kd.R_reads' HO_5.out).2.1); rintro e w25 ⟨v593, rfl, ho0, hb⟩; refine ⟨_, rfl, ?_⟩; have n0_ := Aside0.mk (Kd.R_elder' (by (with_reducible repeat (first | apply Kd.R_alloc | apply Kd.R_drewN | apply Kd.R_drew)); exact HO_5.out) (Kd.R_base ho0) hb); have n1_ := Aside0.mk (Kd.R_below (by (with_reducible repeat (first | apply Kd.R_alloc | apply Kd.R_drewN | apply Kd.R_drew)); exact HO588.out) hb); have n2_ := Aside0.mk (Kd.R_lower (Kd.R_new' ho0 (Kd.R_lt (by (with_reducible repeat (first | apply Kd.R_alloc | apply Kd.R_drewN | apply Kd.R_drew)); exact HO_5.out))) (below_size (by repeat (first | (with_reducible first | exact HB.out | apply below_alloc | apply pw_below_drewN | apply below_drew1) | exact HB.out)))); have n3_ := Aside0.mk (below_step (by repeat (first | (with_reducible first | exact HB.out | apply below_alloc | apply pw_below_drewN | apply below_drew1) | exact HB.out)) hb); clear HO_5; clear HO588; clear HB; have HO_5 := n0_; have HO588 := n1_; have HO594 := n2_; have HB := n3_; clear n0_ n1_ n2_ n3_; (try clear hb); (try clear hb2); (try clear hk); (try clear hi); (try clear ho0)))
                            go_roundg k2
                            case measure => have := HK1.out; have := HK2.out; omega
                            case rel => exact ⟨(t592), (wrap64 (x7_2 + 1)), (by first | rfl | (simp; done) | (simp [*]; done)), H', ⟨by have := HK1.out; have := HK2.out; omega⟩, ⟨by (with_reducible repeat (first | apply Kd.R_alloc | apply Kd.R_drewN | apply Kd.R_drew)); exact Kd.R_mono HO594.out (fun _ hk => trivial)⟩, ⟨by repeat (first | (with_reducible first | exact HB.out | apply below_alloc | apply pw_below_drewN | apply below_drew1) | exact HB.out)⟩⟩
                          · rw [if_neg c19] at H
                            have c19b0 : (t591 == 0) = false := beq_eq_false_iff_ne.mpr c19
                            have c19b1 : (t591 != 0) = true := bne_iff_ne.mpr c19
                            have H' := Aside0.mk H
                            clear H
                            go_wp2_with (first | ((with_reducible refine gate_callee (f := 77) rfl ?_); refine goesL_ (some 29) rfl rfl Try.func77 (by kernel_rfl) rfl #[.string a0] rfl (by (try simp only [List.map_toArray, List.map_cons, List.map_nil]); first | done | rfl | (simp only [List.length_drop, List.length_take]; rfl)) ?_; (with_reducible refine (wigeonref01_tail.calls k2 a0 t586 _ A9.out).mono ?_); rintro e w26 ⟨v587, rfl, ho0, hb⟩; refine ⟨_, rfl, ?_⟩; have n0_ := Aside0.mk (Kd.R_below (by (with_reducible repeat (first | apply Kd.R_alloc | apply Kd.R_drewN | apply Kd.R_drew)); exact HO_5.out) hb); have n1_ := Aside0.mk (Kd.R_lower ho0 (below_size (by repeat (first | (with_reducible first | exact HB.out | apply below_alloc | apply pw_below_drewN | apply below_drew1) | exact HB.out)))); have n2_ := Aside0.mk (below_step (by repeat (first | (with_reducible first | exact HB.out | apply below_alloc | apply pw_below_drewN | apply below_drew1) | exact HB.out)) hb); clear HO_5; clear HB; have HO_5 := n0_; have HO588 := n1_; have HB := n2_; clear n0_ n1_ n2_; (try clear hb); (try clear hb2); (try clear hk); (try clear hi); (try clear ho0); have p12 : 0 ≤ (x6_1 : Int) := of_decide_eq_true (by first | (with_reducible assumption) | assumption); have q12 : (x6_1 : Int) < ((t586.length : Int) : Int) := of_decide_eq_true (by first | (with_reducible assumption) | assumption); obtain ⟨go12, co12, eo12, gb12, gl12, cl12, HG12⟩ := Kd.R_form HO588.out (by omega); (first | cases eo12 | (injection eo12 with ea_ en_ ec_; (first | subst ea_ | (injection ea_ with ea_; subst ea_)); subst ec_; clear en_)); have GB12 := Aside0.mk gb12; have GG12 := Aside0.mk HG12; clear gb12 gl12 HG12; obtain ⟨hx12_0, hf12_0⟩ := Kd.R_celln 0 HO588.out (x6_1 : Int) p12 q12; replace p12 := eq_true p12; replace q12 := eq_true q12; obtain ⟨hy27_, hz27_⟩ := Kd.R_celln 0 HO588.out (x6_1 : Int) (of_decide_eq_true (by first | (with_reducible assumption) | assumption)) (of_decide_eq_true (by first | (with_reducible assumption) | assumption)); have HP27 := Kd.R_putg HO588.out (x6_1 : Int) x7_2) | ((with_reducible refine gate_store (t := 3) (p := 33) rfl ?_); refine store_event (t := 3) (p := 33) (v := ?vo_w28) (w1 := (w26.setCell ⟨go12, (x6_1 : Int).toNat, none⟩ (.int .i64 x7_2))) ?hg ?ho ?hn ?hr ?_; (case ho => rfl); (case hg => rfl); (case hn => rfl); (case hr => first | (go_simp; done) | (go_simp; rfl)); intro w28 hw; have hg : w26.grownBy w28 (some go12) := (by rw [hw]; exact HP27.2); have hp_ : Kd.R (Kd.int .i64) 3 w28 w.heap.size (fun _ => True) (.slice (some ⟨go12, 0, none⟩) t586.length co12) y589 := (by rw [hw, Ny589.out]; exact HP27.1); clear HP27; have n0_ := Aside0.mk (Kd.R_over' (v := (.slice (some ⟨go12, 0, none⟩) t586.length co12)) (by (with_reducible repeat (first | apply Kd.R_alloc | apply Kd.R_drewN | apply Kd.R_drew)); exact HO_5.out) (Kd.R_typed HO588.out) (by decide) hg); have n1_ := Aside0.mk (hp_); have n2_ := Aside0.mk ((by rw [hw]; exact below_set (HB.out) GB12.out : Below w.heap.size w w28)); clear HO_5; clear HO588; clear HB; have HO_5 := n0_; have HO588 := n1_; have HB := n2_; clear n0_ n1_ n2_; clear hg hw hp_) | ((with_reducible refine gate_callee (f := 83) rfl ?_); refine goesL_ (some 36) rfl rfl Try.func83 (by kernel_rfl) rfl #[.string (a0.extract 0 ((ji4) : Int).toNat), .slice (some ⟨go12, 0, none⟩) y589.length co12] rfl (by (try simp only [List.map_toArray, List.map_cons, List.map_nil]); first | done | (rw [show y589.length = t586.length from (Kd.R_reads' HO588.out).1.symm] <;> rfl) | (simp only [hji4]; rfl) | rfl | (simp only [List.length_drop, List.length_take]; rfl)) ?_; (with_reducible refine (wigeonref01_text.calls k2 (a0.extract 0 ((ji4) : Int).toNat) _ _ y589 t590 _ ?side1 ?side2 A13.out).mono ?_); (case side1 => repeat (first | exact (Kd.R_reads' HO588.out).2.2 | (with_reducible refine Kd.C_alloc ?_ _) | (with_reducible refine Kd.C_drewN ?_ _) | (with_reducible refine Kd.C_drew ?_))); (case side2 => rw [show y589.length = t586.length from (Kd.R_reads' HO588.out).1.symm]; exact (Kd.R_reads' HO588.out).2.1); rintro e w' ⟨rfl, ⟨nd, rfl⟩⟩; refine ⟨_, rfl, ?_⟩) | (go_at_call 62; refine calls_of_args (args' := #[.slice (some ⟨go12, 0, none⟩) y589.length co12]) (by first | (rw [show y589.length = t586.length from (Kd.R_reads' HO588.out).1.symm] <;> rfl) | rfl) ?_; (with_reducible refine (wigeonref01_sum.calls k2 _ _ y589 t591 _ ?side1 ?side2 A18.out).mono ?_); (case side1 => repeat (first | exact (Kd.R_reads' HO588.out).2.2 | (with_reducible refine Kd.C_alloc ?_ _) | (with_reducible refine Kd.C_drewN ?_ _) | (with_reducible refine Kd.C_drew ?_))); (case side2 => rw [show y589.length = t586.length from (Kd.R_reads' HO588.out).1.symm]; exact (Kd.R_reads' HO588.out).2.1); rintro e w' ⟨rfl, ⟨nd, rfl⟩⟩))
                            go_roundg k2
                            case measure => have := HK1.out; have := HK2.out; omega
                            case rel => exact ⟨(x5_2), (wrap64 (x7_2 + 1)), (by first | rfl | (simp; done) | (simp [*]; done)), H', ⟨by have := HK1.out; have := HK2.out; omega⟩, ⟨by (with_reducible repeat (first | apply Kd.R_alloc | apply Kd.R_drewN | apply Kd.R_drew)); exact HO_5.out⟩, ⟨by repeat (first | (with_reducible first | exact HB.out | apply below_alloc | apply pw_below_drewN | apply below_drew1) | exact HB.out)⟩⟩
                      · rw [if_neg c11] at H
                        exact absurd H (by simp)
                    · rw [if_neg c10] at H
                      exact absurd H (by simp)
                  · rw [if_neg c8] at H
                    have c8b0 : decide (x7_2 < 10) = false := decide_eq_false c8
                    clear c8
                    replace H := Option.bind_eq_some_iff.mp H
                    obtain ⟨t595, A290, H⟩ := H
                    replace H : (if x6_1 > 0 then (if 0 ≤ x6_1 then (if x6_1 < (t595.length : Int) then (if 0 ≤ (wrap64 (x6_1 - 1)) then (if (wrap64 (x6_1 - 1)) < (t595.length : Int) then ((some ((t595.set ((wrap64 (x6_1 - 1)) : Int).toNat (rd t595 x6_1)).set (x6_1 : Int).toNat (rd t595 (wrap64 (x6_1 - 1))) : List Int)).bind fun y601 => ((wigeonref01_text.f k2 (a0.extract 0 ((ji4) : Int).toNat) y601).bind fun t602 => (if t602.toList = a0.toList then (wigeonref01_Near.l0 k2 a0 (a0.extract 0 ((ji4) : Int).toNat) x5_2 (wrap64 (x6_1 + 1))) else ((wigeonref01_sum.f k2 y601).bind fun t603 => (if t603 = 0 then ((wigeonref01_put.f k2 x5_2 t602).bind fun t604 => (wigeonref01_Near.l0 k2 a0 (a0.extract 0 ((ji4) : Int).toNat) t604 (wrap64 (x6_1 + 1)))) else (wigeonref01_Near.l0 k2 a0 (a0.extract 0 ((ji4) : Int).toNat) x5_2 (wrap64 (x6_1 + 1)))))))) else (none)) else (none)) else (none)) else (none)) else (wigeonref01_Near.l0 k2 a0 (a0.extract 0 ((ji4) : Int).toNat) x5_2 (wrap64 (x6_1 + 1)))) = some (r1, r2) := H
                    have A29 := Aside0.mk A290
                    clear A290
                    by_cases c30 : x6_1 > 0
                    · rw [if_pos c30] at H
                      have c30b0 : decide (0 < x6_1) = true := decide_eq_true c30
                      clear c30
                      by_cases c31 : 0 ≤ x6_1
                      · rw [if_pos c31] at H
                        have c31b0 : decide (0 ≤ x6_1) = true := decide_eq_true c31
                        clear c31
                        by_cases c32 : x6_1 < (t595.length : Int)
                        · rw [if_pos c32] at H
                          have c32b0 : decide (x6_1 < (t595.length : Int)) = true := decide_eq_true c32
                          clear c32
                          obtain ⟨ji33, hji33⟩ : ∃ j_ : Int, (wrap64 (x6_1 - 1)) = j_ := ⟨_, rfl⟩
                          replace H : (if 0 ≤ (ji33) then (if (ji33) < (t595.length : Int) then ((some ((t595.set ((ji33) : Int).toNat (rd t595 x6_1)).set (x6_1 : Int).toNat (rd t595 (ji33)) : List Int)).bind fun y601 => ((wigeonref01_text.f k2 (a0.extract 0 ((ji4) : Int).toNat) y601).bind fun t602 => (if t602.toList = a0.toList then (wigeonref01_Near.l0 k2 a0 (a0.extract 0 ((ji4) : Int).toNat) x5_2 (wrap64 (x6_1 + 1))) else ((wigeonref01_sum.f k2 y601).bind fun t603 => (if t603 = 0 then ((wigeonref01_put.f k2 x5_2 t602).bind fun t604 => (wigeonref01_Near.l0 k2 a0 (a0.extract 0 ((ji4) : Int).toNat) t604 (wrap64 (x6_1 + 1)))) else (wigeonref01_Near.l0 k2 a0 (a0.extract 0 ((ji4) : Int).toNat) x5_2 (wrap64 (x6_1 + 1)))))))) else (none)) else (none)) = some (r1, r2) := by first | (rw [hji33] at H; exact H) | (simp only [hji33] at H ⊢; exact H)
                          (try rw [hji33] at A29)
                          have hji33w : (IntKind.i64.wrap (x6_1 - 1)) = ji33 := (i64_w _).trans hji33
                          by_cases c34 : 0 ≤ (ji33)
                          · rw [if_pos c34] at H
                            have c34b0 : decide (0 ≤ (ji33)) = true := decide_eq_true c34
                            clear c34
                            by_cases c35 : (ji33) < (t595.length : Int)
                            · rw [if_pos c35] at H
                              have c35b0 : decide ((ji33) < (t595.length : Int)) = true := decide_eq_true c35
                              clear c35
                              obtain ⟨y600, hy600⟩ : ∃ y_ : List Int, y_ = (t595.set ((ji33) : Int).toNat (rd t595 x6_1)) := ⟨_, rfl⟩
                              replace H : ((some (y600.set (x6_1 : Int).toNat (rd t595 (ji33)) : List Int)).bind fun y601 => ((wigeonref01_text.f k2 (a0.extract 0 ((ji4) : Int).toNat) y601).bind fun t602 => (if t602.toList = a0.toList then (wigeonref01_Near.l0 k2 a0 (a0.extract 0 ((ji4) : Int).toNat) x5_2 (wrap64 (x6_1 + 1))) else ((wigeonref01_sum.f k2 y601).bind fun t603 => (if t603 = 0 then ((wigeonref01_put.f k2 x5_2 t602).bind fun t604 => (wigeonref01_Near.l0 k2 a0 (a0.extract 0 ((ji4) : Int).toNat) t604 (wrap64 (x6_1 + 1)))) else (wigeonref01_Near.l0 k2 a0 (a0.extract 0 ((ji4) : Int).toNat) x5_2 (wrap64 (x6_1 + 1)))))))) = some (r1, r2) := by first | (rw [hy600]; with_reducible exact H) | (have H2_ := (Option.bind_some _ _).symm.trans H; rw [hy600]; with_reducible exact H2_) | (have H2_ := (Option.bind_some _ _).symm.trans H; with_reducible exact H2_) | with_reducible exact H | (rw [hy600]; exact H) | exact H
                              have Ny600 := Aside0.mk hy600
                              clear hy600
                              obtain ⟨y601, hy601⟩ : ∃ y_ : List Int, y_ = (y600.set (x6_1 : Int).toNat (rd t595 (ji33))) := ⟨_, rfl⟩
                              replace H : ((wigeonref01_text.f k2 (a0.extract 0 ((ji4) : Int).toNat) y601).bind fun t602 => (if t602.toList = a0.toList then (wigeonref01_Near.l0 k2 a0 (a0.extract 0 ((ji4) : Int).toNat) x5_2 (wrap64 (x6_1 + 1))) else ((wigeonref01_sum.f k2 y601).bind fun t603 => (if t603 = 0 then ((wigeonref01_put.f k2 x5_2 t602).bind fun t604 => (wigeonref01_Near.l0 k2 a0 (a0.extract 0 ((ji4) : Int).toNat) t604 (wrap64 (x6_1 + 1)))) else (wigeonref01_Near.l0 k2 a0 (a0.extract 0 ((ji4) : Int).toNat) x5_2 (wrap64 (x6_1 + 1))))))) = some (r1, r2) := by first | (rw [hy601]; with_reducible exact H) | (have H2_ := (Option.bind_some _ _).symm.trans H; rw [hy601]; with_reducible exact H2_) | (have H2_ := (Option.bind_some _ _).symm.trans H; with_reducible exact H2_) | with_reducible exact H | (rw [hy601]; exact H) | exact H
                              have Ny601 := Aside0.mk hy601
                              clear hy601
                              replace H := Option.bind_eq_some_iff.mp H
                              obtain ⟨t602, A380, H⟩ := H
                              replace H : (if t602.toList = a0.toList then (wigeonref01_Near.l0 k2 a0 (a0.extract 0 ((ji4) : Int).toNat) x5_2 (wrap64 (x6_1 + 1))) else ((wigeonref01_sum.f k2 y601).bind fun t603 => (if t603 = 0 then ((wigeonref01_put.f k2 x5_2 t602).bind fun t604 => (wigeonref01_Near.l0 k2 a0 (a0.extract 0 ((ji4) : Int).toNat) t604 (wrap64 (x6_1 + 1)))) else (wigeonref01_Near.l0 k2 a0 (a0.extract 0 ((ji4) : Int).toNat) x5_2 (wrap64 (x6_1 + 1)))))) = some (r1, r2) := H
                              have A38 := Aside0.mk A380
                              clear A380
                              by_cases c39 : t602.toList = a0.toList
                              · rw [if_pos c39] at H
                                have c39b0 : (t602.toList == a0.toList) = true := beq_iff_eq.mpr c39
                                have c39b1 : (t602.toList != a0.toList) = false := bne_eq_false_iff_eq.mpr c39
                                clear c39
                                have H' := Aside0.mk H
                                clear H
                                try go_wp2_with (first | ((with_reducible refine gate_callee (f := 77) rfl ?_); refine goesL_ (some 49) rfl rfl Try.func77 (by kernel_rfl) rfl #[.string a0] rfl (by (try simp only [List.map_toArray, List.map_cons, List.map_nil]); first | done | rfl | (simp only [List.length_drop, List.length_take]; rfl)) ?_; (with_reducible refine (wigeonref01_tail.calls k2 a0 t595 _ A29.out).mono ?_); rintro e w40 ⟨v596, rfl, ho0, hb⟩; refine ⟨_, rfl, ?_⟩; have n0_ := Aside0.mk (Kd.R_below (by (with_reducible repeat (first | apply Kd.R_alloc | apply Kd.R_drewN | apply Kd.R_drew)); exact HO_5.out) hb); have n1_ := Aside0.mk (Kd.R_lower ho0 (below_size (by repeat (first | (with_reducible first | exact HB.out | apply below_alloc | apply pw_below_drewN | apply below_drew1) | exact HB.out)))); have n2_ := Aside0.mk (below_step (by repeat (first | (with_reducible first | exact HB.out | apply below_alloc | apply pw_below_drewN | apply below_drew1) | exact HB.out)) hb); clear HO_5; clear HB; have HO_5 := n0_; have HO597 := n1_; have HB := n2_; clear n0_ n1_ n2_; (try clear hb); (try clear hb2); (try clear hk); (try clear hi); (try clear ho0)))
                                have n0_ := Aside0.mk (Kd.R_drew HO_5.out)
                                have n1_ := Aside0.mk (Kd.R_drew HO597.out)
                                have n2_ := Aside0.mk (below_drew1 HB.out)
                                clear HO_5
                                clear HO597
                                clear HB
                                have HO_5 := n0_
                                have HO597 := n1_
                                have HB := n2_
                                clear n0_ n1_ n2_
                                obtain ⟨Ao42, co42, eo42⟩ := Kd.R_slice HO597.out
                                (first | subst eo42 | (injection eo42 with f1_ f2_ f3_; have f4_ := f1_.symm; have f5_ := f3_.symm; clear f1_ f2_ f3_; subst f4_; subst f5_))
                                have p598 : 0 ≤ (x6_1 : Int) := of_decide_eq_true (by first | (with_reducible assumption) | assumption)
                                have q598 : x6_1 < (t595.length : Int) := of_decide_eq_true (by first | (with_reducible assumption) | assumption)
                                obtain ⟨ad598, e598, hx598_0⟩ := Kd.at_int (Kd.R_reads' HO597.out).2.2 x6_1 p598 q598
                                cases e598
                                replace p598 := eq_true p598
                                replace q598 := eq_true q598
                                have p599 : 0 ≤ ((ji33) : Int) := of_decide_eq_true (by first | (with_reducible assumption) | assumption)
                                have q599 : (ji33) < (t595.length : Int) := of_decide_eq_true (by first | (with_reducible assumption) | assumption)
                                obtain ⟨ad599, e599, hx599_0⟩ := Kd.at_int (Kd.R_reads' HO597.out).2.2 (ji33) p599 q599
                                obtain rfl : ad598 = ad599 := (by injection e599)
                                replace p599 := eq_true p599
                                replace q599 := eq_true q599
                                have p36 : 0 ≤ ((ji33) : Int) := of_decide_eq_true (by first | (with_reducible assumption) | assumption)
                                have q36 : ((ji33) : Int) < ((t595.length : Int) : Int) := of_decide_eq_true (by first | (with_reducible assumption) | assumption)
                                obtain ⟨go36, co36, eo36, gb36, gl36, cl36, HG36⟩ := Kd.R_form HO597.out (by omega)
                                (first | cases eo36 | (injection eo36 with ea_ en_ ec_; (first | subst ea_ | (injection ea_ with ea_; subst ea_)); subst ec_; clear en_))
                                have GB36 := Aside0.mk gb36
                                have GG36 := Aside0.mk HG36
                                clear gb36 gl36 HG36
                                (first | simp only [add_plain] at hx598_0 | skip)
                                (first | simp only [add_plain] at hx599_0 | skip)
                                obtain ⟨hx36_0, hf36_0⟩ := Kd.R_celln 0 HO597.out ((ji33) : Int) p36 q36
                                replace p36 := eq_true p36
                                replace q36 := eq_true q36
                                have HP43 := Kd.R_putn HO597.out ((ji33) : Int) (rd t595 x6_1)
                                rw [← Ny600.out] at HP43
                                have HQ43 := Aside0.mk HP43
                                clear HP43
                                have p37 : 0 ≤ (x6_1 : Int) := of_decide_eq_true (by first | (with_reducible assumption) | assumption)
                                have q37 : (x6_1 : Int) < ((t595.length : Int) : Int) := of_decide_eq_true (by first | (with_reducible assumption) | assumption)
                                obtain ⟨hx37_0, hf37_0⟩ := Kd.R_celln 0 HQ43.out (x6_1 : Int) p37 q37
                                replace p37 := eq_true p37
                                replace q37 := eq_true q37
                                have HP44 := Kd.R_putn HQ43.out (x6_1 : Int) (rd t595 (ji33))
                                rw [← Ny601.out] at HP44
                                have HQ44 := Aside0.mk HP44
                                clear HP44
                                refine start_ (n := 18) (S := fun w' => w'.cell? ⟨go36, (x6_1).toNat, none⟩ = some (.int .i64 (rd t595 x6_1)) ∧ w'.cell? ⟨go36, ((ji33)).toNat, none⟩ = some (.int .i64 (rd t595 (ji33)))) (ds := [15, 17]) #[false, false, false, false, false, false, false, false, false, false, false, false, false, false, false, false, false, false] (by kernel_rfl) rfl rfl ⟨hx598_0, hx599_0⟩ (fun hHeld => ?_); refine with_tabW wigeonref01_Near.tab18 wigeonref01_Near.bits18 (fun HT_ HW_ => ?_)
                                generalize w40.drew = w41 at HO_5 HO597 HB GG36 HQ43 HQ44 hf36_0 hf37_0 hx36_0 hx37_0 hx598_0 hx599_0 hHeld ⊢
                                refine pure_ (i := 0) (N := some 52) (v := ?_) (a' := ?_) #[true, false, false, false, false, false, false, false, false, false, false, false, false, false, false, false, false, false] rfl rfl (any_of HT_.out (by kernel_rfl)) (fun _ _ _ h => h) (Or.inl ⟨by rfl, ?_⟩) ?_ ?_
                                rotate_left
                                · intro w'
                                  go_simp
                                  with_reducible rfl
                                rotate_left
                                · simp only [Act.put, List.setIfInBounds_toArray, List.set_cons_zero, List.set_cons_succ, i64_w, i32_w]
                                  rfl
                                refine pure_ (i := 1) (N := some 53) (v := ?_) (a' := ?_) #[true, true, false, false, false, false, false, false, false, false, false, false, false, false, false, false, false, false] rfl rfl (any_of HT_.out (by kernel_rfl)) (fun _ _ _ h => h) (Or.inl ⟨by rfl, ?_⟩) ?_ ?_
                                rotate_left
                                · intro w'
                                  go_simp
                                  with_reducible rfl
                                rotate_left
                                · simp only [Act.put, List.setIfInBounds_toArray, List.set_cons_zero, List.set_cons_succ, i64_w, i32_w]
                                  rfl
                                refine pure_ (i := 2) (N := some 54) (v := ?_) (a' := ?_) #[true, true, true, false, false, false, false, false, false, false, false, false, false, false, false, false, false, false] rfl rfl (any_of HT_.out (by kernel_rfl)) (fun _ _ _ h => h) (Or.inl ⟨by rfl, ?_⟩) ?_ ?_
                                rotate_left
                                · intro w'
                                  go_simp
                                  with_reducible rfl
                                rotate_left
                                · simp only [Act.put, List.setIfInBounds_toArray, List.set_cons_zero, List.set_cons_succ, i64_w, i32_w]
                                  rfl
                                refine pure_ (i := 3) (N := some 55) (v := ?_) (a' := ?_) #[true, true, true, true, false, false, false, false, false, false, false, false, false, false, false, false, false, false] rfl rfl (any_of HT_.out (by kernel_rfl)) (fun _ _ _ h => h) (Or.inl ⟨by rfl, ?_⟩) ?_ ?_
                                rotate_left
                                · intro w'
                                  go_simp
                                  with_reducible rfl
                                rotate_left
                                · simp only [Act.put, List.setIfInBounds_toArray, List.set_cons_zero, List.set_cons_succ, i64_w, i32_w]
                                  rfl
                                refine pure_ (i := 4) (N := some 56) (v := ?_) (a' := ?_) #[true, true, true, true, true, false, false, false, false, false, false, false, false, false, false, false, false, false] rfl rfl (any_of HT_.out (by kernel_rfl)) (fun _ _ _ h => h) (Or.inl ⟨by rfl, ?_⟩) ?_ ?_
                                rotate_left
                                · intro w'
                                  go_simp
                                  with_reducible rfl
                                rotate_left
                                · simp only [Act.put, List.setIfInBounds_toArray, List.set_cons_zero, List.set_cons_succ, i64_w, i32_w]
                                  rfl
                                refine pure_ (i := 5) (N := some 57) (v := ?_) (a' := ?_) #[true, true, true, true, true, true, false, false, false, false, false, false, false, false, false, false, false, false] rfl rfl (any_of HT_.out (by kernel_rfl)) (fun _ _ _ h => h) (Or.inl ⟨by rfl, ?_⟩) ?_ ?_
                                rotate_left
                                · intro w'
                                  go_simp
                                  with_reducible rfl
                                rotate_left
                                · simp only [Act.put, List.setIfInBounds_toArray, List.set_cons_zero, List.set_cons_succ, i64_w, i32_w]
                                  rfl
                                refine pure_ (i := 6) (N := some 58) (v := ?_) (a' := ?_) #[true, true, true, true, true, true, true, false, false, false, false, false, false, false, false, false, false, false] rfl rfl (any_of HT_.out (by kernel_rfl)) (fun _ _ _ h => h) (Or.inl ⟨by rfl, ?_⟩) ?_ ?_
                                rotate_left
                                · intro w'
                                  go_simp
                                  with_reducible rfl
                                rotate_left
                                · simp only [Act.put, List.setIfInBounds_toArray, List.set_cons_zero, List.set_cons_succ, i64_w, i32_w]
                                  rfl
                                refine pure_ (i := 7) (N := some 59) (v := ?_) (a' := ?_) #[true, true, true, true, true, true, true, true, false, false, false, false, false, false, false, false, false, false] rfl rfl (any_of HT_.out (by kernel_rfl)) (fun _ _ _ h => h) (Or.inl ⟨by rfl, ?_⟩) ?_ ?_
                                rotate_left
                                · intro w'
                                  go_simp
                                  with_reducible rfl
                                rotate_left
                                · simp only [Act.put, List.setIfInBounds_toArray, List.set_cons_zero, List.set_cons_succ, i64_w, i32_w]
                                  rfl
                                refine pure_ (i := 9) (N := some 61) (v := ?_) (a' := ?_) #[true, true, true, true, true, true, true, true, false, true, false, false, false, false, false, false, false, false] rfl rfl (any_of HT_.out (by kernel_rfl)) (fun _ _ _ h => h) (Or.inl ⟨by rfl, ?_⟩) ?_ ?_
                                rotate_left
                                · intro w'
                                  go_simp
                                  with_reducible rfl
                                rotate_left
                                · simp only [Act.put, List.setIfInBounds_toArray, List.set_cons_zero, List.set_cons_succ, i64_w, i32_w]
                                  rfl
                                refine pure_ (i := 10) (N := some 62) (v := ?_) (a' := ?_) #[true, true, true, true, true, true, true, true, false, true, true, false, false, false, false, false, false, false] rfl rfl (any_of HT_.out (by kernel_rfl)) (fun _ _ _ h => h) (Or.inl ⟨by rfl, ?_⟩) ?_ ?_
                                rotate_left
                                · intro w'
                                  go_simp
                                  with_reducible rfl
                                rotate_left
                                · simp only [Act.put, List.setIfInBounds_toArray, List.set_cons_zero, List.set_cons_succ, i64_w, i32_w]
                                  rfl
                                refine pure_ (i := 11) (N := some 63) (v := ?_) (a' := ?_) #[true, true, true, true, true, true, true, true, false, true, true, true, false, false, false, false, false, false] rfl rfl (any_of HT_.out (by kernel_rfl)) (fun _ _ _ h => h) (Or.inl ⟨by rfl, ?_⟩) ?_ ?_
                                rotate_left
                                · intro w'
                                  go_simp
                                  with_reducible rfl
                                rotate_left
                                · simp only [Act.put, List.setIfInBounds_toArray, List.set_cons_zero, List.set_cons_succ, i64_w, i32_w]
                                  rfl
                                refine pure_ (i := 12) (N := some 64) (v := ?_) (a' := ?_) #[true, true, true, true, true, true, true, true, false, true, true, true, true, false, false, false, false, false] rfl rfl (any_of HT_.out (by kernel_rfl)) (fun _ _ _ h => h) (Or.inl ⟨by rfl, ?_⟩) ?_ ?_
                                rotate_left
                                · intro w'
                                  go_simp
                                  with_reducible rfl
                                rotate_left
                                · simp only [Act.put, List.setIfInBounds_toArray, List.set_cons_zero, List.set_cons_succ, i64_w, i32_w]
                                  rfl
                                refine take_ (i := 8) (N := some 60) (v := ?_) (a' := ?_) #[true, true, true, true, true, true, true, true, true, true, true, true, true, false, false, false, false, false] rfl rfl (take_ofW HT_.out HW_.out (by kernel_rfl)) (fun _ _ _ h => h) (Or.inl ⟨by rfl, ?_⟩) hHeld ?_ ?_
                                rotate_left
                                · rintro w' ⟨s0, s1⟩
                                  go_simp
                                  with_reducible rfl
                                rotate_left
                                · simp only [Act.put, List.setIfInBounds_toArray, List.set_cons_zero, List.set_cons_succ, i64_w, i32_w]
                                  rfl
                                refine take_ (i := 13) (N := some 65) (v := ?_) (a' := ?_) #[true, true, true, true, true, true, true, true, true, true, true, true, true, true, false, false, false, false] rfl rfl (take_ofW HT_.out HW_.out (by kernel_rfl)) (fun _ _ _ h => h) (Or.inl ⟨by rfl, ?_⟩) hHeld ?_ ?_
                                rotate_left
                                · rintro w' ⟨s0, s1⟩
                                  go_simp
                                  with_reducible rfl
                                rotate_left
                                · simp only [Act.put, List.setIfInBounds_toArray, List.set_cons_zero, List.set_cons_succ, i64_w, i32_w]
                                  rfl
                                refine pure_ (i := 14) (N := some 66) (v := ?_) (a' := ?_) #[true, true, true, true, true, true, true, true, true, true, true, true, true, true, true, false, false, false] rfl rfl (any_of HT_.out (by kernel_rfl)) (fun _ _ _ h => h) (Or.inl ⟨by rfl, ?_⟩) ?_ ?_
                                rotate_left
                                · intro w'
                                  go_simp
                                  with_reducible rfl
                                rotate_left
                                · simp only [Act.put, List.setIfInBounds_toArray, List.set_cons_zero, List.set_cons_succ, i64_w, i32_w]
                                  rfl
                                refine last_ (i := 15) (N := none) #[true, true, true, true, true, true, true, true, true, true, true, true, true, true, true, true, false, false] rfl rfl (one_of HT_.out (by kernel_rfl)) (by decide) (fun K hK => ?_)
                                refine skip_ (w1 := ?_) (by rfl) rfl ?_ ?_
                                rotate_left
                                · go_simp
                                  rfl
                                refine hK.out _ _ ?_
                                clear hK K
                                refine pure_ (i := 16) (N := some 67) (v := ?_) (a' := ?_) #[true, true, true, true, true, true, true, true, true, true, true, true, true, true, true, true, true, false] rfl rfl (any_of HT_.out (by kernel_rfl)) (fun _ _ _ h => h) (Or.inl ⟨by rfl, ?_⟩) ?_ ?_
                                rotate_left
                                · intro w'
                                  go_simp
                                  with_reducible rfl
                                rotate_left
                                · simp only [Act.put, List.setIfInBounds_toArray, List.set_cons_zero, List.set_cons_succ, i64_w, i32_w]
                                  rfl
                                refine last_ (i := 17) (N := none) #[true, true, true, true, true, true, true, true, true, true, true, true, true, true, true, true, true, true] rfl rfl (one_of HT_.out (by kernel_rfl)) (by decide) (fun K hK => ?_)
                                refine skip_ (w1 := ?_) (by rfl) rfl ?_ ?_
                                rotate_left
                                · go_simp
                                  rfl
                                refine hK.out _ _ ?_
                                clear hK K
                                refine done_ (done_of HT_.out (by kernel_rfl)) ?_
                                try go_wp2_with (first | ((with_reducible refine gate_callee (f := 83) rfl ?_); refine goesL_ (some 70) rfl rfl Try.func83 (by kernel_rfl) rfl #[.string (a0.extract 0 ((ji4) : Int).toNat), .slice (some ⟨go36, 0, none⟩) y601.length co42] rfl (by (try simp only [List.map_toArray, List.map_cons, List.map_nil]); first | done | (rw [show y601.length = t595.length from (Kd.R_reads' HQ44.out).1.symm] <;> rfl) | (simp only [hji4]; rfl) | rfl | (simp only [List.length_drop, List.length_take]; rfl)) ?_; (with_reducible refine (wigeonref01_text.calls k2 (a0.extract 0 ((ji4) : Int).toNat) _ _ y601 t602 _ ?side1 ?side2 A38.out).mono ?_); (case side1 => refine (Kd.R_reads' (e := 3) (base := w.heap.size) (ok := fun k_ => True) (n := t595.length) (c := co42) ?_).2.2; exact (by (with_reducible repeat (first | apply Kd.R_alloc | apply Kd.R_drewN | apply Kd.R_drew)); exact HQ44.out)); (case side2 => rw [show y601.length = t595.length from (Kd.R_reads' HQ44.out).1.symm]; exact (Kd.R_reads' HO597.out).2.1); rintro e w' ⟨rfl, ⟨nd, rfl⟩⟩; refine ⟨_, rfl, ?_⟩))
                                go_roundg k2
                                case measure => have := HK1.out; have := HK2.out; omega
                                case rel => exact ⟨(x5_2), (wrap64 (x6_1 + 1)), (by first | rfl | (simp; done) | (simp [*]; done)), H', ⟨by have := HK1.out; have := HK2.out; omega⟩, ⟨by (with_reducible repeat (first | apply Kd.R_alloc | apply Kd.R_drewN | apply Kd.R_drew)); exact Kd.R_mono (Kd.R_far (p := ⟨go36, (x6_1 : Int).toNat, none⟩) (Kd.R_far (p := ⟨go36, ((ji33) : Int).toNat, none⟩) (Kd.R_types HO_5.out GG36.out (by decide)) (fun _ hk => hk.2) (.int .i64 (rd t595 x6_1))) (fun _ hk => hk.2) (.int .i64 (rd t595 (ji33)))) (fun _ hk => trivial)⟩, ⟨by repeat (first | (with_reducible first | exact HB.out | apply below_alloc | apply pw_below_drewN | apply below_drew1 | refine below_set ?_ GB36.out | refine below_set ?_ GB36.out) | exact HB.out)⟩⟩
                              · rw [if_neg c39] at H
                                have c39b0 : (t602.toList == a0.toList) = false := beq_eq_false_iff_ne.mpr c39
                                have c39b1 : (t602.toList != a0.toList) = true := bne_iff_ne.mpr c39
                                replace H := Option.bind_eq_some_iff.mp H
                                obtain ⟨t603, A450, H⟩ := H
                                replace H : (if t603 = 0 then ((wigeonref01_put.f k2 x5_2 t602).bind fun t604 => (wigeonref01_Near.l0 k2 a0 (a0.extract 0 ((ji4) : Int).toNat) t604 (wrap64 (x6_1 + 1)))) else (wigeonref01_Near.l0 k2 a0 (a0.extract 0 ((ji4) : Int).toNat) x5_2 (wrap64 (x6_1 + 1)))) = some (r1, r2) := H
                                have A45 := Aside0.mk A450
                                clear A450
                                by_cases c46 : t603 = 0
                                · rw [if_pos c46] at H
                                  have c46b0 : (t603 == 0) = true := beq_iff_eq.mpr c46
                                  have c46b1 : (t603 != 0) = false := bne_eq_false_iff_eq.mpr c46
                                  clear c46
                                  replace H := Option.bind_eq_some_iff.mp H
                                  obtain ⟨t604, A470, H⟩ := H
                                  replace H : (wigeonref01_Near.l0 k2 a0 (a0.extract 0 ((ji4) : Int).toNat) t604 (wrap64 (x6_1 + 1))) = some (r1, r2) := H
                                  have A47 := Aside0.mk A470
                                  clear A470
                                  have H' := Aside0.mk H
                                  clear H
                                  try go_wp2_with (first | ((with_reducible refine gate_callee (f := 77) rfl ?_); refine goesL_ (some 49) rfl rfl Try.func77 (by kernel_rfl) rfl #[.string a0] rfl (by (try simp only [List.map_toArray, List.map_cons, List.map_nil]); first | done | rfl | (simp only [List.length_drop, List.length_take]; rfl)) ?_; (with_reducible refine (wigeonref01_tail.calls k2 a0 t595 _ A29.out).mono ?_); rintro e w48 ⟨v596, rfl, ho0, hb⟩; refine ⟨_, rfl, ?_⟩; have n0_ := Aside0.mk (Kd.R_below (by (with_reducible repeat (first | apply Kd.R_alloc | apply Kd.R_drewN | apply Kd.R_drew)); exact HO_5.out) hb); have n1_ := Aside0.mk (Kd.R_lower ho0 (below_size (by repeat (first | (with_reducible first | exact HB.out | apply below_alloc | apply pw_below_drewN | apply below_drew1) | exact HB.out)))); have n2_ := Aside0.mk (below_step (by repeat (first | (with_reducible first | exact HB.out | apply below_alloc | apply pw_below_drewN | apply below_drew1) | exact HB.out)) hb); clear HO_5; clear HB; have HO_5 := n0_; have HO597 := n1_; have HB := n2_; clear n0_ n1_ n2_; (try clear hb); (try clear hb2); (try clear hk); (try clear hi); (try clear ho0)))
                                  have n0_ := Aside0.mk (Kd.R_drew HO_5.out)
                                  have n1_ := Aside0.mk (Kd.R_drew HO597.out)
                                  have n2_ := Aside0.mk (below_drew1 HB.out)
                                  clear HO_5
                                  clear HO597
                                  clear HB
                                  have HO_5 := n0_
                                  have HO597 := n1_
                                  have HB := n2_
                                  clear n0_ n1_ n2_
                                  obtain ⟨Ao50, co50, eo50⟩ := Kd.R_slice HO597.out
                                  (first | subst eo50 | (injection eo50 with f1_ f2_ f3_; have f4_ := f1_.symm; have f5_ := f3_.symm; clear f1_ f2_ f3_; subst f4_; subst f5_))
                                  have p598 : 0 ≤ (x6_1 : Int) := of_decide_eq_true (by first | (with_reducible assumption) | assumption)
                                  have q598 : x6_1 < (t595.length : Int) := of_decide_eq_true (by first | (with_reducible assumption) | assumption)
                                  obtain ⟨ad598, e598, hx598_0⟩ := Kd.at_int (Kd.R_reads' HO597.out).2.2 x6_1 p598 q598
                                  cases e598
                                  replace p598 := eq_true p598
                                  replace q598 := eq_true q598
                                  have p599 : 0 ≤ ((ji33) : Int) := of_decide_eq_true (by first | (with_reducible assumption) | assumption)
                                  have q599 : (ji33) < (t595.length : Int) := of_decide_eq_true (by first | (with_reducible assumption) | assumption)
                                  obtain ⟨ad599, e599, hx599_0⟩ := Kd.at_int (Kd.R_reads' HO597.out).2.2 (ji33) p599 q599
                                  obtain rfl : ad598 = ad599 := (by injection e599)
                                  replace p599 := eq_true p599
                                  replace q599 := eq_true q599
                                  have p36 : 0 ≤ ((ji33) : Int) := of_decide_eq_true (by first | (with_reducible assumption) | assumption)
                                  have q36 : ((ji33) : Int) < ((t595.length : Int) : Int) := of_decide_eq_true (by first | (with_reducible assumption) | assumption)
                                  obtain ⟨go36, co36, eo36, gb36, gl36, cl36, HG36⟩ := Kd.R_form HO597.out (by omega)
                                  (first | cases eo36 | (injection eo36 with ea_ en_ ec_; (first | subst ea_ | (injection ea_ with ea_; subst ea_)); subst ec_; clear en_))
                                  have GB36 := Aside0.mk gb36
                                  have GG36 := Aside0.mk HG36
                                  clear gb36 gl36 HG36
                                  (first | simp only [add_plain] at hx598_0 | skip)
                                  (first | simp only [add_plain] at hx599_0 | skip)
                                  obtain ⟨hx36_0, hf36_0⟩ := Kd.R_celln 0 HO597.out ((ji33) : Int) p36 q36
                                  replace p36 := eq_true p36
                                  replace q36 := eq_true q36
                                  have HP51 := Kd.R_putn HO597.out ((ji33) : Int) (rd t595 x6_1)
                                  rw [← Ny600.out] at HP51
                                  have HQ51 := Aside0.mk HP51
                                  clear HP51
                                  have p37 : 0 ≤ (x6_1 : Int) := of_decide_eq_true (by first | (with_reducible assumption) | assumption)
                                  have q37 : (x6_1 : Int) < ((t595.length : Int) : Int) := of_decide_eq_true (by first | (with_reducible assumption) | assumption)
                                  obtain ⟨hx37_0, hf37_0⟩ := Kd.R_celln 0 HQ51.out (x6_1 : Int) p37 q37
                                  replace p37 := eq_true p37
                                  replace q37 := eq_true q37
                                  have HP52 := Kd.R_putn HQ51.out (x6_1 : Int) (rd t595 (ji33))
                                  rw [← Ny601.out] at HP52
                                  have HQ52 := Aside0.mk HP52
                                  clear HP52
                                  refine start_ (n := 18) (S := fun w' => w'.cell? ⟨go36, (x6_1).toNat, none⟩ = some (.int .i64 (rd t595 x6_1)) ∧ w'.cell? ⟨go36, ((ji33)).toNat, none⟩ = some (.int .i64 (rd t595 (ji33)))) (ds := [15, 17]) #[false, false, false, false, false, false, false, false, false, false, false, false, false, false, false, false, false, false] (by kernel_rfl) rfl rfl ⟨hx598_0, hx599_0⟩ (fun hHeld => ?_); refine with_tabW wigeonref01_Near.tab18 wigeonref01_Near.bits18 (fun HT_ HW_ => ?_)
                                  generalize w48.drew = w49 at HO_5 HO597 HB GG36 HQ51 HQ52 hf36_0 hf37_0 hx36_0 hx37_0 hx598_0 hx599_0 hHeld ⊢
                                  refine pure_ (i := 0) (N := some 52) (v := ?_) (a' := ?_) #[true, false, false, false, false, false, false, false, false, false, false, false, false, false, false, false, false, false] rfl rfl (any_of HT_.out (by kernel_rfl)) (fun _ _ _ h => h) (Or.inl ⟨by rfl, ?_⟩) ?_ ?_
                                  rotate_left
                                  · intro w'
                                    go_simp
                                    with_reducible rfl
                                  rotate_left
                                  · simp only [Act.put, List.setIfInBounds_toArray, List.set_cons_zero, List.set_cons_succ, i64_w, i32_w]
                                    rfl
                                  refine pure_ (i := 1) (N := some 53) (v := ?_) (a' := ?_) #[true, true, false, false, false, false, false, false, false, false, false, false, false, false, false, false, false, false] rfl rfl (any_of HT_.out (by kernel_rfl)) (fun _ _ _ h => h) (Or.inl ⟨by rfl, ?_⟩) ?_ ?_
                                  rotate_left
                                  · intro w'
                                    go_simp
                                    with_reducible rfl
                                  rotate_left
                                  · simp only [Act.put, List.setIfInBounds_toArray, List.set_cons_zero, List.set_cons_succ, i64_w, i32_w]
                                    rfl
                                  refine pure_ (i := 2) (N := some 54) (v := ?_) (a' := ?_) #[true, true, true, false, false, false, false, false, false, false, false, false, false, false, false, false, false, false] rfl rfl (any_of HT_.out (by kernel_rfl)) (fun _ _ _ h => h) (Or.inl ⟨by rfl, ?_⟩) ?_ ?_
                                  rotate_left
                                  · intro w'
                                    go_simp
                                    with_reducible rfl
                                  rotate_left
                                  · simp only [Act.put, List.setIfInBounds_toArray, List.set_cons_zero, List.set_cons_succ, i64_w, i32_w]
                                    rfl
                                  refine pure_ (i := 3) (N := some 55) (v := ?_) (a' := ?_) #[true, true, true, true, false, false, false, false, false, false, false, false, false, false, false, false, false, false] rfl rfl (any_of HT_.out (by kernel_rfl)) (fun _ _ _ h => h) (Or.inl ⟨by rfl, ?_⟩) ?_ ?_
                                  rotate_left
                                  · intro w'
                                    go_simp
                                    with_reducible rfl
                                  rotate_left
                                  · simp only [Act.put, List.setIfInBounds_toArray, List.set_cons_zero, List.set_cons_succ, i64_w, i32_w]
                                    rfl
                                  refine pure_ (i := 4) (N := some 56) (v := ?_) (a' := ?_) #[true, true, true, true, true, false, false, false, false, false, false, false, false, false, false, false, false, false] rfl rfl (any_of HT_.out (by kernel_rfl)) (fun _ _ _ h => h) (Or.inl ⟨by rfl, ?_⟩) ?_ ?_
                                  rotate_left
                                  · intro w'
                                    go_simp
                                    with_reducible rfl
                                  rotate_left
                                  · simp only [Act.put, List.setIfInBounds_toArray, List.set_cons_zero, List.set_cons_succ, i64_w, i32_w]
                                    rfl
                                  refine pure_ (i := 5) (N := some 57) (v := ?_) (a' := ?_) #[true, true, true, true, true, true, false, false, false, false, false, false, false, false, false, false, false, false] rfl rfl (any_of HT_.out (by kernel_rfl)) (fun _ _ _ h => h) (Or.inl ⟨by rfl, ?_⟩) ?_ ?_
                                  rotate_left
                                  · intro w'
                                    go_simp
                                    with_reducible rfl
                                  rotate_left
                                  · simp only [Act.put, List.setIfInBounds_toArray, List.set_cons_zero, List.set_cons_succ, i64_w, i32_w]
                                    rfl
                                  refine pure_ (i := 6) (N := some 58) (v := ?_) (a' := ?_) #[true, true, true, true, true, true, true, false, false, false, false, false, false, false, false, false, false, false] rfl rfl (any_of HT_.out (by kernel_rfl)) (fun _ _ _ h => h) (Or.inl ⟨by rfl, ?_⟩) ?_ ?_
                                  rotate_left
                                  · intro w'
                                    go_simp
                                    with_reducible rfl
                                  rotate_left
                                  · simp only [Act.put, List.setIfInBounds_toArray, List.set_cons_zero, List.set_cons_succ, i64_w, i32_w]
                                    rfl
                                  refine pure_ (i := 7) (N := some 59) (v := ?_) (a' := ?_) #[true, true, true, true, true, true, true, true, false, false, false, false, false, false, false, false, false, false] rfl rfl (any_of HT_.out (by kernel_rfl)) (fun _ _ _ h => h) (Or.inl ⟨by rfl, ?_⟩) ?_ ?_
                                  rotate_left
                                  · intro w'
                                    go_simp
                                    with_reducible rfl
                                  rotate_left
                                  · simp only [Act.put, List.setIfInBounds_toArray, List.set_cons_zero, List.set_cons_succ, i64_w, i32_w]
                                    rfl
                                  refine pure_ (i := 9) (N := some 61) (v := ?_) (a' := ?_) #[true, true, true, true, true, true, true, true, false, true, false, false, false, false, false, false, false, false] rfl rfl (any_of HT_.out (by kernel_rfl)) (fun _ _ _ h => h) (Or.inl ⟨by rfl, ?_⟩) ?_ ?_
                                  rotate_left
                                  · intro w'
                                    go_simp
                                    with_reducible rfl
                                  rotate_left
                                  · simp only [Act.put, List.setIfInBounds_toArray, List.set_cons_zero, List.set_cons_succ, i64_w, i32_w]
                                    rfl
                                  refine pure_ (i := 10) (N := some 62) (v := ?_) (a' := ?_) #[true, true, true, true, true, true, true, true, false, true, true, false, false, false, false, false, false, false] rfl rfl (any_of HT_.out (by kernel_rfl)) (fun _ _ _ h => h) (Or.inl ⟨by rfl, ?_⟩) ?_ ?_
                                  rotate_left
                                  · intro w'
                                    go_simp
                                    with_reducible rfl
                                  rotate_left
                                  · simp only [Act.put, List.setIfInBounds_toArray, List.set_cons_zero, List.set_cons_succ, i64_w, i32_w]
                                    rfl
                                  refine pure_ (i := 11) (N := some 63) (v := ?_) (a' := ?_) #[true, true, true, true, true, true, true, true, false, true, true, true, false, false, false, false, false, false] rfl rfl (any_of HT_.out (by kernel_rfl)) (fun _ _ _ h => h) (Or.inl ⟨by rfl, ?_⟩) ?_ ?_
                                  rotate_left
                                  · intro w'
                                    go_simp
                                    with_reducible rfl
                                  rotate_left
                                  · simp only [Act.put, List.setIfInBounds_toArray, List.set_cons_zero, List.set_cons_succ, i64_w, i32_w]
                                    rfl
                                  refine pure_ (i := 12) (N := some 64) (v := ?_) (a' := ?_) #[true, true, true, true, true, true, true, true, false, true, true, true, true, false, false, false, false, false] rfl rfl (any_of HT_.out (by kernel_rfl)) (fun _ _ _ h => h) (Or.inl ⟨by rfl, ?_⟩) ?_ ?_
                                  rotate_left
                                  · intro w'
                                    go_simp
                                    with_reducible rfl
                                  rotate_left
                                  · simp only [Act.put, List.setIfInBounds_toArray, List.set_cons_zero, List.set_cons_succ, i64_w, i32_w]
                                    rfl
                                  refine take_ (i := 8) (N := some 60) (v := ?_) (a' := ?_) #[true, true, true, true, true, true, true, true, true, true, true, true, true, false, false, false, false, false] rfl rfl (take_ofW HT_.out HW_.out (by kernel_rfl)) (fun _ _ _ h => h) (Or.inl ⟨by rfl, ?_⟩) hHeld ?_ ?_
                                  rotate_left
                                  · rintro w' ⟨s0, s1⟩
                                    go_simp
                                    with_reducible rfl
                                  rotate_left
                                  · simp only [Act.put, List.setIfInBounds_toArray, List.set_cons_zero, List.set_cons_succ, i64_w, i32_w]
                                    rfl
                                  refine take_ (i := 13) (N := some 65) (v := ?_) (a' := ?_) #[true, true, true, true, true, true, true, true, true, true, true, true, true, true, false, false, false, false] rfl rfl (take_ofW HT_.out HW_.out (by kernel_rfl)) (fun _ _ _ h => h) (Or.inl ⟨by rfl, ?_⟩) hHeld ?_ ?_
                                  rotate_left
                                  · rintro w' ⟨s0, s1⟩
                                    go_simp
                                    with_reducible rfl
                                  rotate_left
                                  · simp only [Act.put, List.setIfInBounds_toArray, List.set_cons_zero, List.set_cons_succ, i64_w, i32_w]
                                    rfl
                                  refine pure_ (i := 14) (N := some 66) (v := ?_) (a' := ?_) #[true, true, true, true, true, true, true, true, true, true, true, true, true, true, true, false, false, false] rfl rfl (any_of HT_.out (by kernel_rfl)) (fun _ _ _ h => h) (Or.inl ⟨by rfl, ?_⟩) ?_ ?_
                                  rotate_left
                                  · intro w'
                                    go_simp
                                    with_reducible rfl
                                  rotate_left
                                  · simp only [Act.put, List.setIfInBounds_toArray, List.set_cons_zero, List.set_cons_succ, i64_w, i32_w]
                                    rfl
                                  refine last_ (i := 15) (N := none) #[true, true, true, true, true, true, true, true, true, true, true, true, true, true, true, true, false, false] rfl rfl (one_of HT_.out (by kernel_rfl)) (by decide) (fun K hK => ?_)
                                  refine skip_ (w1 := ?_) (by rfl) rfl ?_ ?_
                                  rotate_left
                                  · go_simp
                                    rfl
                                  refine hK.out _ _ ?_
                                  clear hK K
                                  refine pure_ (i := 16) (N := some 67) (v := ?_) (a' := ?_) #[true, true, true, true, true, true, true, true, true, true, true, true, true, true, true, true, true, false] rfl rfl (any_of HT_.out (by kernel_rfl)) (fun _ _ _ h => h) (Or.inl ⟨by rfl, ?_⟩) ?_ ?_
                                  rotate_left
                                  · intro w'
                                    go_simp
                                    with_reducible rfl
                                  rotate_left
                                  · simp only [Act.put, List.setIfInBounds_toArray, List.set_cons_zero, List.set_cons_succ, i64_w, i32_w]
                                    rfl
                                  refine last_ (i := 17) (N := none) #[true, true, true, true, true, true, true, true, true, true, true, true, true, true, true, true, true, true] rfl rfl (one_of HT_.out (by kernel_rfl)) (by decide) (fun K hK => ?_)
                                  refine skip_ (w1 := ?_) (by rfl) rfl ?_ ?_
                                  rotate_left
                                  · go_simp
                                    rfl
                                  refine hK.out _ _ ?_
                                  clear hK K
                                  refine done_ (done_of HT_.out (by kernel_rfl)) ?_
                                  try go_wp2_with (first | ((with_reducible refine gate_callee (f := 83) rfl ?_); refine goesL_ (some 70) rfl rfl Try.func83 (by kernel_rfl) rfl #[.string (a0.extract 0 ((ji4) : Int).toNat), .slice (some ⟨go36, 0, none⟩) y601.length co50] rfl (by (try simp only [List.map_toArray, List.map_cons, List.map_nil]); first | done | (rw [show y601.length = t595.length from (Kd.R_reads' HQ52.out).1.symm] <;> rfl) | (simp only [hji4]; rfl) | rfl | (simp only [List.length_drop, List.length_take]; rfl)) ?_; (with_reducible refine (wigeonref01_text.calls k2 (a0.extract 0 ((ji4) : Int).toNat) _ _ y601 t602 _ ?side1 ?side2 A38.out).mono ?_); (case side1 => refine (Kd.R_reads' (e := 3) (base := w.heap.size) (ok := fun k_ => True) (n := t595.length) (c := co50) ?_).2.2; exact (by (with_reducible repeat (first | apply Kd.R_alloc | apply Kd.R_drewN | apply Kd.R_drew)); exact HQ52.out)); (case side2 => rw [show y601.length = t595.length from (Kd.R_reads' HQ52.out).1.symm]; exact (Kd.R_reads' HO597.out).2.1); rintro e w' ⟨rfl, ⟨nd, rfl⟩⟩; refine ⟨_, rfl, ?_⟩) | (go_at_call 62; refine calls_of_args (args' := #[.slice (some ⟨go36, 0, none⟩) y601.length co50]) (by first | (rw [show y601.length = t595.length from (Kd.R_reads' HQ52.out).1.symm] <;> rfl) | rfl) ?_; (with_reducible refine (wigeonref01_sum.calls k2 _ _ y601 t603 _ ?side1 ?side2 A45.out).mono ?_); (case side1 => refine (Kd.R_reads' (e := 3) (base := w.heap.size) (ok := fun k_ => True) (n := t595.length) (c := co50) ?_).2.2; exact (by (with_reducible repeat (first | apply Kd.R_alloc | apply Kd.R_drewN | apply Kd.R_drew)); exact HQ52.out)); (case side2 => rw [show y601.length = t595.length from (Kd.R_reads' HQ52.out).1.symm]; exact (Kd.R_reads' HO597.out).2.1); rintro e w' ⟨rfl, ⟨nd, rfl⟩⟩; obtain ⟨Ao53, co53, eo53⟩ := Kd.R_slice HO_5.out; subst eo53) | ((with_reducible refine gate_callee (f := 87) rfl ?_); refine goesL_ (some 81) rfl rfl Try.func87 (by kernel_rfl) rfl #[.slice Ao53 x5_2.length co53, .string t602] rfl (by (try simp only [List.map_toArray, List.map_cons, List.map_nil]); first | done | rfl | (simp only [List.length_drop, List.length_take]; rfl)) ?_; (with_reducible refine (wigeonref01_put.calls k2 _ _ x5_2 t602 t604 _ ?side1 ?side2 A47.out).mono ?_); (case side1 => refine (Kd.R_reads' (e := 9) (base := w.heap.size) (ok := fun k_ => True) (n := x5_2.length) (c := co53) ?_).2.2; exact (by (with_reducible repeat (first | apply Kd.R_alloc | apply Kd.R_drewN | apply Kd.R_drew)); exact (Kd.R_mono (Kd.R_far (p := ⟨go36, (x6_1 : Int).toNat, none⟩) (Kd.R_far (p := ⟨go36, ((ji33) : Int).toNat, none⟩) (Kd.R_types HO_5.out GG36.out (by decide)) (fun _ hk => hk.2) (.int .i64 (rd t595 x6_1))) (fun _ hk => hk.2) (.int .i64 (rd t595 (ji33)))) (fun _ h_ => h_.1)))); (case side2 => exact (Kd.R_reads' HO_5.out).2.1); rintro e w54 ⟨v605, rfl, ho0, hb⟩; refine ⟨_, rfl, ?_⟩; have n0_ := Aside0.mk (Kd.R_elder' (by (with_reducible repeat (first | apply Kd.R_alloc | apply Kd.R_drewN | apply Kd.R_drew)); exact (Kd.R_mono (Kd.R_far (p := ⟨go36, (x6_1 : Int).toNat, none⟩) (Kd.R_far (p := ⟨go36, ((ji33) : Int).toNat, none⟩) (Kd.R_types HO_5.out GG36.out (by decide)) (fun _ hk => hk.2) (.int .i64 (rd t595 x6_1))) (fun _ hk => hk.2) (.int .i64 (rd t595 (ji33)))) (fun _ h_ => h_.1))) (Kd.R_base ho0) hb); have n1_ := Aside0.mk (Kd.R_below (by (with_reducible repeat (first | apply Kd.R_alloc | apply Kd.R_drewN | apply Kd.R_drew)); exact HQ52.out) hb); have n2_ := Aside0.mk (Kd.R_lower (Kd.R_new' ho0 (Kd.R_lt (by (with_reducible repeat (first | apply Kd.R_alloc | apply Kd.R_drewN | apply Kd.R_drew)); exact (Kd.R_mono (Kd.R_far (p := ⟨go36, (x6_1 : Int).toNat, none⟩) (Kd.R_far (p := ⟨go36, ((ji33) : Int).toNat, none⟩) (Kd.R_types HO_5.out GG36.out (by decide)) (fun _ hk => hk.2) (.int .i64 (rd t595 x6_1))) (fun _ hk => hk.2) (.int .i64 (rd t595 (ji33)))) (fun _ h_ => h_.1))))) (below_size (by repeat (first | (with_reducible first | exact HB.out | apply below_alloc | apply pw_below_drewN | apply below_drew1 | refine below_set ?_ GB36.out | refine below_set ?_ GB36.out) | exact HB.out)))); have n3_ := Aside0.mk (below_step (by repeat (first | (with_reducible first | exact HB.out | apply below_alloc | apply pw_below_drewN | apply below_drew1 | refine below_set ?_ GB36.out | refine below_set ?_ GB36.out) | exact HB.out)) hb); clear HO_5; clear HO597; clear HB; have HO_5 := n0_; have HO597 := n1_; have HO606 := n2_; have HB := n3_; clear n0_ n1_ n2_ n3_; (try clear hb); (try clear hb2); (try clear hk); (try clear hi); (try clear ho0)))
                                  go_roundg k2
                                  case measure => have := HK1.out; have := HK2.out; omega
                                  case rel => exact ⟨(t604), (wrap64 (x6_1 + 1)), (by first | rfl | (simp; done) | (simp [*]; done)), H', ⟨by have := HK1.out; have := HK2.out; omega⟩, ⟨by (with_reducible repeat (first | apply Kd.R_alloc | apply Kd.R_drewN | apply Kd.R_drew)); exact Kd.R_mono HO606.out (fun _ hk => trivial)⟩, ⟨by repeat (first | (with_reducible first | exact HB.out | apply below_alloc | apply pw_below_drewN | apply below_drew1) | exact HB.out)⟩⟩
                                · rw [if_neg c46] at H
                                  have c46b0 : (t603 == 0) = false := beq_eq_false_iff_ne.mpr c46
                                  have c46b1 : (t603 != 0) = true := bne_iff_ne.mpr c46
                                  have H' := Aside0.mk H
                                  clear H
                                  try go_wp2_with (first | ((with_reducible refine gate_callee (f := 77) rfl ?_); refine goesL_ (some 49) rfl rfl Try.func77 (by kernel_rfl) rfl #[.string a0] rfl (by (try simp only [List.map_toArray, List.map_cons, List.map_nil]); first | done | rfl | (simp only [List.length_drop, List.length_take]; rfl)) ?_; (with_reducible refine (wigeonref01_tail.calls k2 a0 t595 _ A29.out).mono ?_); rintro e w55 ⟨v596, rfl, ho0, hb⟩; refine ⟨_, rfl, ?_⟩; have n0_ := Aside0.mk (Kd.R_below (by (with_reducible repeat (first | apply Kd.R_alloc | apply Kd.R_drewN | apply Kd.R_drew)); exact HO_5.out) hb); have n1_ := Aside0.mk (Kd.R_lower ho0 (below_size (by repeat (first | (with_reducible first | exact HB.out | apply below_alloc | apply pw_below_drewN | apply below_drew1) | exact HB.out)))); have n2_ := Aside0.mk (below_step (by repeat (first | (with_reducible first | exact HB.out | apply below_alloc | apply pw_below_drewN | apply below_drew1) | exact HB.out)) hb); clear HO_5; clear HB; have HO_5 := n0_; have HO597 := n1_; have HB := n2_; clear n0_ n1_ n2_; (try clear hb); (try clear hb2); (try clear hk); (try clear hi); (try clear ho0)))
                                  have n0_ := Aside0.mk (Kd.R_drew HO_5.out)
                                  have n1_ := Aside0.mk (Kd.R_drew HO597.out)
                                  have n2_ := Aside0.mk (below_drew1 HB.out)
                                  clear HO_5
                                  clear HO597
                                  clear HB
                                  have HO_5 := n0_
                                  have HO597 := n1_
                                  have HB := n2_
                                  clear n0_ n1_ n2_
                                  obtain ⟨Ao57, co57, eo57⟩ := Kd.R_slice HO597.out
                                  (first | subst eo57 | (injection eo57 with f1_ f2_ f3_; have f4_ := f1_.symm; have f5_ := f3_.symm; clear f1_ f2_ f3_; subst f4_; subst f5_))
                                  have p598 : 0 ≤ (x6_1 : Int) := of_decide_eq_true (by first | (with_reducible assumption) | assumption)
                                  have q598 : x6_1 < (t595.length : Int) := of_decide_eq_true (by first | (with_reducible assumption) | assumption)
                                  obtain ⟨ad598, e598, hx598_0⟩ := Kd.at_int (Kd.R_reads' HO597.out).2.2 x6_1 p598 q598
                                  cases e598
                                  replace p598 := eq_true p598
                                  replace q598 := eq_true q598
                                  have p599 : 0 ≤ ((ji33) : Int) := of_decide_eq_true (by first | (with_reducible assumption) | assumption)
                                  have q599 : (ji33) < (t595.length : Int) := of_decide_eq_true (by first | (with_reducible assumption) | assumption)
                                  obtain ⟨ad599, e599, hx599_0⟩ := Kd.at_int (Kd.R_reads' HO597.out).2.2 (ji33) p599 q599
                                  obtain rfl : ad598 = ad599 := (by injection e599)
                                  replace p599 := eq_true p599
                                  replace q599 := eq_true q599
                                  have p36 : 0 ≤ ((ji33) : Int) := of_decide_eq_true (by first | (with_reducible assumption) | assumption)
                                  have q36 : ((ji33) : Int) < ((t595.length : Int) : Int) := of_decide_eq_true (by first | (with_reducible assumption) | assumption)
                                  obtain ⟨go36, co36, eo36, gb36, gl36, cl36, HG36⟩ := Kd.R_form HO597.out (by omega)
                                  (first | cases eo36 | (injection eo36 with ea_ en_ ec_; (first | subst ea_ | (injection ea_ with ea_; subst ea_)); subst ec_; clear en_))
                                  have GB36 := Aside0.mk gb36
                                  have GG36 := Aside0.mk HG36
                                  clear gb36 gl36 HG36
                                  (first | simp only [add_plain] at hx598_0 | skip)
                                  (first | simp only [add_plain] at hx599_0 | skip)
                                  obtain ⟨hx36_0, hf36_0⟩ := Kd.R_celln 0 HO597.out ((ji33) : Int) p36 q36
                                  replace p36 := eq_true p36
                                  replace q36 := eq_true q36
                                  have HP58 := Kd.R_putn HO597.out ((ji33) : Int) (rd t595 x6_1)
                                  rw [← Ny600.out] at HP58
                                  have HQ58 := Aside0.mk HP58
                                  clear HP58
                                  have p37 : 0 ≤ (x6_1 : Int) := of_decide_eq_true (by first | (with_reducible assumption) | assumption)
                                  have q37 : (x6_1 : Int) < ((t595.length : Int) : Int) := of_decide_eq_true (by first | (with_reducible assumption) | assumption)
                                  obtain ⟨hx37_0, hf37_0⟩ := Kd.R_celln 0 HQ58.out (x6_1 : Int) p37 q37
                                  replace p37 := eq_true p37
                                  replace q37 := eq_true q37
                                  have HP59 := Kd.R_putn HQ58.out (x6_1 : Int) (rd t595 (ji33))
                                  rw [← Ny601.out] at HP59
                                  have HQ59 := Aside0.mk HP59
                                  clear HP59
                                  refine start_ (n := 18) (S := fun w' => w'.cell? ⟨go36, (x6_1).toNat, none⟩ = some (.int .i64 (rd t595 x6_1)) ∧ w'.cell? ⟨go36, ((ji33)).toNat, none⟩ = some (.int .i64 (rd t595 (ji33)))) (ds := [15, 17]) #[false, false, false, false, false, false, false, false, false, false, false, false, false, false, false, false, false, false] (by kernel_rfl) rfl rfl ⟨hx598_0, hx599_0⟩ (fun hHeld => ?_); refine with_tabW wigeonref01_Near.tab18 wigeonref01_Near.bits18 (fun HT_ HW_ => ?_)
                                  generalize w55.drew = w56 at HO_5 HO597 HB GG36 HQ58 HQ59 hf36_0 hf37_0 hx36_0 hx37_0 hx598_0 hx599_0 hHeld ⊢
                                  refine pure_ (i := 0) (N := some 52) (v := ?_) (a' := ?_) #[true, false, false, false, false, false, false, false, false, false, false, false, false, false, false, false, false, false] rfl rfl (any_of HT_.out (by kernel_rfl)) (fun _ _ _ h => h) (Or.inl ⟨by rfl, ?_⟩) ?_ ?_
                                  rotate_left
                                  · intro w'
                                    go_simp
                                    with_reducible rfl
                                  rotate_left
                                  · simp only [Act.put, List.setIfInBounds_toArray, List.set_cons_zero, List.set_cons_succ, i64_w, i32_w]
                                    rfl
                                  refine pure_ (i := 1) (N := some 53) (v := ?_) (a' := ?_) #[true, true, false, false, false, false, false, false, false, false, false, false, false, false, false, false, false, false] rfl rfl (any_of HT_.out (by kernel_rfl)) (fun _ _ _ h => h) (Or.inl ⟨by rfl, ?_⟩) ?_ ?_
                                  rotate_left
                                  · intro w'
                                    go_simp
                                    with_reducible rfl
                                  rotate_left
                                  · simp only [Act.put, List.setIfInBounds_toArray, List.set_cons_zero, List.set_cons_succ, i64_w, i32_w]
                                    rfl
                                  refine pure_ (i := 2) (N := some 54) (v := ?_) (a' := ?_) #[true, true, true, false, false, false, false, false, false, false, false, false, false, false, false, false, false, false] rfl rfl (any_of HT_.out (by kernel_rfl)) (fun _ _ _ h => h) (Or.inl ⟨by rfl, ?_⟩) ?_ ?_
                                  rotate_left
                                  · intro w'
                                    go_simp
                                    with_reducible rfl
                                  rotate_left
                                  · simp only [Act.put, List.setIfInBounds_toArray, List.set_cons_zero, List.set_cons_succ, i64_w, i32_w]
                                    rfl
                                  refine pure_ (i := 3) (N := some 55) (v := ?_) (a' := ?_) #[true, true, true, true, false, false, false, false, false, false, false, false, false, false, false, false, false, false] rfl rfl (any_of HT_.out (by kernel_rfl)) (fun _ _ _ h => h) (Or.inl ⟨by rfl, ?_⟩) ?_ ?_
                                  rotate_left
                                  · intro w'
                                    go_simp
                                    with_reducible rfl
                                  rotate_left
                                  · simp only [Act.put, List.setIfInBounds_toArray, List.set_cons_zero, List.set_cons_succ, i64_w, i32_w]
                                    rfl
                                  refine pure_ (i := 4) (N := some 56) (v := ?_) (a' := ?_) #[true, true, true, true, true, false, false, false, false, false, false, false, false, false, false, false, false, false] rfl rfl (any_of HT_.out (by kernel_rfl)) (fun _ _ _ h => h) (Or.inl ⟨by rfl, ?_⟩) ?_ ?_
                                  rotate_left
                                  · intro w'
                                    go_simp
                                    with_reducible rfl
                                  rotate_left
                                  · simp only [Act.put, List.setIfInBounds_toArray, List.set_cons_zero, List.set_cons_succ, i64_w, i32_w]
                                    rfl
                                  refine pure_ (i := 5) (N := some 57) (v := ?_) (a' := ?_) #[true, true, true, true, true, true, false, false, false, false, false, false, false, false, false, false, false, false] rfl rfl (any_of HT_.out (by kernel_rfl)) (fun _ _ _ h => h) (Or.inl ⟨by rfl, ?_⟩) ?_ ?_
                                  rotate_left
                                  · intro w'
                                    go_simp
                                    with_reducible rfl
                                  rotate_left
                                  · simp only [Act.put, List.setIfInBounds_toArray, List.set_cons_zero, List.set_cons_succ, i64_w, i32_w]
                                    rfl
                                  refine pure_ (i := 6) (N := some 58) (v := ?_) (a' := ?_) #[true, true, true, true, true, true, true, false, false, false, false, false, false, false, false, false, false, false] rfl rfl (any_of HT_.out (by kernel_rfl)) (fun _ _ _ h => h) (Or.inl ⟨by rfl, ?_⟩) ?_ ?_
                                  rotate_left
                                  · intro w'
                                    go_simp
                                    with_reducible rfl
                                  rotate_left
                                  · simp only [Act.put, List.setIfInBounds_toArray, List.set_cons_zero, List.set_cons_succ, i64_w, i32_w]
                                    rfl
                                  refine pure_ (i := 7) (N := some 59) (v := ?_) (a' := ?_) #[true, true, true, true, true, true, true, true, false, false, false, false, false, false, false, false, false, false] rfl rfl (any_of HT_.out (by kernel_rfl)) (fun _ _ _ h => h) (Or.inl ⟨by rfl, ?_⟩) ?_ ?_
                                  rotate_left
                                  · intro w'
                                    go_simp
                                    with_reducible rfl
                                  rotate_left
                                  · simp only [Act.put, List.setIfInBounds_toArray, List.set_cons_zero, List.set_cons_succ, i64_w, i32_w]
                                    rfl
                                  refine pure_ (i := 9) (N := some 61) (v := ?_) (a' := ?_) #[true, true, true, true, true, true, true, true, false, true, false, false, false, false, false, false, false, false] rfl rfl (any_of HT_.out (by kernel_rfl)) (fun _ _ _ h => h) (Or.inl ⟨by rfl, ?_⟩) ?_ ?_
                                  rotate_left
                                  · intro w'
                                    go_simp
                                    with_reducible rfl
                                  rotate_left
                                  · simp only [Act.put, List.setIfInBounds_toArray, List.set_cons_zero, List.set_cons_succ, i64_w, i32_w]
                                    rfl
                                  refine pure_ (i := 10) (N := some 62) (v := ?_) (a' := ?_) #[true, true, true, true, true, true, true, true, false, true, true, false, false, false, false, false, false, false] rfl rfl (any_of HT_.out (by kernel_rfl)) (fun _ _ _ h => h) (Or.inl ⟨by rfl, ?_⟩) ?_ ?_
                                  rotate_left
                                  · intro w'
                                    go_simp
                                    with_reducible rfl
                                  rotate_left
                                  · simp only [Act.put, List.setIfInBounds_toArray, List.set_cons_zero, List.set_cons_succ, i64_w, i32_w]
                                    rfl
                                  refine pure_ (i := 11) (N := some 63) (v := ?_) (a' := ?_) #[true, true, true, true, true, true, true, true, false, true, true, true, false, false, false, false, false, false] rfl rfl (any_of HT_.out (by kernel_rfl)) (fun _ _ _ h => h) (Or.inl ⟨by rfl, ?_⟩) ?_ ?_
                                  rotate_left
                                  · intro w'
                                    go_simp
                                    with_reducible rfl
                                  rotate_left
                                  · simp only [Act.put, List.setIfInBounds_toArray, List.set_cons_zero, List.set_cons_succ, i64_w, i32_w]
                                    rfl
                                  refine pure_ (i := 12) (N := some 64) (v := ?_) (a' := ?_) #[true, true, true, true, true, true, true, true, false, true, true, true, true, false, false, false, false, false] rfl rfl (any_of HT_.out (by kernel_rfl)) (fun _ _ _ h => h) (Or.inl ⟨by rfl, ?_⟩) ?_ ?_
                                  rotate_left
                                  · intro w'
                                    go_simp
                                    with_reducible rfl
                                  rotate_left
                                  · simp only [Act.put, List.setIfInBounds_toArray, List.set_cons_zero, List.set_cons_succ, i64_w, i32_w]
                                    rfl
                                  refine take_ (i := 8) (N := some 60) (v := ?_) (a' := ?_) #[true, true, true, true, true, true, true, true, true, true, true, true, true, false, false, false, false, false] rfl rfl (take_ofW HT_.out HW_.out (by kernel_rfl)) (fun _ _ _ h => h) (Or.inl ⟨by rfl, ?_⟩) hHeld ?_ ?_
                                  rotate_left
                                  · rintro w' ⟨s0, s1⟩
                                    go_simp
                                    with_reducible rfl
                                  rotate_left
                                  · simp only [Act.put, List.setIfInBounds_toArray, List.set_cons_zero, List.set_cons_succ, i64_w, i32_w]
                                    rfl
                                  refine take_ (i := 13) (N := some 65) (v := ?_) (a' := ?_) #[true, true, true, true, true, true, true, true, true, true, true, true, true, true, false, false, false, false] rfl rfl (take_ofW HT_.out HW_.out (by kernel_rfl)) (fun _ _ _ h => h) (Or.inl ⟨by rfl, ?_⟩) hHeld ?_ ?_
                                  rotate_left
                                  · rintro w' ⟨s0, s1⟩
                                    go_simp
                                    with_reducible rfl
                                  rotate_left
                                  · simp only [Act.put, List.setIfInBounds_toArray, List.set_cons_zero, List.set_cons_succ, i64_w, i32_w]
                                    rfl
                                  refine pure_ (i := 14) (N := some 66) (v := ?_) (a' := ?_) #[true, true, true, true, true, true, true, true, true, true, true, true, true, true, true, false, false, false] rfl rfl (any_of HT_.out (by kernel_rfl)) (fun _ _ _ h => h) (Or.inl ⟨by rfl, ?_⟩) ?_ ?_
                                  rotate_left
                                  · intro w'
                                    go_simp
                                    with_reducible rfl
                                  rotate_left
                                  · simp only [Act.put, List.setIfInBounds_toArray, List.set_cons_zero, List.set_cons_succ, i64_w, i32_w]
                                    rfl
                                  refine last_ (i := 15) (N := none) #[true, true, true, true, true, true, true, true, true, true, true, true, true, true, true, true, false, false] rfl rfl (one_of HT_.out (by kernel_rfl)) (by decide) (fun K hK => ?_)
                                  refine skip_ (w1 := ?_) (by rfl) rfl ?_ ?_
                                  rotate_left
                                  · go_simp
                                    rfl
                                  refine hK.out _ _ ?_
                                  clear hK K
                                  refine pure_ (i := 16) (N := some 67) (v := ?_) (a' := ?_) #[true, true, true, true, true, true, true, true, true, true, true, true, true, true, true, true, true, false] rfl rfl (any_of HT_.out (by kernel_rfl)) (fun _ _ _ h => h) (Or.inl ⟨by rfl, ?_⟩) ?_ ?_
                                  rotate_left
                                  · intro w'
                                    go_simp
                                    with_reducible rfl
                                  rotate_left
                                  · simp only [Act.put, List.setIfInBounds_toArray, List.set_cons_zero, List.set_cons_succ, i64_w, i32_w]
                                    rfl
                                  refine last_ (i := 17) (N := none) #[true, true, true, true, true, true, true, true, true, true, true, true, true, true, true, true, true, true] rfl rfl (one_of HT_.out (by kernel_rfl)) (by decide) (fun K hK => ?_)
                                  refine skip_ (w1 := ?_) (by rfl) rfl ?_ ?_
                                  rotate_left
                                  · go_simp
                                    rfl
                                  refine hK.out _ _ ?_
                                  clear hK K
                                  refine done_ (done_of HT_.out (by kernel_rfl)) ?_
                                  try go_wp2_with (first | ((with_reducible refine gate_callee (f := 83) rfl ?_); refine goesL_ (some 70) rfl rfl Try.func83 (by kernel_rfl) rfl #[.string (a0.extract 0 ((ji4) : Int).toNat), .slice (some ⟨go36, 0, none⟩) y601.length co57] rfl (by (try simp only [List.map_toArray, List.map_cons, List.map_nil]); first | done | (rw [show y601.length = t595.length from (Kd.R_reads' HQ59.out).1.symm] <;> rfl) | (simp only [hji4]; rfl) | rfl | (simp only [List.length_drop, List.length_take]; rfl)) ?_; (with_reducible refine (wigeonref01_text.calls k2 (a0.extract 0 ((ji4) : Int).toNat) _ _ y601 t602 _ ?side1 ?side2 A38.out).mono ?_); (case side1 => refine (Kd.R_reads' (e := 3) (base := w.heap.size) (ok := fun k_ => True) (n := t595.length) (c := co57) ?_).2.2; exact (by (with_reducible repeat (first | apply Kd.R_alloc | apply Kd.R_drewN | apply Kd.R_drew)); exact HQ59.out)); (case side2 => rw [show y601.length = t595.length from (Kd.R_reads' HQ59.out).1.symm]; exact (Kd.R_reads' HO597.out).2.1); rintro e w' ⟨rfl, ⟨nd, rfl⟩⟩; refine ⟨_, rfl, ?_⟩) | (go_at_call 62; refine calls_of_args (args' := #[.slice (some ⟨go36, 0, none⟩) y601.length co57]) (by first | (rw [show y601.length = t595.length from (Kd.R_reads' HQ59.out).1.symm] <;> rfl) | rfl) ?_; (with_reducible refine (wigeonref01_sum.calls k2 _ _ y601 t603 _ ?side1 ?side2 A45.out).mono ?_); (case side1 => refine (Kd.R_reads' (e := 3) (base := w.heap.size) (ok := fun k_ => True) (n := t595.length) (c := co57) ?_).2.2; exact (by (with_reducible repeat (first | apply Kd.R_alloc | apply Kd.R_drewN | apply Kd.R_drew)); exact HQ59.out)); (case side2 => rw [show y601.length = t595.length from (Kd.R_reads' HQ59.out).1.symm]; exact (Kd.R_reads' HO597.out).2.1); rintro e w' ⟨rfl, ⟨nd, rfl⟩⟩))
                                  go_roundg k2
                                  case measure => have := HK1.out; have := HK2.out; omega
                                  case rel => exact ⟨(x5_2), (wrap64 (x6_1 + 1)), (by first | rfl | (simp; done) | (simp [*]; done)), H', ⟨by have := HK1.out; have := HK2.out; omega⟩, ⟨by (with_reducible repeat (first | apply Kd.R_alloc | apply Kd.R_drewN | apply Kd.R_drew)); exact Kd.R_mono (Kd.R_far (p := ⟨go36, (x6_1 : Int).toNat, none⟩) (Kd.R_far (p := ⟨go36, ((ji33) : Int).toNat, none⟩) (Kd.R_types HO_5.out GG36.out (by decide)) (fun _ hk => hk.2) (.int .i64 (rd t595 x6_1))) (fun _ hk => hk.2) (.int .i64 (rd t595 (ji33)))) (fun _ hk => trivial)⟩, ⟨by repeat (first | (with_reducible first | exact HB.out | apply below_alloc | apply pw_below_drewN | apply below_drew1 | refine below_set ?_ GB36.out | refine below_set ?_ GB36.out) | exact HB.out)⟩⟩
                            · rw [if_neg c35] at H
                              exact absurd H (by simp)
                          · rw [if_neg c34] at H
                            exact absurd H (by simp)
                        · rw [if_neg c32] at H
                          exact absurd H (by simp)
                      · rw [if_neg c31] at H
                        exact absurd H (by simp)
                    · rw [if_neg c30] at H
                      have c30b0 : decide (0 < x6_1) = false := decide_eq_false c30
                      clear c30
                      have H' := Aside0.mk H
                      clear H
                      go_wp2_with (first | ((with_reducible refine gate_callee (f := 77) rfl ?_); refine goesL_ (some 49) rfl rfl Try.func77 (by kernel_rfl) rfl #[.string a0] rfl (by (try simp only [List.map_toArray, List.map_cons, List.map_nil]); first | done | rfl | (simp only [List.length_drop, List.length_take]; rfl)) ?_; (with_reducible refine (wigeonref01_tail.calls k2 a0 t595 _ A29.out).mono ?_); rintro e w60 ⟨v596, rfl, ho0, hb⟩; refine ⟨_, rfl, ?_⟩; have n0_ := Aside0.mk (Kd.R_below (by (with_reducible repeat (first | apply Kd.R_alloc | apply Kd.R_drewN | apply Kd.R_drew)); exact HO_5.out) hb); have n1_ := Aside0.mk (Kd.R_lower ho0 (below_size (by repeat (first | (with_reducible first | exact HB.out | apply below_alloc | apply pw_below_drewN | apply below_drew1) | exact HB.out)))); have n2_ := Aside0.mk (below_step (by repeat (first | (with_reducible first | exact HB.out | apply below_alloc | apply pw_below_drewN | apply below_drew1) | exact HB.out)) hb); clear HO_5; clear HB; have HO_5 := n0_; have HO597 := n1_; have HB := n2_; clear n0_ n1_ n2_; (try clear hb); (try clear hb2); (try clear hk); (try clear hi); (try clear ho0)))
                      go_roundg k2
                      case measure => have := HK1.out; have := HK2.out; omega
                      case rel => exact ⟨(x5_2), (wrap64 (x6_1 + 1)), (by first | rfl | (simp; done) | (simp [*]; done)), H', ⟨by have := HK1.out; have := HK2.out; omega⟩, ⟨by (with_reducible repeat (first | apply Kd.R_alloc | apply Kd.R_drewN | apply Kd.R_drew)); exact HO_5.out⟩, ⟨by repeat (first | (with_reducible first | exact HB.out | apply below_alloc | apply pw_below_drewN | apply below_drew1) | exact HB.out)⟩⟩
            · rw [if_neg c7] at H
              have c7b0 : decide (x6_1 < 6) = false := decide_eq_false c7
              clear c7
              simp only [Option.some.injEq, Prod.mk.injEq] at H
              obtain ⟨rfl, rfl⟩ := H
              go_wp2
              go_ret2
              exact ⟨_, by first | rfl | (simp [errW_none, errW_some] <;> rfl) | (simp only [← hji4]; first | rfl | (simp [errW_none, errW_some] <;> rfl)) | (simp [*, errW_none, errW_some] <;> rfl), by (with_reducible repeat (first | apply Kd.R_alloc | apply Kd.R_drewN | apply Kd.R_drew)); exact HO_5.out, by repeat (first | (with_reducible first | exact HB.out | apply below_alloc | apply pw_below_drewN | apply below_drew1) | exact HB.out)⟩
      · rw [if_neg c6] at H
        exact absurd H (by simp)
    · rw [if_neg c5] at H
      exact absurd H (by simp)
  · replace c3 := Bool.eq_false_iff.mpr c3
    subst c3
    have H1 : (some (([] : List ByteArray), 2)) = some (r1, r2) := by rw [if_neg (show ¬ (false = true) by decide)] at H; exact H
    clear H
    have H := H1
    clear H1
    simp only [Option.some.injEq, Prod.mk.injEq] at H
    obtain ⟨rfl, rfl⟩ := H
    go_enter Try.func51, Try.ntmps51
    go_wp2_with (first | ((with_reducible refine gate_callee (f := 72) rfl ?_); refine goesL_ (some 13) rfl rfl Try.func72 (by kernel_rfl) rfl #[.string a0, .bool false] rfl (by (try simp only [List.map_toArray, List.map_cons, List.map_nil]); first | done | rfl | (simp only [List.length_drop, List.length_take]; rfl)) ?_; (with_reducible refine (wigeonref01_formed.calls k a0 false false _ A2.out).mono ?_); rintro e w' ⟨rfl, ⟨nd, rfl⟩⟩; refine ⟨_, rfl, ?_⟩))
    go_ret2
    exact ⟨_, by first | rfl | (simp [errW_none, errW_some] <;> rfl) | (simp [*, errW_none, errW_some] <;> rfl), by first | exact Kd.R_nil _ _ _ _ _ | exact Kd.N_nil _ _ _ _ _ | exact Kd.V_nil _ _ _ _ _ | exact Kd.Q_nil _ _ _ _ _ | exact Kd.S_nil _ _ _ _ _, by repeat (first | (with_reducible first | exact HB.out | apply below_alloc | apply pw_below_drewN | apply below_drew1) | exact HB.out)⟩

end Go.Proofs.Ytlbhighbhchdmaa.Q
