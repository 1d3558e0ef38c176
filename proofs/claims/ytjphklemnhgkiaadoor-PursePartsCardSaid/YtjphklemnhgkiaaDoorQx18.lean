-- Written by a program of this session (wip/tools/gprint.py, over the kit's print); Lean checks it.
import Derived.Test.YtjphklemnhgkiaaDoorPuA
import Derived.Test.YtjphklemnhgkiaaDoorQx0
import Derived.Test.YtjphklemnhgkiaaDoorQx2
import Derived.Test.YtjphklemnhgkiaaDoorQx4
namespace Go.Proofs.YtjphklemnhgkiaaDoor.Q
open Go.RowKit Go.Proofs.YtjphklemnhgkiaaDoorW.PrintWords Go.Proofs.YtjphklemnhgkiaaDoorW.PrintLast Go.Proofs.YtjphklemnhgkiaaDoorW.PrintMore
attribute [local go_sem] max2_int min2_int max_two min_two max_three min_three max_four min_four   -- for this text's walks alone
set_option linter.unusedVariables false
set_option linter.unusedSimpArgs false

/-! ### purse_Dividends: function 26 -/
mutual
def purse_Dividends.l0 : Nat → List Int → Int → Int → Option (List Int × Int)
 | 0, _, _, _ => none
 | k + 1, x5, x17, x18 => if x18 < x17 then (purse_Dividends.l1 k x5 x18 x17 x18 (x5.length : Int) 0) else (some (x5, 0))
def purse_Dividends.l1 : Nat → List Int → Int → Int → Int → Int → Int → Option (List Int × Int)
 | 0, _, _, _, _, _, _ => none
 | k + 1, x5, x6, x17, x18, x22, x23 => if x23 < x22 then ((purse_player_in.f x6 x23).bind fun t497 => (if t497 = true then (if 0 ≤ x23 then (if x23 < (x5.length : Int) then (if 0 ≤ x6 then (if 0 ≤ (Go.bits .andNot .i64 x23 (shl .i64 1 x6)) then (if (Go.bits .andNot .i64 x23 (shl .i64 1 x6)) < (x5.length : Int) then (purse_Dividends.l1 k (x5.set (x23 : Int).toNat (wrap64 ((rd x5 x23) - (rd x5 (Go.bits .andNot .i64 x23 (shl .i64 1 x6)))))) x6 x17 x18 x22 (wrap64 (x23 + 1))) else (none)) else (none)) else (none)) else (none)) else (none)) else (purse_Dividends.l1 k x5 x6 x17 x18 x22 (wrap64 (x23 + 1))))) else (purse_Dividends.l0 k x5 x17 (wrap64 (x18 + 1)))
end
def purse_Dividends.f (k : Nat) (l0 : List Int) : Option (List Int × Int) := (purse_Validate.f l0).bind fun t492 => (if t492 = 0 then ((slices_Clone.f l0).bind fun t493 => ((purse_players.f l0).bind fun t496 => (purse_Dividends.l0 k t493 t496 0))) else (some (([] : List Int), t492)))
theorem purse_Dividends.mono_l : ∀ k, (∀ y0 y1 y2, LeO (purse_Dividends.l0 k y0 y1 y2) (purse_Dividends.l0 (k + 1) y0 y1 y2)) ∧ (∀ y0 y1 y2 y3 y4 y5, LeO (purse_Dividends.l1 k y0 y1 y2 y3 y4 y5) (purse_Dividends.l1 (k + 1) y0 y1 y2 y3 y4 y5))
 | 0 => ⟨fun _ _ _ r h => by simp [purse_Dividends.l0] at h, fun _ _ _ _ _ _ r h => by simp [purse_Dividends.l1] at h⟩
 | k + 1 => by
  obtain ⟨ih0, ih1⟩ := purse_Dividends.mono_l k
  refine ⟨?_, ?_⟩
  ·intro y0 y1 y2
   unfold purse_Dividends.l0
   repeat' first
   | (with_reducible exact ih0 _ _ _)
   | (with_reducible exact ih1 _ _ _ _ _ _)
   | (with_reducible exact LeO.refl _)
   | (with_reducible exact LeO.none _)
   | (with_reducible refine LeO.ite ?_ ?_)
   | (with_reducible refine LeO.bind ?_ (fun _ => ?_))
   | exact ih0 _ _ _
   | exact ih1 _ _ _ _ _ _
   | exact LeO.none _
   | refine LeO.ite ?_ ?_
   | refine LeO.bind ?_ (fun _ => ?_)
  ·intro y0 y1 y2 y3 y4 y5
   unfold purse_Dividends.l1
   repeat' first
   | (with_reducible exact ih0 _ _ _)
   | (with_reducible exact ih1 _ _ _ _ _ _)
   | (with_reducible exact LeO.refl _)
   | (with_reducible exact LeO.none _)
   | (with_reducible refine LeO.ite ?_ ?_)
   | (with_reducible refine LeO.bind ?_ (fun _ => ?_))
   | exact ih0 _ _ _
   | exact ih1 _ _ _ _ _ _
   | exact LeO.none _
   | refine LeO.ite ?_ ?_
   | refine LeO.bind ?_ (fun _ => ?_)
theorem purse_Dividends.mono : ∀ a0 k, LeO (purse_Dividends.f k a0) (purse_Dividends.f (k + 1) a0) := by
 intro a0 k
 obtain ⟨ih0, ih1⟩ := purse_Dividends.mono_l k
 unfold purse_Dividends.f
 repeat' first
   | (with_reducible exact ih0 _ _ _)
   | (with_reducible exact ih1 _ _ _ _ _ _)
   | (with_reducible exact LeO.refl _)
   | (with_reducible exact LeO.none _)
   | (with_reducible refine LeO.ite ?_ ?_)
   | (with_reducible refine LeO.bind ?_ (fun _ => ?_))
   | exact ih0 _ _ _
   | exact ih1 _ _ _ _ _ _
   | exact LeO.none _
   | refine LeO.ite ?_ ?_
   | refine LeO.bind ?_ (fun _ => ?_)
def purse_Dividends.T13 : Bool × List (List Nat × List Nat) := (true, [([], []), ([], []), ([0, 1], [0, 1]), ([2], [2]), ([], []), ([], []), ([], []), ([6], [6]), ([5, 7], [5, 7]), ([4, 8], [4, 8]), ([9], [9]), ([3, 10], [3, 10]), ([0, 1, 0, 1, 2, 3, 4, 5, 6, 7, 8, 9, 10, 11], [0, 1]), ([12, 11, 0, 1, 2, 3, 4, 5, 6, 7, 8, 9, 10, 11], [11, 12])])
def purse_Dividends.B13 : List Nat := [0, 0, 3, 7, 0, 0, 0, 64, 224, 496, 1008, 2047, 4095, 8191]
theorem purse_Dividends.tab13 : rtab .any (opsOf Tryd.f26 13) = purse_Dividends.T13 := by kernel_rfl
theorem purse_Dividends.bits13 : waitsOk purse_Dividends.T13.2 purse_Dividends.B13 = true := by kernel_rfl
set_option maxHeartbeats 8000000 in
set_option maxRecDepth 100000 in
theorem purse_Dividends.calls (k : Nat) (A0 : Option Addr) (c0 : Nat) (l0 : List Int) (r1 : List Int) (r2 : Int) (w : World) (hr0 : Kd.C (Kd.int .i64) w A0 l0.length l0) (hc0 : l0.length ≤ c0) (h : purse_Dividends.f k l0 = some (r1, r2)) (hT : BitsW w := by first | exact HT.out | exact HT.out.below HB.out | exact HT.out.below (by repeat (first | (with_reducible first | exact HB.out | exact Below.refl _ _ | apply below_alloc | apply pw_below_drewN | apply below_drew1) | exact HB.out))) :
  Calls Tryd.prog 26 #[.slice A0 l0.length c0] w fun e w' => ∃ v0_ : Value, e = .returned (.tuple #[v0_, .int .i64 r2]) ∧ Kd.R (Kd.int .i64) 3 w' w.heap.size (fun _ => True) v0_ r1 ∧ Below w.heap.size w w' := by
 have HT := Lib.hid hT
 clear hT
 have HR0 := Aside0.mk hr0
 have HC0 := Aside0.mk hc0
 clear hr0 hc0
 have HB := Aside0.mk (Below.refl w.heap.size w)
 have H : ((purse_Validate.f l0).bind fun t492 => (if t492 = 0 then ((slices_Clone.f l0).bind fun t493 => ((purse_players.f l0).bind fun t496 => (purse_Dividends.l0 k t493 t496 0))) else (some (([] : List Int), t492)))) = some (r1, r2) := h
 clear h
 replace H := Option.bind_eq_some_iff.mp H
 obtain ⟨t492, A20, H⟩ := H
 replace H : (if t492 = 0 then ((slices_Clone.f l0).bind fun t493 => ((purse_players.f l0).bind fun t496 => (purse_Dividends.l0 k t493 t496 0))) else (some (([] : List Int), t492))) = some (r1, r2) := H
 have A2 := Aside0.mk A20
 clear A20
 by_cases c3 : t492 = 0
 ·rw [if_pos c3] at H
  have c3b0 : (t492 == 0) = true := beq_iff_eq.mpr c3
  have c3b1 : (t492 != 0) = false := bne_eq_false_iff_eq.mpr c3
  clear c3
  replace H := Option.bind_eq_some_iff.mp H
  obtain ⟨t493, A40, H⟩ := H
  replace H : ((purse_players.f l0).bind fun t496 => (purse_Dividends.l0 k t493 t496 0)) = some (r1, r2) := H
  have A4 := Aside0.mk A40
  clear A40
  replace H := Option.bind_eq_some_iff.mp H
  obtain ⟨t496, A50, H⟩ := H
  replace H : (purse_Dividends.l0 k t493 t496 0) = some (r1, r2) := H
  have A5 := Aside0.mk A50
  clear A50
  have H' := Aside0.mk H
  clear H
  go_enter Tryd.func26, Tryd.ntmps26
  go_wp2_with (first | ((with_reducible refine gate_callee (f := 42) rfl ?_); refine goesL_ (some 10) rfl rfl Tryd.func42 (by kernel_rfl) rfl #[.slice A0 l0.length c0] rfl (by (try simp only [List.map_toArray, List.map_cons, List.map_nil]); first | done | rfl | (simp only [List.length_drop, List.length_take]; rfl)) ?_; (with_reducible refine (purse_Validate.calls _ _ l0 t492 _ ?side1 ?side2 A2.out).mono ?_); (case side1 => repeat (first | exact HR0.out | (with_reducible refine Kd.C_alloc ?_ _) | (with_reducible refine Kd.C_drewN ?_ _) | (with_reducible refine Kd.C_drew ?_))); (case side2 => exact HC0.out); rintro e w' ⟨rfl, ⟨nd, rfl⟩⟩; refine ⟨_, rfl, ?_⟩) | ((with_reducible refine gate_callee (f := 67) rfl ?_); refine goesL_ (some 15) rfl rfl Tryd.func67 (by kernel_rfl) rfl #[.slice A0 l0.length c0] rfl (by (try simp only [List.map_toArray, List.map_cons, List.map_nil]); first | done | rfl | (simp only [List.length_drop, List.length_take]; rfl)) ?_; (with_reducible refine (slices_Clone.calls _ _ l0 t493 _ ?side1 ?side2 A4.out).mono ?_); (case side1 => repeat (first | exact HR0.out | (with_reducible refine Kd.C_alloc ?_ _) | (with_reducible refine Kd.C_drewN ?_ _) | (with_reducible refine Kd.C_drew ?_))); (case side2 => exact HC0.out); rintro e w6 ⟨v494, rfl, ho0, hb⟩; refine ⟨_, rfl, ?_⟩; have n0_ := Aside0.mk (Kd.R_lower ho0 (below_size (by repeat (first | (with_reducible first | exact HB.out | apply below_alloc | apply pw_below_drewN | apply below_drew1) | exact HB.out)))); have n1_ := Aside0.mk (below_step (by repeat (first | (with_reducible first | exact HB.out | apply below_alloc | apply pw_below_drewN | apply below_drew1) | exact HB.out)) hb); clear HB; have HO495 := n0_; have HB := n1_; clear n0_ n1_; (try clear hb); (try clear hb2); (try clear hk); (try clear hi); (try clear ho0)) | ((with_reducible refine gate_callee (f := 49) rfl ?_); refine goesL_ (some 17) rfl rfl Tryd.func49 (by kernel_rfl) rfl #[.slice A0 l0.length c0] rfl (by (try simp only [List.map_toArray, List.map_cons, List.map_nil]); first | done | rfl | (simp only [List.length_drop, List.length_take]; rfl)) ?_; (with_reducible refine (purse_players.calls _ _ l0 t496 _ ?side1 ?side2 A5.out).mono ?_); (case side1 => repeat (first | exact (Kd.C_below HR0.out HB.out) | (with_reducible refine Kd.C_alloc ?_ _) | (with_reducible refine Kd.C_drewN ?_ _) | (with_reducible refine Kd.C_drew ?_))); (case side2 => exact HC0.out); rintro e w' ⟨rfl, ⟨nd, rfl⟩⟩; refine ⟨_, rfl, ?_⟩))
  go_loopg [18] k (fun kq v18 w' => ∃ (x5_1 : List Int) (x18_1 : Int), v18 = .int .i64 x18_1 ∧ Aside0 (purse_Dividends.l0 kq x5_1 t496 x18_1 = some (r1, r2)) ∧ Aside0 (kq ≤ k) ∧ Aside0 (Kd.R (Kd.int .i64) 3 w' w.heap.size (fun _ => True) v494 x5_1) ∧ Aside0 (Below w.heap.size w w'))
  case atStart => exact ⟨(t493), (0), (by first | rfl | (simp; done) | (simp [*]; done)), H', ⟨Nat.le_refl _⟩, ⟨by (with_reducible repeat (first | apply Kd.R_alloc | apply Kd.R_drewN | apply Kd.R_drew)); exact HO495.out⟩, ⟨by repeat (first | (with_reducible first | exact HB.out | apply below_alloc | apply pw_below_drewN | apply below_drew1) | exact HB.out)⟩⟩
  case round =>
   clear H'
   try clear c2
   try clear p2
   try clear c3
   try clear c3b0
   try clear c3b1
   try clear c4
   try clear c6
   obtain ⟨x5_1, x18_1, rfl, HA, HK1, HO_5, HB⟩ := hrel
   cases gk with
   | zero => exact absurd HA.out (by simp [purse_Dividends.l0])
   | succ k1 =>
    have H := HA.out
    clear HA
    simp only [purse_Dividends.l0] at H
    by_cases c7 : x18_1 < t496
    ·rw [if_pos c7] at H
     have c7b0 : decide (x18_1 < t496) = true := decide_eq_true c7
     clear c7
     have H' := Aside0.mk H
     clear H
     obtain ⟨Ao8, co8, eo8⟩ := Kd.R_slice HO_5.out
     subst eo8
     go_wp2
     go_loopg [23] k1 (fun kq v23 w' => ∃ (x5_2 : List Int) (x23_2 : Int), v23 = .int .i64 x23_2 ∧ Aside0 (purse_Dividends.l1 kq x5_2 x18_1 t496 x18_1 (x5_1.length : Int) x23_2 = some (r1, r2)) ∧ Aside0 (kq ≤ k1) ∧ Aside0 (Kd.R (Kd.int .i64) 3 w' w.heap.size (fun _ => True) (.slice Ao8 x5_1.length co8) x5_2) ∧ Aside0 (Below w.heap.size w w'))
     case atStart => exact ⟨(x5_1), (0), (by first | rfl | (simp; done) | (simp [*]; done)), H', ⟨Nat.le_refl _⟩, ⟨by (with_reducible repeat (first | apply Kd.R_alloc | apply Kd.R_drewN | apply Kd.R_drew)); exact HO_5.out⟩, ⟨by repeat (first | (with_reducible first | exact HB.out | apply below_alloc | apply pw_below_drewN | apply below_drew1) | exact HB.out)⟩⟩
     case round =>
      clear H'
      try clear c2
      try clear p2
      try clear c3
      try clear c3b0
      try clear c3b1
      try clear c4
      try clear c6
      try clear c7
      try clear c7b0
      try clear p2
      obtain ⟨x5_2, x23_2, rfl, HA, HK2, HO_5, HB⟩ := hrel
      have hl5_2 := (Kd.R_reads' HO_5.out).1
      rw [hl5_2] at HO_5
      (try simp only [hl5_2])
      cases gk with
      | zero => exact absurd HA.out (by simp [purse_Dividends.l1])
      | succ k2 =>
       have H := HA.out
       clear HA
       simp only [purse_Dividends.l1] at H
       by_cases c9 : x23_2 < (x5_1.length : Int)
       ·rw [if_pos c9] at H
        have c9b0 : decide (x23_2 < (x5_1.length : Int)) = true := decide_eq_true c9
        have c9n := c9b0
        rw [hl5_2] at c9n
        clear c9
        replace H := Option.bind_eq_some_iff.mp H
        obtain ⟨t497, A100, H⟩ := H
        replace H : (if t497 = true then (if 0 ≤ x23_2 then (if x23_2 < (x5_2.length : Int) then (if 0 ≤ x18_1 then (if 0 ≤ (Go.bits .andNot .i64 x23_2 (shl .i64 1 x18_1)) then (if (Go.bits .andNot .i64 x23_2 (shl .i64 1 x18_1)) < (x5_2.length : Int) then (purse_Dividends.l1 k2 (x5_2.set (x23_2 : Int).toNat (wrap64 ((rd x5_2 x23_2) - (rd x5_2 (Go.bits .andNot .i64 x23_2 (shl .i64 1 x18_1)))))) x18_1 t496 x18_1 (x5_1.length : Int) (wrap64 (x23_2 + 1))) else (none)) else (none)) else (none)) else (none)) else (none)) else (purse_Dividends.l1 k2 x5_2 x18_1 t496 x18_1 (x5_1.length : Int) (wrap64 (x23_2 + 1)))) = some (r1, r2) := H
        have A10 := Aside0.mk A100
        clear A100
        by_cases c11 : t497 = true
        ·subst c11
         have H1 : (if 0 ≤ x23_2 then (if x23_2 < (x5_2.length : Int) then (if 0 ≤ x18_1 then (if 0 ≤ (Go.bits .andNot .i64 x23_2 (shl .i64 1 x18_1)) then (if (Go.bits .andNot .i64 x23_2 (shl .i64 1 x18_1)) < (x5_2.length : Int) then (purse_Dividends.l1 k2 (x5_2.set (x23_2 : Int).toNat (wrap64 ((rd x5_2 x23_2) - (rd x5_2 (Go.bits .andNot .i64 x23_2 (shl .i64 1 x18_1)))))) x18_1 t496 x18_1 (x5_1.length : Int) (wrap64 (x23_2 + 1))) else (none)) else (none)) else (none)) else (none)) else (none)) = some (r1, r2) := by rw [if_pos rfl] at H; exact H
         clear H
         have H := H1
         clear H1
         by_cases c12 : 0 ≤ x23_2
         ·rw [if_pos c12] at H
          have c12b0 : decide (0 ≤ x23_2) = true := decide_eq_true c12
          clear c12
          by_cases c13 : x23_2 < (x5_2.length : Int)
          ·rw [if_pos c13] at H
           have c13b0 : decide (x23_2 < (x5_2.length : Int)) = true := decide_eq_true c13
           clear c13
           by_cases c14 : 0 ≤ x18_1
           ·rw [if_pos c14] at H
            have c14b0 := eq_true c14
            have c14b1 : decide (0 ≤ x18_1) = true := decide_eq_true c14
            clear c14
            obtain ⟨ji15, hji15⟩ : ∃ j_ : Int, (shl .i64 1 x18_1) = j_ := ⟨_, rfl⟩
            replace H : (if 0 ≤ (Go.bits .andNot .i64 x23_2 (ji15)) then (if (Go.bits .andNot .i64 x23_2 (ji15)) < (x5_2.length : Int) then (purse_Dividends.l1 k2 (x5_2.set (x23_2 : Int).toNat (wrap64 ((rd x5_2 x23_2) - (rd x5_2 (Go.bits .andNot .i64 x23_2 (ji15)))))) x18_1 t496 x18_1 (x5_1.length : Int) (wrap64 (x23_2 + 1))) else (none)) else (none)) = some (r1, r2) := by first | (rw [hji15] at H; exact H) | (simp only [hji15] at H ⊢; exact H)
            (try rw [hji15] at A10)
            have hji15_ : (IntKind.i64.wrap (1 * 2 ^ min x18_1.toNat 64)) = ji15 := hji15
            have hji15z : x18_1 ≤ 64 → (IntKind.i64.wrap (1 * 2 ^ x18_1.toNat)) = ji15 := shl_small hji15
            have hji15u : (IntKind.i64.wrap (2 ^ min x18_1.toNat 64)) = ji15 := by have h_ := hji15_; rw [Int.one_mul] at h_; exact h_
            have hji15v : x18_1 ≤ 64 → (IntKind.i64.wrap (2 ^ x18_1.toNat)) = ji15 := fun hle_ => by have h_ := hji15z hle_; rw [Int.one_mul] at h_; exact h_
            have hji15y : (wrap64 (1 * 2 ^ min x18_1.toNat 64)) = ji15 := (i64_w _).symm.trans hji15_
            have hji15x : x18_1 ≤ 64 → (wrap64 (1 * 2 ^ x18_1.toNat)) = ji15 := fun h_ => (i64_w _).symm.trans (hji15z h_)
            by_cases c16 : 0 ≤ (Go.bits .andNot .i64 x23_2 (ji15))
            ·rw [if_pos c16] at H
             have c16b0 : decide (0 ≤ (Go.bits .andNot .i64 x23_2 (ji15))) = true := decide_eq_true c16
             clear c16
             by_cases c17 : (Go.bits .andNot .i64 x23_2 (ji15)) < (x5_2.length : Int)
             ·rw [if_pos c17] at H
              have c17b0 : decide ((Go.bits .andNot .i64 x23_2 (ji15)) < (x5_2.length : Int)) = true := decide_eq_true c17
              clear c17
              obtain ⟨y500, hy500⟩ : ∃ y_ : List Int, y_ = (x5_2.set (x23_2 : Int).toNat (wrap64 ((rd x5_2 x23_2) - (rd x5_2 (Go.bits .andNot .i64 x23_2 (ji15)))))) := ⟨_, rfl⟩
              replace H : (purse_Dividends.l1 k2 y500 x18_1 t496 x18_1 (x5_1.length : Int) (wrap64 (x23_2 + 1))) = some (r1, r2) := by first | (rw [hy500]; with_reducible exact H) | (have H2_ := (Option.bind_some _ _).symm.trans H; rw [hy500]; with_reducible exact H2_) | (have H2_ := (Option.bind_some _ _).symm.trans H; with_reducible exact H2_) | with_reducible exact H | (rw [hy500]; exact H) | exact H
              have Ny500 := Aside0.mk hy500
              clear hy500
              have H' := Aside0.mk H
              clear H
              try go_wp2_with (first | ((with_reducible refine gate_callee (f := 50) rfl ?_); refine goesL_ (some 29) rfl rfl Tryd.func50 (by kernel_rfl) rfl #[.int .i64 x18_1, .int .i64 x23_2] rfl (by (try simp only [List.map_toArray, List.map_cons, List.map_nil]); first | done | rfl | (simp only [List.length_drop, List.length_take]; rfl)) ?_; (with_reducible refine (purse_player_in.calls x18_1 x23_2 true _ A10.out).mono ?_); rintro e w' ⟨rfl, ⟨nd, rfl⟩⟩; refine ⟨_, rfl, ?_⟩; (try (rw [drewN_self wr]; generalize hq_ : World.drewN wr _ = wr; have n0_ : Aside0 (Kd.R (Kd.int .i64) 3 wr w.heap.size (fun _ => True) (.slice Ao8 x5_2.length co8) x5_2) := ⟨by rw [← hq_]; exact (by (with_reducible repeat (first | apply Kd.R_alloc | apply Kd.R_drewN | apply Kd.R_drew)); exact HO_5.out)⟩; have n1_ : Aside0 (Below w.heap.size w wr) := ⟨by rw [← hq_]; exact (by repeat (first | (with_reducible first | exact HB.out | apply below_alloc | apply pw_below_drewN | apply below_drew1) | exact HB.out))⟩; clear HO_5 HB hq_; have HO_5 := n0_; have HB := n1_; clear n0_ n1_))))
              have n0_ := Aside0.mk (Kd.R_drew HO_5.out)
              have n1_ := Aside0.mk (below_drew1 HB.out)
              clear HO_5
              clear HB
              have HO_5 := n0_
              have HB := n1_
              clear n0_ n1_
              have p498 : 0 ≤ (x23_2 : Int) := of_decide_eq_true (by first | (with_reducible assumption) | assumption)
              have q498 : x23_2 < (x5_2.length : Int) := of_decide_eq_true (by first | (with_reducible assumption) | assumption)
              obtain ⟨ad498, e498, hx498_0⟩ := Kd.at_int (Kd.R_reads' HO_5.out).2.2 x23_2 p498 q498
              cases e498
              replace p498 := eq_true p498
              replace q498 := eq_true q498
              have p499 : 0 ≤ ((Go.bits .andNot .i64 x23_2 (ji15)) : Int) := of_decide_eq_true (by first | (with_reducible assumption) | assumption)
              have q499 : (Go.bits .andNot .i64 x23_2 (ji15)) < (x5_2.length : Int) := of_decide_eq_true (by first | (with_reducible assumption) | assumption)
              obtain ⟨ad499, e499, hx499_0⟩ := Kd.at_int (Kd.R_reads' HO_5.out).2.2 (Go.bits .andNot .i64 x23_2 (ji15)) p499 q499
              obtain rfl : ad498 = ad499 := (by injection e499)
              replace p499 := eq_true p499
              replace q499 := eq_true q499
              have p18 : 0 ≤ (x23_2 : Int) := of_decide_eq_true (by first | (with_reducible assumption) | assumption)
              have q18 : (x23_2 : Int) < ((x5_2.length : Int) : Int) := of_decide_eq_true (by first | (with_reducible assumption) | assumption)
              obtain ⟨go18, co18, eo18, gb18, gl18, cl18, HG18⟩ := Kd.R_form HO_5.out (by omega)
              (first | cases eo18 | (injection eo18 with ea_ en_ ec_; (first | subst ea_ | (injection ea_ with ea_; subst ea_)); subst ec_; clear en_))
              have GB18 := Aside0.mk gb18
              have GG18 := Aside0.mk HG18
              clear gb18 gl18 HG18
              (first | simp only [add_plain] at hx498_0 | skip)
              (first | simp only [add_plain] at hx499_0 | skip)
              obtain ⟨hx18_0, hf18_0⟩ := Kd.R_celln 0 HO_5.out (x23_2 : Int) p18 q18
              replace p18 := eq_true p18
              replace q18 := eq_true q18
              have HP20 := Kd.R_putn HO_5.out (x23_2 : Int) (wrap64 ((rd x5_2 x23_2) - (rd x5_2 (Go.bits .andNot .i64 x23_2 (ji15)))))
              rw [← Ny500.out] at HP20
              have HQ20 := Aside0.mk HP20
              clear HP20
              refine start_ (n := 14) (S := fun w' => w'.cell? ⟨go18, (x23_2).toNat, none⟩ = some (.int .i64 (rd x5_2 x23_2)) ∧ w'.cell? ⟨go18, ((Go.bits .andNot .i64 x23_2 (ji15))).toNat, none⟩ = some (.int .i64 (rd x5_2 (Go.bits .andNot .i64 x23_2 (ji15))))) (ds := [13]) #[false, false, false, false, false, false, false, false, false, false, false, false, false, false] (by kernel_rfl) rfl rfl ⟨hx498_0, hx499_0⟩ (fun hHeld => ?_); refine with_tabW purse_Dividends.tab13 purse_Dividends.bits13 (fun HT_ HW_ => ?_)
              generalize wr.drew = w19 at HO_5 HB GG18 HQ20 hf18_0 hx18_0 hx498_0 hx499_0 hHeld ⊢
              refine pure_ (i := 0) (N := some 30) (v := ?_) (a' := ?_) #[true, false, false, false, false, false, false, false, false, false, false, false, false, false] rfl rfl (any_of HT_.out (by kernel_rfl)) (fun _ _ _ h => h) (Or.inl ⟨by rfl, ?_⟩) ?_ ?_
              rotate_left
              ·intro w'
               go_simp
               with_reducible rfl
              rotate_left
              ·simp only [Act.put, List.setIfInBounds_toArray, List.set_cons_zero, List.set_cons_succ, i64_w, i32_w]
               rfl
              refine pure_ (i := 1) (N := some 31) (v := ?_) (a' := ?_) #[true, true, false, false, false, false, false, false, false, false, false, false, false, false] rfl rfl (any_of HT_.out (by kernel_rfl)) (fun _ _ _ h => h) (Or.inl ⟨by rfl, ?_⟩) ?_ ?_
              rotate_left
              ·intro w'
               go_simp
               with_reducible rfl
              rotate_left
              ·simp only [Act.put, List.setIfInBounds_toArray, List.set_cons_zero, List.set_cons_succ, i64_w, i32_w]
               rfl
              refine pure_ (i := 2) (N := some 32) (v := ?_) (a' := ?_) #[true, true, true, false, false, false, false, false, false, false, false, false, false, false] rfl rfl (any_of HT_.out (by kernel_rfl)) (fun _ _ _ h => h) (Or.inl ⟨by rfl, ?_⟩) ?_ ?_
              rotate_left
              ·intro w'
               go_simp
               with_reducible rfl
              rotate_left
              ·simp only [Act.put, List.setIfInBounds_toArray, List.set_cons_zero, List.set_cons_succ, i64_w, i32_w]
               rfl
              refine pure_ (i := 4) (N := some 34) (v := ?_) (a' := ?_) #[true, true, true, false, true, false, false, false, false, false, false, false, false, false] rfl rfl (any_of HT_.out (by kernel_rfl)) (fun _ _ _ h => h) (Or.inl ⟨by rfl, ?_⟩) ?_ ?_
              rotate_left
              ·intro w'
               go_simp
               with_reducible rfl
              rotate_left
              ·simp only [Act.put, List.setIfInBounds_toArray, List.set_cons_zero, List.set_cons_succ, i64_w, i32_w]
               rfl
              refine pure_ (i := 5) (N := some 35) (v := ?_) (a' := ?_) #[true, true, true, false, true, true, false, false, false, false, false, false, false, false] rfl rfl (any_of HT_.out (by kernel_rfl)) (fun _ _ _ h => h) (Or.inl ⟨by rfl, ?_⟩) ?_ ?_
              rotate_left
              ·intro w'
               go_simp
               with_reducible rfl
              rotate_left
              ·simp only [Act.put, List.setIfInBounds_toArray, List.set_cons_zero, List.set_cons_succ, i64_w, i32_w]
               rfl
              refine pure_ (i := 6) (N := some 36) (v := ?_) (a' := ?_) #[true, true, true, false, true, true, true, false, false, false, false, false, false, false] rfl rfl (any_of HT_.out (by kernel_rfl)) (fun _ _ _ h => h) (Or.inl ⟨by rfl, ?_⟩) ?_ ?_
              rotate_left
              ·intro w'
               go_simp
               with_reducible rfl
              rotate_left
              ·simp only [Act.put, List.setIfInBounds_toArray, List.set_cons_zero, List.set_cons_succ, i64_w, i32_w]
               rfl
              refine pure_ (i := 7) (N := some 37) (v := ?_) (a' := ?_) #[true, true, true, false, true, true, true, true, false, false, false, false, false, false] rfl rfl (any_of HT_.out (by kernel_rfl)) (fun _ _ _ h => h) (Or.inl ⟨by rfl, ?_⟩) ?_ ?_
              rotate_left
              ·intro w'
               go_simp
               with_reducible rfl
              rotate_left
              ·simp only [Act.put, List.setIfInBounds_toArray, List.set_cons_zero, List.set_cons_succ, i64_w, i32_w]
               rfl
              refine pure_ (i := 8) (N := some 38) (v := ?_) (a' := ?_) #[true, true, true, false, true, true, true, true, true, false, false, false, false, false] rfl rfl (any_of HT_.out (by kernel_rfl)) (fun _ _ _ h => h) (Or.inl ⟨by rfl, ?_⟩) ?_ ?_
              rotate_left
              ·intro w'
               go_simp
               with_reducible rfl
              rotate_left
              ·simp only [Act.put, List.setIfInBounds_toArray, List.set_cons_zero, List.set_cons_succ, i64_w, i32_w]
               rfl
              refine pure_ (i := 9) (N := some 39) (v := ?_) (a' := ?_) #[true, true, true, false, true, true, true, true, true, true, false, false, false, false] rfl rfl (any_of HT_.out (by kernel_rfl)) (fun _ _ _ h => h) (Or.inl ⟨by rfl, ?_⟩) ?_ ?_
              rotate_left
              ·intro w'
               go_simp
               with_reducible rfl
              rotate_left
              ·simp only [Act.put, List.setIfInBounds_toArray, List.set_cons_zero, List.set_cons_succ, i64_w, i32_w]
               rfl
              refine take_ (i := 3) (N := some 33) (v := ?_) (a' := ?_) #[true, true, true, true, true, true, true, true, true, true, false, false, false, false] rfl rfl (take_ofW HT_.out HW_.out (by kernel_rfl)) (fun _ _ _ h => h) (Or.inl ⟨by rfl, ?_⟩) hHeld ?_ ?_
              rotate_left
              ·rintro w' ⟨s0, s1⟩
               go_simp
               with_reducible rfl
              rotate_left
              ·simp only [Act.put, List.setIfInBounds_toArray, List.set_cons_zero, List.set_cons_succ, i64_w, i32_w]
               rfl
              refine take_ (i := 10) (N := some 40) (v := ?_) (a' := ?_) #[true, true, true, true, true, true, true, true, true, true, true, false, false, false] rfl rfl (take_ofW HT_.out HW_.out (by kernel_rfl)) (fun _ _ _ h => h) (Or.inl ⟨by rfl, ?_⟩) hHeld ?_ ?_
              rotate_left
              ·rintro w' ⟨s0, s1⟩
               go_simp
               with_reducible rfl
              rotate_left
              ·simp only [Act.put, List.setIfInBounds_toArray, List.set_cons_zero, List.set_cons_succ, i64_w, i32_w]
               rfl
              refine pure_ (i := 11) (N := some 41) (v := ?_) (a' := ?_) #[true, true, true, true, true, true, true, true, true, true, true, true, false, false] rfl rfl (any_of HT_.out (by kernel_rfl)) (fun _ _ _ h => h) (Or.inl ⟨by rfl, ?_⟩) ?_ ?_
              rotate_left
              ·intro w'
               go_simp
               with_reducible rfl
              rotate_left
              ·simp only [Act.put, List.setIfInBounds_toArray, List.set_cons_zero, List.set_cons_succ, i64_w, i32_w]
               rfl
              refine pure_ (i := 12) (N := some 42) (v := ?_) (a' := ?_) #[true, true, true, true, true, true, true, true, true, true, true, true, true, false] rfl rfl (any_of HT_.out (by kernel_rfl)) (fun _ _ _ h => h) (Or.inl ⟨by rfl, ?_⟩) ?_ ?_
              rotate_left
              ·intro w'
               go_simp
               with_reducible rfl
              rotate_left
              ·simp only [Act.put, List.setIfInBounds_toArray, List.set_cons_zero, List.set_cons_succ, i64_w, i32_w]
               rfl
              refine last_ (i := 13) (N := none) #[true, true, true, true, true, true, true, true, true, true, true, true, true, true] rfl rfl (one_of HT_.out (by kernel_rfl)) (by decide) (fun K hK => ?_)
              refine skip_ (w1 := ?_) (by rfl) rfl ?_ ?_
              rotate_left
              ·go_simp
               rfl
              refine hK.out _ _ ?_
              clear hK K
              refine done_ (done_of HT_.out (by kernel_rfl)) ?_
              try go_wp2
              (try simp only [← hl5_2])
              go_roundg k2
              case measure => have := HK1.out; have := HK2.out; omega
              case rel => exact ⟨(y500), (wrap64 (x23_2 + 1)), (by first | rfl | (simp; done) | (simp [*]; done)), H', ⟨by have := HK1.out; have := HK2.out; omega⟩, ⟨by (try simp only [hl5_2]); (with_reducible repeat (first | apply Kd.R_alloc | apply Kd.R_drewN | apply Kd.R_drew)); exact HQ20.out⟩, ⟨by repeat (first | (with_reducible first | exact HB.out | apply below_alloc | apply pw_below_drewN | apply below_drew1 | refine below_set ?_ GB18.out) | exact HB.out)⟩⟩
             ·rw [if_neg c17] at H
              exact absurd H (by simp)
            ·rw [if_neg c16] at H
             exact absurd H (by simp)
           ·rw [if_neg c14] at H
            exact absurd H (by simp)
          ·rw [if_neg c13] at H
           exact absurd H (by simp)
         ·rw [if_neg c12] at H
          exact absurd H (by simp)
        ·replace c11 := Bool.eq_false_iff.mpr c11
         subst c11
         have H1 : (purse_Dividends.l1 k2 x5_2 x18_1 t496 x18_1 (x5_1.length : Int) (wrap64 (x23_2 + 1))) = some (r1, r2) := by rw [if_neg (show ¬ (false = true) by decide)] at H; exact H
         clear H
         have H := H1
         clear H1
         have H' := Aside0.mk H
         clear H
         go_wp2_with (first | ((with_reducible refine gate_callee (f := 50) rfl ?_); refine goesL_ (some 29) rfl rfl Tryd.func50 (by kernel_rfl) rfl #[.int .i64 x18_1, .int .i64 x23_2] rfl (by (try simp only [List.map_toArray, List.map_cons, List.map_nil]); first | done | rfl | (simp only [List.length_drop, List.length_take]; rfl)) ?_; (with_reducible refine (purse_player_in.calls x18_1 x23_2 false _ A10.out).mono ?_); rintro e w' ⟨rfl, ⟨nd, rfl⟩⟩; refine ⟨_, rfl, ?_⟩))
         (try simp only [← hl5_2])
         go_roundg k2
         case measure => have := HK1.out; have := HK2.out; omega
         case rel => exact ⟨(x5_2), (wrap64 (x23_2 + 1)), (by first | rfl | (simp; done) | (simp [*]; done)), H', ⟨by have := HK1.out; have := HK2.out; omega⟩, ⟨by (try simp only [hl5_2]); (with_reducible repeat (first | apply Kd.R_alloc | apply Kd.R_drewN | apply Kd.R_drew)); exact HO_5.out⟩, ⟨by repeat (first | (with_reducible first | exact HB.out | apply below_alloc | apply pw_below_drewN | apply below_drew1) | exact HB.out)⟩⟩
       ·rw [if_neg c9] at H
        have c9b0 : decide (x23_2 < (x5_1.length : Int)) = false := decide_eq_false c9
        have c9n := c9b0
        rw [hl5_2] at c9n
        clear c9
        have H' := Aside0.mk H
        clear H
        go_wp2
        (try simp only [← hl5_2])
        go_roundg k2
        case measure => have := HK1.out; have := HK2.out; omega
        case rel => exact ⟨(x5_2), (wrap64 (x18_1 + 1)), (by first | rfl | (simp; done) | (simp [*]; done)), H', ⟨by have := HK1.out; have := HK2.out; omega⟩, ⟨by (try simp only [hl5_2]); (with_reducible repeat (first | apply Kd.R_alloc | apply Kd.R_drewN | apply Kd.R_drew)); exact HO_5.out⟩, ⟨by repeat (first | (with_reducible first | exact HB.out | apply below_alloc | apply pw_below_drewN | apply below_drew1) | exact HB.out)⟩⟩
    ·rw [if_neg c7] at H
     have c7b0 : decide (x18_1 < t496) = false := decide_eq_false c7
     clear c7
     simp only [Option.some.injEq, Prod.mk.injEq] at H
     obtain ⟨rfl, rfl⟩ := H
     go_wp2
     go_ret2
     exact ⟨_, by first | rfl | (simp [errW_none, errW_some] <;> rfl) | (simp [*, errW_none, errW_some] <;> rfl), by (with_reducible repeat (first | apply Kd.R_alloc | apply Kd.R_drewN | apply Kd.R_drew)); exact HO_5.out, by repeat (first | (with_reducible first | exact HB.out | apply below_alloc | apply pw_below_drewN | apply below_drew1) | exact HB.out)⟩
 ·rw [if_neg c3] at H
  have c3b0 : (t492 == 0) = false := beq_eq_false_iff_ne.mpr c3
  have c3b1 : (t492 != 0) = true := bne_iff_ne.mpr c3
  simp only [Option.some.injEq, Prod.mk.injEq] at H
  obtain ⟨rfl, rfl⟩ := H
  go_enter Tryd.func26, Tryd.ntmps26
  go_wp2_with (first | ((with_reducible refine gate_callee (f := 42) rfl ?_); refine goesL_ (some 10) rfl rfl Tryd.func42 (by kernel_rfl) rfl #[.slice A0 l0.length c0] rfl (by (try simp only [List.map_toArray, List.map_cons, List.map_nil]); first | done | rfl | (simp only [List.length_drop, List.length_take]; rfl)) ?_; (with_reducible refine (purse_Validate.calls _ _ l0 t492 _ ?side1 ?side2 A2.out).mono ?_); (case side1 => repeat (first | exact HR0.out | (with_reducible refine Kd.C_alloc ?_ _) | (with_reducible refine Kd.C_drewN ?_ _) | (with_reducible refine Kd.C_drew ?_))); (case side2 => exact HC0.out); rintro e w' ⟨rfl, ⟨nd, rfl⟩⟩; refine ⟨_, rfl, ?_⟩))
  go_ret2
  exact ⟨_, by first | rfl | (simp [errW_none, errW_some] <;> rfl) | (simp [*, errW_none, errW_some] <;> rfl), by first | exact Kd.R_nil _ _ _ _ _ | exact Kd.N_nil _ _ _ _ _ | exact Kd.V_nil _ _ _ _ _ | exact Kd.Q_nil _ _ _ _ _ | exact Kd.S_nil _ _ _ _ _, by repeat (first | (with_reducible first | exact HB.out | apply below_alloc | apply pw_below_drewN | apply below_drew1) | exact HB.out)⟩

end Go.Proofs.YtjphklemnhgkiaaDoor.Q
