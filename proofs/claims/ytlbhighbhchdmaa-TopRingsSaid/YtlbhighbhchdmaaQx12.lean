-- Written by a program of this session (wip/tools/gprint.py, over the kit's print); Lean checks it.
import Derived.Test.YtlbhighbhchdmaaQx0
import Derived.Test.YtlbhighbhchdmaaQx2
import Derived.Test.YtlbhighbhchdmaaQx9
import Derived.Test.YtlbhighbhchdmaaQx10
namespace Go.Proofs.Ytlbhighbhchdmaa.Q
open Go.RowKit Go.Proofs.YtlbhighbhchdmaaW.PrintWords Go.Proofs.YtlbhighbhchdmaaW.PrintLast Go.Proofs.YtlbhighbhchdmaaW.PrintMore
attribute [local go_sem] max2_int min2_int max_two min_two max_three min_three max_four min_four   -- for this text's walks alone
set_option linter.unusedVariables false
set_option linter.unusedSimpArgs false

/-! ### ring_Split: function 32 -/
def ring_Split.l0 : Nat → ByteArray → Int → Int → List Int → Int → Int → Option (ByteArray × Int × Int)
  | 0, _, _, _, _, _, _ => none
  | k + 1, x0, x6, x7, x21, x22, x23 => if x23 < x22 then (if 0 ≤ x23 then (if x23 < (x21.length : Int) then (ring_Split.l0 k x0 x6 (wrap64 ((wrap64 (10 * x7)) + (rd x21 x23))) x21 x22 (wrap64 (x23 + 1))) else (none)) else (none)) else (if 0 ≤ x6 then (if x6 ≤ (x0.size : Int) then (some (x0.extract 0 (x6 : Int).toNat, x7, 0)) else (none)) else (none))
def ring_Split.f (k : Nat) (a0 : ByteArray) : Option (ByteArray × Int × Int) := (ring_Valid.f k a0).bind fun t277 => (if t277 = 0 then ((ring_digits.f a0 (wrap64 ((a0.size : Int) - 6))).bind fun t278 => (if 5 ≤ (t278.length : Int) then ((some (t278.take 5 : List Int)).bind fun y281 => (ring_Split.l0 k a0 (wrap64 ((a0.size : Int) - 6)) 0 y281 (y281.length : Int) 0)) else (none))) else (some ((⟨#[]⟩ : ByteArray), 0, t277)))
theorem ring_Split.mono_l : ∀ k, (∀ y0 y1 y2 y3 y4 y5, LeO (ring_Split.l0 k y0 y1 y2 y3 y4 y5) (ring_Split.l0 (k + 1) y0 y1 y2 y3 y4 y5))
  | 0 => fun _ _ _ _ _ _ r h => by simp [ring_Split.l0] at h
  | k + 1 => by
    have ih0 := ring_Split.mono_l k
    · intro y0 y1 y2 y3 y4 y5
      unfold ring_Split.l0
      repeat' first
      | (with_reducible exact ih0 _ _ _ _ _ _)
      | (with_reducible exact ring_Valid.mono _ _)
      | (with_reducible exact LeO.refl _)
      | (with_reducible exact LeO.none _)
      | (with_reducible refine LeO.ite ?_ ?_)
      | (with_reducible refine LeO.bind ?_ (fun _ => ?_))
      | exact ih0 _ _ _ _ _ _
      | exact ring_Valid.mono _ _
      | exact LeO.none _
      | refine LeO.ite ?_ ?_
      | refine LeO.bind ?_ (fun _ => ?_)
theorem ring_Split.mono : ∀ a0 k, LeO (ring_Split.f k a0) (ring_Split.f (k + 1) a0) := by
  intro a0 k
  have ih0 := ring_Split.mono_l k
  unfold ring_Split.f
  repeat' first
      | (with_reducible exact ih0 _ _ _ _ _ _)
      | (with_reducible exact ring_Valid.mono _ _)
      | (with_reducible exact LeO.refl _)
      | (with_reducible exact LeO.none _)
      | (with_reducible refine LeO.ite ?_ ?_)
      | (with_reducible refine LeO.bind ?_ (fun _ => ?_))
      | exact ih0 _ _ _ _ _ _
      | exact ring_Valid.mono _ _
      | exact LeO.none _
      | refine LeO.ite ?_ ?_
      | refine LeO.bind ?_ (fun _ => ?_)
set_option maxHeartbeats 8000000 in
set_option maxRecDepth 100000 in
theorem ring_Split.calls (k : Nat) (a0 : ByteArray) (r1 : ByteArray) (r2 : Int) (r3 : Int) (w : World) (h : ring_Split.f k a0 = some (r1, r2, r3)) :
    Calls Try.prog 32 #[.string a0] w fun e w' => e = .returned (.tuple #[.string r1, .int .i64 r2, .int .i64 r3]) ∧ Below w.heap.size w w' := by
  have HB := Aside0.mk (Below.refl w.heap.size w)
  have H : ((ring_Valid.f k a0).bind fun t277 => (if t277 = 0 then ((ring_digits.f a0 (wrap64 ((a0.size : Int) - 6))).bind fun t278 => (if 5 ≤ (t278.length : Int) then ((some (t278.take 5 : List Int)).bind fun y281 => (ring_Split.l0 k a0 (wrap64 ((a0.size : Int) - 6)) 0 y281 (y281.length : Int) 0)) else (none))) else (some ((⟨#[]⟩ : ByteArray), 0, t277)))) = some (r1, r2, r3) := h
  clear h
  replace H := Option.bind_eq_some_iff.mp H
  obtain ⟨t277, A20, H⟩ := H
  replace H : (if t277 = 0 then ((ring_digits.f a0 (wrap64 ((a0.size : Int) - 6))).bind fun t278 => (if 5 ≤ (t278.length : Int) then ((some (t278.take 5 : List Int)).bind fun y281 => (ring_Split.l0 k a0 (wrap64 ((a0.size : Int) - 6)) 0 y281 (y281.length : Int) 0)) else (none))) else (some ((⟨#[]⟩ : ByteArray), 0, t277))) = some (r1, r2, r3) := H
  have A2 := Aside0.mk A20
  clear A20
  by_cases c3 : t277 = 0
  · rw [if_pos c3] at H
    have c3b0 : (t277 == 0) = true := beq_iff_eq.mpr c3
    have c3b1 : (t277 != 0) = false := bne_eq_false_iff_eq.mpr c3
    clear c3
    replace H := Option.bind_eq_some_iff.mp H
    obtain ⟨t278, A40, H⟩ := H
    replace H : (if 5 ≤ (t278.length : Int) then ((some (t278.take 5 : List Int)).bind fun y281 => (ring_Split.l0 k a0 (wrap64 ((a0.size : Int) - 6)) 0 y281 (y281.length : Int) 0)) else (none)) = some (r1, r2, r3) := H
    have A4 := Aside0.mk A40
    clear A40
    by_cases c5 : 5 ≤ (t278.length : Int)
    · rw [if_pos c5] at H
      have c5b0 := eq_true c5
      have c5b1 : decide (5 ≤ (t278.length : Int)) = true := decide_eq_true c5
      clear c5
      obtain ⟨y281, hy281⟩ : ∃ y_ : List Int, y_ = (t278.take 5) := ⟨_, rfl⟩
      replace H : (ring_Split.l0 k a0 (wrap64 ((a0.size : Int) - 6)) 0 y281 (y281.length : Int) 0) = some (r1, r2, r3) := by first | (rw [hy281]; with_reducible exact H) | (have H2_ := (Option.bind_some _ _).symm.trans H; rw [hy281]; with_reducible exact H2_) | (have H2_ := (Option.bind_some _ _).symm.trans H; with_reducible exact H2_) | with_reducible exact H | (rw [hy281]; exact H) | exact H
      have Ny281 := Aside0.mk hy281
      clear hy281
      have H' := Aside0.mk H
      clear H
      go_enter Try.func32, Try.ntmps32
      go_wp2_with (first | ((with_reducible refine gate_callee (f := 36) rfl ?_); refine goesL_ (some 11) rfl rfl Try.func36 (by kernel_rfl) rfl #[.string a0] rfl (by (try simp only [List.map_toArray, List.map_cons, List.map_nil]); first | done | rfl | (simp only [List.length_drop, List.length_take]; rfl)) ?_; (with_reducible refine (ring_Valid.calls k a0 t277 _ A2.out).mono ?_); rintro e w6 ⟨rfl, hb⟩; refine ⟨_, rfl, ?_⟩; have n0_ := Aside0.mk (below_step (by repeat (first | (with_reducible first | exact HB.out | apply below_alloc | apply pw_below_drewN | apply below_drew1) | exact HB.out)) hb); clear HB; have HB := n0_; clear n0_; (try clear hb); (try clear hb2); (try clear hk); (try clear hi)) | ((with_reducible refine gate_callee (f := 73) rfl ?_); refine goesL_ (some 20) rfl rfl Try.func73 (by kernel_rfl) rfl #[.string a0, .int .i64 (wrap64 ((a0.size : Int) - 6))] rfl (by (try simp only [List.map_toArray, List.map_cons, List.map_nil]); first | done | rfl | (simp only [List.length_drop, List.length_take]; rfl)) ?_; (with_reducible refine (ring_digits.calls a0 (wrap64 ((a0.size : Int) - 6)) t278 _ A4.out).mono ?_); rintro e w7 ⟨v279, rfl, ho0, hb⟩; refine ⟨_, rfl, ?_⟩; have n0_ := Aside0.mk (Kd.R_lower ho0 (below_size (by repeat (first | (with_reducible first | exact HB.out | apply below_alloc | apply pw_below_drewN | apply below_drew1) | exact HB.out)))); have n1_ := Aside0.mk (below_step (by repeat (first | (with_reducible first | exact HB.out | apply below_alloc | apply pw_below_drewN | apply below_drew1) | exact HB.out)) hb); clear HB; have HO280 := n0_; have HB := n1_; clear n0_ n1_; (try clear hb); (try clear hb2); (try clear hk); (try clear hi); (try clear ho0); obtain ⟨Ao9, co9, eo9⟩ := Kd.R_slice HO280.out; subst eo9; have q8 : (5 : Int) ≤ ((t278.length : Int) : Int) := of_decide_eq_true (by first | (with_reducible assumption) | assumption); obtain ⟨i08, hi08, _, hsz8, _⟩ := info_parts info3; have hroom8 : t278.length ≤ co9 := (Kd.R_reads' HO280.out).2.1; have hC8 : Kd.C (Kd.int .i64) _ Ao9 t278.length t278 := (Kd.R_reads' HO280.out).2.2; have hcut8 := cut_to (P := Try.prog) 28 3 .i64 Try.underlying28 hi08 Ao9 t278.length co9 5 (by omega) q8 hroom8; have hr8 := Kd.C_take (m := 5) hC8 (by omega); have hy8 : y281.length = (5 : Int).toNat := (by rw [Ny281.out, List.length_take]; omega); rw [← Ny281.out] at hr8; rw [← hy8] at hcut8; have HR284 := Aside0.mk hr8; have HC284 := Aside0.mk (show y281.length ≤ co9 from by omega); clear hr8 hC8 hroom8 hi08 hsz8; have KY8 := Aside0.mk hy8; clear hy8; have KL8 := Aside0.mk (show 5 ≤ t278.length from by omega); replace q8 := eq_true q8))
      go_loopg [7, 23] k (fun kq v7 v23 w' => ∃ (x7_1 : Int) (x23_1 : Int), v7 = .int .i64 x7_1 ∧ v23 = .int .i64 x23_1 ∧ Aside0 (ring_Split.l0 kq a0 (wrap64 ((a0.size : Int) - 6)) x7_1 y281 (y281.length : Int) x23_1 = some (r1, r2, r3)) ∧ Aside0 (kq ≤ k) ∧ Aside0 (Kd.C (Kd.int .i64) w' Ao9 y281.length y281) ∧ Aside0 (Below w.heap.size w w'))
      case atStart => exact ⟨(0), (0), (by first | rfl | (simp; done) | (simp [*]; done)), (by first | rfl | (simp; done) | (simp [*]; done)), H', ⟨Nat.le_refl _⟩, ⟨by repeat (first | (with_reducible exact HR284.out) | (with_reducible refine Kd.C_alloc ?_ _) | (with_reducible refine Kd.C_drewN ?_ _) | (with_reducible refine Kd.C_drew ?_) | exact HR284.out)⟩, ⟨by repeat (first | (with_reducible first | exact HB.out | apply below_alloc | apply pw_below_drewN | apply below_drew1) | exact HB.out)⟩⟩
      case round =>
        clear H'
        try clear p2
        try clear c3
        try clear c3b0
        try clear c3b1
        try clear c5
        try clear c5b0
        try clear c5b1
        try clear p6
        try clear c7
        try clear q8
        try clear q8
        obtain ⟨x7_1, x23_1, rfl, rfl, HA, HK1, HR284, HB⟩ := hrel
        cases gk with
        | zero => exact absurd HA.out (by simp [ring_Split.l0])
        | succ k1 =>
          have H := HA.out
          clear HA
          simp only [ring_Split.l0] at H
          by_cases c10 : x23_1 < (y281.length : Int)
          · rw [if_pos c10] at H
            have c10b0 : decide (x23_1 < (y281.length : Int)) = true := decide_eq_true c10
            clear c10
            by_cases c11 : 0 ≤ x23_1
            · rw [if_pos c11] at H
              have c11b0 : decide (0 ≤ x23_1) = true := decide_eq_true c11
              clear c11
              by_cases c12 : x23_1 < (y281.length : Int)
              · rw [if_pos c12] at H
                have c12b0 : decide (x23_1 < (y281.length : Int)) = true := decide_eq_true c12
                clear c12
                have H' := Aside0.mk H
                clear H
                have p285 : 0 ≤ (x23_1 : Int) := of_decide_eq_true (by first | (with_reducible assumption) | assumption)
                have q285 : x23_1 < (y281.length : Int) := of_decide_eq_true (by first | (with_reducible assumption) | assumption)
                obtain ⟨ad285, e285, hx285_0⟩ := Kd.at_int HR284.out x23_1 p285 q285
                cases e285
                try replace hx285_0 := (HB.out.cell (World.block_lt_of_cell? w _ hx285_0)).trans hx285_0
                replace p285 := eq_true p285
                replace q285 := eq_true q285
                go_wp2
                go_roundg k1
                case measure => have := HK1.out; omega
                case rel => exact ⟨(wrap64 ((wrap64 (10 * x7_1)) + (rd y281 x23_1))), (wrap64 (x23_1 + 1)), (by first | rfl | (simp; done) | (simp [*]; done)), (by first | rfl | (simp; done) | (simp [*]; done)), H', ⟨by have := HK1.out; omega⟩, ⟨by repeat (first | (with_reducible exact HR284.out) | (with_reducible refine Kd.C_alloc ?_ _) | (with_reducible refine Kd.C_drewN ?_ _) | (with_reducible refine Kd.C_drew ?_) | exact HR284.out)⟩, ⟨by repeat (first | (with_reducible first | exact HB.out | apply below_alloc | apply pw_below_drewN | apply below_drew1) | exact HB.out)⟩⟩
              · rw [if_neg c12] at H
                exact absurd H (by simp)
            · rw [if_neg c11] at H
              exact absurd H (by simp)
          · rw [if_neg c10] at H
            have c10b0 : decide (x23_1 < (y281.length : Int)) = false := decide_eq_false c10
            clear c10
            obtain ⟨ji13, hji13⟩ : ∃ j_ : Int, (wrap64 ((a0.size : Int) - 6)) = j_ := ⟨_, rfl⟩
            replace H : (if 0 ≤ (ji13) then (if (ji13) ≤ (a0.size : Int) then (some (a0.extract 0 ((ji13) : Int).toNat, x7_1, 0)) else (none)) else (none)) = some (r1, r2, r3) := by first | (rw [hji13] at H; exact H) | (simp only [hji13] at H ⊢; exact H)
            have hji13w : (IntKind.i64.wrap ((a0.size : Int) - 6)) = ji13 := (i64_w _).trans hji13
            by_cases c14 : 0 ≤ (ji13)
            · rw [if_pos c14] at H
              have c14b0 := eq_true c14
              have c14b1 : decide (0 ≤ (ji13)) = true := decide_eq_true c14
              clear c14
              by_cases c15 : (ji13) ≤ (a0.size : Int)
              · rw [if_pos c15] at H
                have c15b0 := eq_true c15
                have c15b1 : decide ((ji13) ≤ (a0.size : Int)) = true := decide_eq_true c15
                clear c15
                simp only [Option.some.injEq, Prod.mk.injEq] at H
                obtain ⟨rfl, rfl, rfl⟩ := H
                go_wp2
                go_ret3
                exact ⟨by first | rfl | (simp [errW_none, errW_some] <;> rfl) | (simp only [← hji13]; first | rfl | (simp [errW_none, errW_some] <;> rfl)) | (simp [*, errW_none, errW_some] <;> rfl), by repeat (first | (with_reducible first | exact HB.out | apply below_alloc | apply pw_below_drewN | apply below_drew1) | exact HB.out)⟩
              · rw [if_neg c15] at H
                exact absurd H (by simp)
            · rw [if_neg c14] at H
              exact absurd H (by simp)
    · rw [if_neg c5] at H
      exact absurd H (by simp)
  · rw [if_neg c3] at H
    have c3b0 : (t277 == 0) = false := beq_eq_false_iff_ne.mpr c3
    have c3b1 : (t277 != 0) = true := bne_iff_ne.mpr c3
    simp only [Option.some.injEq, Prod.mk.injEq] at H
    obtain ⟨rfl, rfl, rfl⟩ := H
    go_enter Try.func32, Try.ntmps32
    go_wp2_with (first | ((with_reducible refine gate_callee (f := 36) rfl ?_); refine goesL_ (some 11) rfl rfl Try.func36 (by kernel_rfl) rfl #[.string a0] rfl (by (try simp only [List.map_toArray, List.map_cons, List.map_nil]); first | done | rfl | (simp only [List.length_drop, List.length_take]; rfl)) ?_; (with_reducible refine (ring_Valid.calls k a0 t277 _ A2.out).mono ?_); rintro e w16 ⟨rfl, hb⟩; refine ⟨_, rfl, ?_⟩; have n0_ := Aside0.mk (below_step (by repeat (first | (with_reducible first | exact HB.out | apply below_alloc | apply pw_below_drewN | apply below_drew1) | exact HB.out)) hb); clear HB; have HB := n0_; clear n0_; (try clear hb); (try clear hb2); (try clear hk); (try clear hi)))
    go_ret3
    exact ⟨by first | rfl | (simp [errW_none, errW_some] <;> rfl) | (simp [*, errW_none, errW_some] <;> rfl), by repeat (first | (with_reducible first | exact HB.out | apply below_alloc | apply pw_below_drewN | apply below_drew1) | exact HB.out)⟩

/-! ### wigeonref01_number: function 74 -/
def wigeonref01_number.l0 : Nat → Int → List Int → Int → Option (Int)
  | 0, _, _, _ => none
  | k + 1, x3, x4, x5 => if x5 < 5 then (if 0 ≤ x5 then (if x5 < (x4.length : Int) then (wigeonref01_number.l0 k (wrap64 ((wrap64 (10 * x3)) + (rd x4 x5))) x4 (wrap64 (x5 + 1))) else (none)) else (none)) else (some x3)
def wigeonref01_number.f (k : Nat) (a0 : ByteArray) : Option (Int) := (wigeonref01_tail.f k a0).bind fun t286 => (wigeonref01_number.l0 k 0 t286 0)
theorem wigeonref01_number.mono_l : ∀ k, (∀ y0 y1 y2, LeO (wigeonref01_number.l0 k y0 y1 y2) (wigeonref01_number.l0 (k + 1) y0 y1 y2))
  | 0 => fun _ _ _ r h => by simp [wigeonref01_number.l0] at h
  | k + 1 => by
    have ih0 := wigeonref01_number.mono_l k
    · intro y0 y1 y2
      unfold wigeonref01_number.l0
      repeat' first
      | (with_reducible exact ih0 _ _ _)
      | (with_reducible exact wigeonref01_tail.mono _ _)
      | (with_reducible exact LeO.refl _)
      | (with_reducible exact LeO.none _)
      | (with_reducible refine LeO.ite ?_ ?_)
      | (with_reducible refine LeO.bind ?_ (fun _ => ?_))
      | exact ih0 _ _ _
      | exact wigeonref01_tail.mono _ _
      | exact LeO.none _
      | refine LeO.ite ?_ ?_
      | refine LeO.bind ?_ (fun _ => ?_)
theorem wigeonref01_number.mono : ∀ a0 k, LeO (wigeonref01_number.f k a0) (wigeonref01_number.f (k + 1) a0) := by
  intro a0 k
  have ih0 := wigeonref01_number.mono_l k
  unfold wigeonref01_number.f
  repeat' first
      | (with_reducible exact ih0 _ _ _)
      | (with_reducible exact wigeonref01_tail.mono _ _)
      | (with_reducible exact LeO.refl _)
      | (with_reducible exact LeO.none _)
      | (with_reducible refine LeO.ite ?_ ?_)
      | (with_reducible refine LeO.bind ?_ (fun _ => ?_))
      | exact ih0 _ _ _
      | exact wigeonref01_tail.mono _ _
      | exact LeO.none _
      | refine LeO.ite ?_ ?_
      | refine LeO.bind ?_ (fun _ => ?_)
set_option maxHeartbeats 8000000 in
set_option maxRecDepth 100000 in
theorem wigeonref01_number.calls (k : Nat) (a0 : ByteArray) (r : Int) (w : World) (h : wigeonref01_number.f k a0 = some r) :
    Calls Try.prog 74 #[.string a0] w fun e w' => e = .returned (.int .i64 r) ∧ Below w.heap.size w w' := by
  have HB := Aside0.mk (Below.refl w.heap.size w)
  have H : ((wigeonref01_tail.f k a0).bind fun t286 => (wigeonref01_number.l0 k 0 t286 0)) = some r := h
  clear h
  replace H := Option.bind_eq_some_iff.mp H
  obtain ⟨t286, A20, H⟩ := H
  replace H : (wigeonref01_number.l0 k 0 t286 0) = some r := H
  have A2 := Aside0.mk A20
  clear A20
  have H' := Aside0.mk H
  clear H
  go_enter Try.func74, Try.ntmps74
  go_wp2_with (first | ((with_reducible refine gate_callee (f := 77) rfl ?_); refine goesL_ (some 7) rfl rfl Try.func77 (by kernel_rfl) rfl #[.string a0] rfl (by (try simp only [List.map_toArray, List.map_cons, List.map_nil]); first | done | rfl | (simp only [List.length_drop, List.length_take]; rfl)) ?_; (with_reducible refine (wigeonref01_tail.calls k a0 t286 _ A2.out).mono ?_); rintro e w3 ⟨v287, rfl, ho0, hb⟩; refine ⟨_, rfl, ?_⟩; have n0_ := Aside0.mk (Kd.R_lower ho0 (below_size (by repeat (first | (with_reducible first | exact HB.out | apply below_alloc | apply pw_below_drewN | apply below_drew1) | exact HB.out)))); have n1_ := Aside0.mk (below_step (by repeat (first | (with_reducible first | exact HB.out | apply below_alloc | apply pw_below_drewN | apply below_drew1) | exact HB.out)) hb); clear HB; have HO288 := n0_; have HB := n1_; clear n0_ n1_; (try clear hb); (try clear hb2); (try clear hk); (try clear hi); (try clear ho0)))
  go_loopg [3, 5] k (fun kq v3 v5 w' => ∃ (x3_1 : Int) (x5_1 : Int), v3 = .int .i64 x3_1 ∧ v5 = .int .i64 x5_1 ∧ Aside0 (wigeonref01_number.l0 kq x3_1 t286 x5_1 = some r) ∧ Aside0 (kq ≤ k) ∧ Aside0 (Kd.R (Kd.int .i64) 3 w' w.heap.size (fun _ => True) v287 t286) ∧ Aside0 (Below w.heap.size w w'))
  case atStart => exact ⟨(0), (0), (by first | rfl | (simp; done) | (simp [*]; done)), (by first | rfl | (simp; done) | (simp [*]; done)), H', ⟨Nat.le_refl _⟩, ⟨by (with_reducible repeat (first | apply Kd.R_alloc | apply Kd.R_drewN | apply Kd.R_drew)); exact HO288.out⟩, ⟨by repeat (first | (with_reducible first | exact HB.out | apply below_alloc | apply pw_below_drewN | apply below_drew1) | exact HB.out)⟩⟩
  case round =>
    clear H'
    try clear p2
    obtain ⟨x3_1, x5_1, rfl, rfl, HA, HK1, HO_4, HB⟩ := hrel
    cases gk with
    | zero => exact absurd HA.out (by simp [wigeonref01_number.l0])
    | succ k1 =>
      have H := HA.out
      clear HA
      simp only [wigeonref01_number.l0] at H
      by_cases c4 : x5_1 < 5
      · rw [if_pos c4] at H
        have c4b0 : decide (x5_1 < 5) = true := decide_eq_true c4
        clear c4
        by_cases c5 : 0 ≤ x5_1
        · rw [if_pos c5] at H
          have c5b0 : decide (0 ≤ x5_1) = true := decide_eq_true c5
          clear c5
          by_cases c6 : x5_1 < (t286.length : Int)
          · rw [if_pos c6] at H
            have c6b0 : decide (x5_1 < (t286.length : Int)) = true := decide_eq_true c6
            clear c6
            have H' := Aside0.mk H
            clear H
            obtain ⟨Ao7, co7, eo7⟩ := Kd.R_slice HO_4.out
            subst eo7
            have p289 : 0 ≤ (x5_1 : Int) := of_decide_eq_true (by first | (with_reducible assumption) | assumption)
            have q289 : x5_1 < (t286.length : Int) := of_decide_eq_true (by first | (with_reducible assumption) | assumption)
            obtain ⟨ad289, e289, hx289_0⟩ := Kd.at_int (Kd.R_reads' HO_4.out).2.2 x5_1 p289 q289
            cases e289
            replace p289 := eq_true p289
            replace q289 := eq_true q289
            go_wp2
            go_roundg k1
            case measure => have := HK1.out; omega
            case rel => exact ⟨(wrap64 ((wrap64 (10 * x3_1)) + (rd t286 x5_1))), (wrap64 (x5_1 + 1)), (by first | rfl | (simp; done) | (simp [*]; done)), (by first | rfl | (simp; done) | (simp [*]; done)), H', ⟨by have := HK1.out; omega⟩, ⟨by (with_reducible repeat (first | apply Kd.R_alloc | apply Kd.R_drewN | apply Kd.R_drew)); exact HO_4.out⟩, ⟨by repeat (first | (with_reducible first | exact HB.out | apply below_alloc | apply pw_below_drewN | apply below_drew1) | exact HB.out)⟩⟩
          · rw [if_neg c6] at H
            exact absurd H (by simp)
        · rw [if_neg c5] at H
          exact absurd H (by simp)
      · rw [if_neg c4] at H
        have c4b0 : decide (x5_1 < 5) = false := decide_eq_false c4
        clear c4
        obtain rfl := Option.some.inj H
        go_wp2
        go_ret
        exact ⟨by first | rfl | (simp [errW_none, errW_some] <;> rfl) | (simp [*, errW_none, errW_some] <;> rfl), by repeat (first | (with_reducible first | exact HB.out | apply below_alloc | apply pw_below_drewN | apply below_drew1) | exact HB.out)⟩

/-! ### wigeonref01_Split: function 33 -/
def wigeonref01_Split.f (k : Nat) (a0 : ByteArray) : Option (ByteArray × Int × Int) := (wigeonref01_Valid.f k a0).bind fun t290 => (if t290 = 0 then (if 0 ≤ (wrap64 ((a0.size : Int) - 6)) then (if (wrap64 ((a0.size : Int) - 6)) ≤ (a0.size : Int) then ((wigeonref01_number.f k a0).bind fun t291 => (some (a0.extract 0 ((wrap64 ((a0.size : Int) - 6)) : Int).toNat, t291, 0))) else (none)) else (none)) else (some ((⟨#[]⟩ : ByteArray), 0, t290)))
theorem wigeonref01_Split.mono : ∀ a0 k, LeO (wigeonref01_Split.f k a0) (wigeonref01_Split.f (k + 1) a0) := by
  intro a0 k
  unfold wigeonref01_Split.f
  repeat' first
      | (with_reducible exact wigeonref01_Valid.mono _ _)
      | (with_reducible exact wigeonref01_number.mono _ _)
      | (with_reducible exact LeO.refl _)
      | (with_reducible exact LeO.none _)
      | (with_reducible refine LeO.ite ?_ ?_)
      | (with_reducible refine LeO.bind ?_ (fun _ => ?_))
      | exact wigeonref01_Valid.mono _ _
      | exact wigeonref01_number.mono _ _
      | exact LeO.none _
      | refine LeO.ite ?_ ?_
      | refine LeO.bind ?_ (fun _ => ?_)
def wigeonref01_Split.T4 : Bool × List (List Nat × List Nat) := (true, [([], []), ([], []), ([1], [1]), ([2], [2]), ([0, 3], [0, 3]), ([], []), ([5], [5]), ([4, 6, 0, 1, 2, 3, 4], [4]), ([6, 7, 0, 1, 2, 3, 4, 5, 6, 7], [6]), ([8, 0, 1, 2, 3, 4, 5, 6, 7, 8], [])])
def wigeonref01_Split.B4 : List Nat := [0, 0, 2, 6, 15, 0, 32, 127, 255, 511]
theorem wigeonref01_Split.tab4 : rtab .any (opsOf Try.f33 4) = wigeonref01_Split.T4 := by kernel_rfl
theorem wigeonref01_Split.bits4 : waitsOk wigeonref01_Split.T4.2 wigeonref01_Split.B4 = true := by kernel_rfl
set_option maxHeartbeats 8000000 in
set_option maxRecDepth 100000 in
theorem wigeonref01_Split.calls (k : Nat) (a0 : ByteArray) (r1 : ByteArray) (r2 : Int) (r3 : Int) (w : World) (h : wigeonref01_Split.f k a0 = some (r1, r2, r3)) :
    Calls Try.prog 33 #[.string a0] w fun e w' => e = .returned (.tuple #[.string r1, .int .i64 r2, .int .i64 r3]) ∧ Below w.heap.size w w' := by
  have HB := Aside0.mk (Below.refl w.heap.size w)
  have H : ((wigeonref01_Valid.f k a0).bind fun t290 => (if t290 = 0 then (if 0 ≤ (wrap64 ((a0.size : Int) - 6)) then (if (wrap64 ((a0.size : Int) - 6)) ≤ (a0.size : Int) then ((wigeonref01_number.f k a0).bind fun t291 => (some (a0.extract 0 ((wrap64 ((a0.size : Int) - 6)) : Int).toNat, t291, 0))) else (none)) else (none)) else (some ((⟨#[]⟩ : ByteArray), 0, t290)))) = some (r1, r2, r3) := h
  clear h
  replace H := Option.bind_eq_some_iff.mp H
  obtain ⟨t290, A20, H⟩ := H
  replace H : (if t290 = 0 then (if 0 ≤ (wrap64 ((a0.size : Int) - 6)) then (if (wrap64 ((a0.size : Int) - 6)) ≤ (a0.size : Int) then ((wigeonref01_number.f k a0).bind fun t291 => (some (a0.extract 0 ((wrap64 ((a0.size : Int) - 6)) : Int).toNat, t291, 0))) else (none)) else (none)) else (some ((⟨#[]⟩ : ByteArray), 0, t290))) = some (r1, r2, r3) := H
  have A2 := Aside0.mk A20
  clear A20
  by_cases c3 : t290 = 0
  · rw [if_pos c3] at H
    have c3b0 : (t290 == 0) = true := beq_iff_eq.mpr c3
    have c3b1 : (t290 != 0) = false := bne_eq_false_iff_eq.mpr c3
    clear c3
    obtain ⟨ji4, hji4⟩ : ∃ j_ : Int, (wrap64 ((a0.size : Int) - 6)) = j_ := ⟨_, rfl⟩
    replace H : (if 0 ≤ (ji4) then (if (ji4) ≤ (a0.size : Int) then ((wigeonref01_number.f k a0).bind fun t291 => (some (a0.extract 0 ((ji4) : Int).toNat, t291, 0))) else (none)) else (none)) = some (r1, r2, r3) := by first | (rw [hji4] at H; exact H) | (simp only [hji4] at H ⊢; exact H)
    (try rw [hji4] at A2)
    have hji4w : (IntKind.i64.wrap ((a0.size : Int) - 6)) = ji4 := (i64_w _).trans hji4
    by_cases c5 : 0 ≤ (ji4)
    · rw [if_pos c5] at H
      have c5b0 := eq_true c5
      have c5b1 : decide (0 ≤ (ji4)) = true := decide_eq_true c5
      clear c5
      by_cases c6 : (ji4) ≤ (a0.size : Int)
      · rw [if_pos c6] at H
        have c6b0 := eq_true c6
        have c6b1 : decide ((ji4) ≤ (a0.size : Int)) = true := decide_eq_true c6
        clear c6
        replace H := Option.bind_eq_some_iff.mp H
        obtain ⟨t291, A70, H⟩ := H
        replace H : (some (a0.extract 0 ((ji4) : Int).toNat, t291, 0)) = some (r1, r2, r3) := H
        have A7 := Aside0.mk A70
        clear A70
        simp only [Option.some.injEq, Prod.mk.injEq] at H
        obtain ⟨rfl, rfl, rfl⟩ := H
        go_enter Try.func33, Try.ntmps33
        try go_wp2_with (first | ((with_reducible refine gate_callee (f := 37) rfl ?_); refine goesL_ (some 7) rfl rfl Try.func37 (by kernel_rfl) rfl #[.string a0] rfl (by (try simp only [List.map_toArray, List.map_cons, List.map_nil]); first | done | rfl | (simp only [List.length_drop, List.length_take]; rfl)) ?_; (with_reducible refine (wigeonref01_Valid.calls k a0 t290 _ A2.out).mono ?_); rintro e w8 ⟨rfl, hb⟩; refine ⟨_, rfl, ?_⟩; have n0_ := Aside0.mk (below_step (by repeat (first | (with_reducible first | exact HB.out | apply below_alloc | apply pw_below_drewN | apply below_drew1) | exact HB.out)) hb); clear HB; have HB := n0_; clear n0_; (try clear hb); (try clear hb2); (try clear hk); (try clear hi)))
        have n0_ := Aside0.mk (below_drew1 HB.out)
        clear HB
        have HB := n0_
        clear n0_
        refine start_ (n := 10) (S := fun w' => True) (ds := []) #[false, false, false, false, false, false, false, false, false, false] (by kernel_rfl) rfl rfl trivial (fun hHeld => ?_); refine with_tabW wigeonref01_Split.tab4 wigeonref01_Split.bits4 (fun HT_ HW_ => ?_)
        generalize w8.drew = w9 at HB hHeld ⊢
        refine pure_ (i := 0) (N := some 11) (v := ?_) (a' := ?_) #[true, false, false, false, false, false, false, false, false, false] rfl rfl (any_of HT_.out (by kernel_rfl)) (fun _ _ _ h => h) (Or.inl ⟨by rfl, ?_⟩) ?_ ?_
        rotate_left
        · intro w'
          go_simp
          with_reducible rfl
        rotate_left
        · simp only [Act.put, List.setIfInBounds_toArray, List.set_cons_zero, List.set_cons_succ, i64_w, i32_w]
          rfl
        refine pure_ (i := 1) (N := some 12) (v := ?_) (a' := ?_) #[true, true, false, false, false, false, false, false, false, false] rfl rfl (any_of HT_.out (by kernel_rfl)) (fun _ _ _ h => h) (Or.inl ⟨by rfl, ?_⟩) ?_ ?_
        rotate_left
        · intro w'
          go_simp
          with_reducible rfl
        rotate_left
        · simp only [Act.put, List.setIfInBounds_toArray, List.set_cons_zero, List.set_cons_succ, i64_w, i32_w]
          rfl
        refine pure_ (i := 2) (N := some 13) (v := ?_) (a' := ?_) #[true, true, true, false, false, false, false, false, false, false] rfl rfl (any_of HT_.out (by kernel_rfl)) (fun _ _ _ h => h) (Or.inl ⟨by rfl, ?_⟩) ?_ ?_
        rotate_left
        · intro w'
          go_simp
          with_reducible rfl
        rotate_left
        · simp only [Act.put, List.setIfInBounds_toArray, List.set_cons_zero, List.set_cons_succ, i64_w, i32_w]
          rfl
        refine pure_ (i := 3) (N := some 14) (v := ?_) (a' := ?_) #[true, true, true, true, false, false, false, false, false, false] rfl rfl (any_of HT_.out (by kernel_rfl)) (fun _ _ _ h => h) (Or.inl ⟨by rfl, ?_⟩) ?_ ?_
        rotate_left
        · intro w'
          go_simp
          with_reducible rfl
        rotate_left
        · simp only [Act.put, List.setIfInBounds_toArray, List.set_cons_zero, List.set_cons_succ, i64_w, i32_w]
          rfl
        refine pure_ (i := 4) (N := some 15) (v := ?_) (a' := ?_) #[true, true, true, true, true, false, false, false, false, false] rfl rfl (any_of HT_.out (by kernel_rfl)) (fun _ _ _ h => h) (Or.inl ⟨by rfl, ?_⟩) ?_ ?_
        rotate_left
        · intro w'
          go_simp
          with_reducible rfl
        rotate_left
        · simp only [Act.put, List.setIfInBounds_toArray, List.set_cons_zero, List.set_cons_succ, i64_w, i32_w]
          rfl
        refine pure_ (i := 5) (N := some 16) (v := ?_) (a' := ?_) #[true, true, true, true, true, true, false, false, false, false] rfl rfl (any_of HT_.out (by kernel_rfl)) (fun _ _ _ h => h) (Or.inl ⟨by rfl, ?_⟩) ?_ ?_
        rotate_left
        · intro w'
          go_simp
          with_reducible rfl
        rotate_left
        · simp only [Act.put, List.setIfInBounds_toArray, List.set_cons_zero, List.set_cons_succ, i64_w, i32_w]
          rfl
        refine one_ (i := 6) (N := some 17) #[true, true, true, true, true, true, true, false, false, false] rfl rfl (one_of HT_.out (by kernel_rfl)) (by decide) (fun K hK => ?_)
        refine goes_ Try.func74 (by kernel_rfl) rfl #[.string a0] (by rfl) rfl rfl (by (try simp only [List.map_toArray, List.map_cons, List.map_nil]); first | done | rfl | (simp only [List.length_drop, List.length_take]; rfl)) ?_
        with_reducible refine (wigeonref01_number.calls k a0 t291 _ A7.out).mono ?_
        rintro e w10 ⟨rfl, hb⟩
        refine ⟨_, rfl, ?_⟩
        have n0_ := Aside0.mk (below_step (by repeat (first | (with_reducible first | exact HB.out | apply below_alloc | apply pw_below_drewN | apply below_drew1) | exact HB.out)) hb)
        clear HB
        have HB := n0_
        clear n0_
        (try clear hb)
        (try clear hb2)
        (try clear hk)
        (try clear hi)
        refine hK.out _ _ trivial (fun hHeld => ?_)
        clear hK K
        refine norm_ (a' := ?_) ?_ ?_
        rotate_left
        · show Act.put _ (some 17) _ = _
          simp only [Act.put, List.setIfInBounds_toArray, List.set_cons_zero, List.set_cons_succ, i64_w, i32_w]
          rfl
        refine pure_ (i := 7) (N := some 2) (v := ?_) (a' := ?_) #[true, true, true, true, true, true, true, true, false, false] rfl rfl (any_of HT_.out (by kernel_rfl)) (fun _ _ _ h => h) (Or.inl ⟨by rfl, ?_⟩) ?_ ?_
        rotate_left
        · intro w'
          go_simp
          with_reducible rfl
        rotate_left
        · simp only [Act.put, List.setIfInBounds_toArray, List.set_cons_zero, List.set_cons_succ, i64_w, i32_w]
          rfl
        refine pure_ (i := 8) (N := some 3) (v := ?_) (a' := ?_) #[true, true, true, true, true, true, true, true, true, false] rfl rfl (any_of HT_.out (by kernel_rfl)) (fun _ _ _ h => h) (Or.inl ⟨by rfl, ?_⟩) ?_ ?_
        rotate_left
        · intro w'
          go_simp
          with_reducible rfl
        rotate_left
        · simp only [Act.put, List.setIfInBounds_toArray, List.set_cons_zero, List.set_cons_succ, i64_w, i32_w]
          rfl
        refine pure_ (i := 9) (N := some 4) (v := ?_) (a' := ?_) #[true, true, true, true, true, true, true, true, true, true] rfl rfl (any_of HT_.out (by kernel_rfl)) (fun _ _ _ h => h) (Or.inl ⟨by rfl, ?_⟩) ?_ ?_
        rotate_left
        · intro w'
          go_simp
          with_reducible rfl
        rotate_left
        · simp only [Act.put, List.setIfInBounds_toArray, List.set_cons_zero, List.set_cons_succ, i64_w, i32_w]
          rfl
        refine done_ (done_of HT_.out (by kernel_rfl)) ?_
        try go_wp2
        go_ret3
        exact ⟨by first | rfl | (simp [errW_none, errW_some] <;> rfl) | (simp only [← hji4]; first | rfl | (simp [errW_none, errW_some] <;> rfl)) | (simp [*, errW_none, errW_some] <;> rfl), by repeat (first | (with_reducible first | exact HB.out | apply below_alloc | apply pw_below_drewN | apply below_drew1) | exact HB.out)⟩
      · rw [if_neg c6] at H
        exact absurd H (by simp)
    · rw [if_neg c5] at H
      exact absurd H (by simp)
  · rw [if_neg c3] at H
    have c3b0 : (t290 == 0) = false := beq_eq_false_iff_ne.mpr c3
    have c3b1 : (t290 != 0) = true := bne_iff_ne.mpr c3
    simp only [Option.some.injEq, Prod.mk.injEq] at H
    obtain ⟨rfl, rfl, rfl⟩ := H
    go_enter Try.func33, Try.ntmps33
    go_wp2_with (first | ((with_reducible refine gate_callee (f := 37) rfl ?_); refine goesL_ (some 7) rfl rfl Try.func37 (by kernel_rfl) rfl #[.string a0] rfl (by (try simp only [List.map_toArray, List.map_cons, List.map_nil]); first | done | rfl | (simp only [List.length_drop, List.length_take]; rfl)) ?_; (with_reducible refine (wigeonref01_Valid.calls k a0 t290 _ A2.out).mono ?_); rintro e w11 ⟨rfl, hb⟩; refine ⟨_, rfl, ?_⟩; have n0_ := Aside0.mk (below_step (by repeat (first | (with_reducible first | exact HB.out | apply below_alloc | apply pw_below_drewN | apply below_drew1) | exact HB.out)) hb); clear HB; have HB := n0_; clear n0_; (try clear hb); (try clear hb2); (try clear hk); (try clear hi)))
    go_ret3
    exact ⟨by first | rfl | (simp [errW_none, errW_some] <;> rfl) | (simp [*, errW_none, errW_some] <;> rfl), by repeat (first | (with_reducible first | exact HB.out | apply below_alloc | apply pw_below_drewN | apply below_drew1) | exact HB.out)⟩

/-! ### ring_make5: function 75 -/
-- GIVEN wigeon/ring.make5 rounds=1 making=1
-- IMPORT Derived.Lib.Hide
/-! Rows of one-cell elements whose block may bear a mark behind its last cell ('[]byte(s)' leaves one): an append of one value. -/
def OwnT (w : World) (base : Nat) (e : TypeId) (v : Value) (xs : List Value) : Prop :=
  ∃ g cap cur fz, v = .slice (some ⟨g, 0, none⟩) xs.length cap ∧ base ≤ g ∧ w.heap[g]? = some (.cells cur e fz) ∧ (fz.2 = 0 ∨ cur.size ≤ fz.1) ∧ xs.length ≤ cap ∧ cap ≤ maxLen ∧ cur.size = cap ∧ cur.toList.take xs.length = xs
theorem OwnT.size {w : World} {base : Nat} {e : TypeId} {v : Value} {xs : List Value} (h : OwnT w base e v xs) : ∀ k, v.ownBlock = some k → base ≤ k ∧ k < w.heap.size := by
  obtain ⟨g, cap, cur, fz, rfl, hb, hg, _⟩ := h
  intro k hk
  simp [Value.ownBlock] at hk
  subst hk
  exact ⟨hb, (Array.getElem?_eq_some_iff.1 hg).1⟩
theorem OwnT.cell {w : World} {base : Nat} {e : TypeId} {v : Value} {xs : List Value} (h : OwnT w base e v xs) : ∃ g cap, v = .slice (some ⟨g, 0, none⟩) xs.length cap ∧ ∀ j u, xs[j]? = some u → w.cell? ((⟨g, 0, none⟩ : Addr).add j) = some u := by
  obtain ⟨g, cap, cur, fz, rfl, hb, hg, hf, hl, hm, hc, ht⟩ := h
  refine ⟨g, cap, rfl, fun j u hu => ?_⟩
  have hadd : (⟨g, 0, none⟩ : Addr).add j = ⟨g, j, none⟩ := by unfold Addr.add; split <;> simp_all
  rw [hadd, cell_of_row w g j cur e fz hg]
  rw [← ht, List.getElem?_take] at hu
  split at hu
  · simpa using hu
  · cases hu
theorem OwnT.keep {w w1 : World} {base : Nat} {e : TypeId} {v : Value} {xs : List Value} (h : OwnT w base e v xs) (hb : ∀ k, k < w.heap.size → w1.heap[k]? = w.heap[k]?) : OwnT w1 base e v xs := by
  obtain ⟨g, cap, cur, fz, rfl, hbg, hg, rest⟩ := h
  exact ⟨g, cap, cur, fz, rfl, hbg, (hb g (Array.getElem?_eq_some_iff.1 hg).1).trans hg, rest⟩
theorem run_append_T {P : Program} (w : World) (base : Nat) (t ty e : TypeId) (i : TypeInfo) (z : Value) (bytes : Nat) (ht : P.underlying t = some (.slice e)) (hi : P.info? e = some i) (hz : i.zero = some z)
    (hsize : i.size = 1) (hby : i.bytes = bytes) (hzs : z.cells.size = 1) (v : Value) (xs : List Value) (hown : OwnT w base e v xs) (a : Addr) (c : Nat) (u : Value) (hu : w.cell? a = some u) (h1 : u.oneCell' = true)
    (h63 : xs.length + 1 ≤ maxLen) (hbytes : (xs.length + 1) * bytes ≤ 140737488355328) (hbase : base ≤ w.heap.size) :
    ∃ v' w', (Builtin.append_ #[t, t] ty #[v, .slice (some a) 1 c]).run P w = .ok v' w' ∧ OwnT w' base e v' (xs ++ [u]) ∧ w.grownBy w' v.ownBlock := by
  obtain ⟨g, cap, cur, fz, rfl, hbg, hg, hf, hl, hm, hc, htk⟩ := hown
  have hnews : ∀ j x, [u][j]? = some x → w.cell? (a.add j) = some x := by
    intro j x hx
    cases j with
    | zero =>
      simp at hx
      subst hx
      have : a.add 0 = a := by cases a with | mk b o s => unfold Addr.add; split <;> simp_all
      rw [this]; exact hu
    | succ j => simp at hx
  by_cases hroom : xs.length + 1 ≤ cap
  · have hlt : xs.length < cur.size := by omega
    have hcell : w.cell? ⟨g, xs.length, none⟩ = some cur[xs.length] := by simp [World.cell?, hg, hlt]
    have hfro : w.frozen? ⟨g, xs.length, none⟩ = false := by
      obtain ⟨lo, hi'⟩ := fz
      simp only [World.frozen?, hg, Bool.and_eq_false_iff, decide_eq_false_iff_not]
      simp only at hf
      omega
    have hst : (store (⟨g, xs.length, none⟩ : Addr) u).run P w = .ok () (w.setRow g (cur.setIfInBounds xs.length u)) := by
      rw [run_store P w _ u _ h1, hcell]
      simp [hfro, setCell_eq_setRow w g xs.length cur e fz u hg]
    have hfc := run_firstCells_some (P := P) w 1 1 a 1 c [u] rfl hnews
    have hadd0 : ∀ x : Addr, x.add 0 = x := fun x => by cases x with | mk b o s => unfold Addr.add; split <;> simp_all
    have hsc : (storeCells ⟨g, xs.length, none⟩ [u] 0).run P w = .ok () (w.setRow g (cur.setIfInBounds xs.length u)) := by
      simp only [storeCells, Sem.run_bind, hadd0, hst, Result.andThen_ok]
      rfl
    refine ⟨.slice (some ⟨g, 0, none⟩) (xs.length + 1) cap, w.setRow g (cur.setIfInBounds xs.length u), ?_, ⟨g, cap, cur.setIfInBounds xs.length u, fz, by simp, hbg, setRow_heap w g cur _ e fz hg, by simpa using hf, by simpa using hroom, hm, by simpa using hc, ?_⟩, ⟨rfl, rfl, rfl, by simp, fun k _ hk => setRow_other w g k _ (fun e => hk (by simp [Value.ownBlock, e]))⟩⟩
    · simp [Builtin.append_, run_underlying ht, sizeOf, typeInfo, hi, hsize, Builtin.lenOf, hroom, hfc, Addr.add_lit, hsc]
    · rw [Array.toList_setIfInBounds, List.length_append, List.length_singleton]
      rw [List.take_succ_eq_append_getElem (by simpa using hlt)]
      rw [List.getElem_set_self, List.take_set_of_le (Nat.le_refl _), htk]
  · have holds : ∀ j x, xs[j]? = some x → w.cell? ((⟨g, 0, none⟩ : Addr).add j) = some x := by
      intro j x hx
      have hadd : (⟨g, 0, none⟩ : Addr).add j = ⟨g, j, none⟩ := by unfold Addr.add; split <;> simp_all
      rw [hadd, cell_of_row w g j cur e fz hg]
      rw [← htk, List.getElem?_take] at hx
      split at hx
      · simpa using hx
      · cases hx
    have h63' : xs.length + 1 ≤ 9223372036854775807 := by simp only [maxLen] at h63; omega
    have hr := run_append_grow (P := P) w t ty e i z ht hi hz ⟨g, 0, none⟩ xs.length cap xs (by rw [hsize, Nat.mul_one]) holds a 1 c [u] (by rw [hsize]; rfl) hnews (by omega) (by omega) (by rw [hby]; exact growslice_fits (by omega) hbytes)
    have hge := grownCap_ge w (xs.length + 1) cap e
    have hcm2 : grownCap w (xs.length + 1) cap e ≤ maxLen := grownCap_le_maxLen w (xs.length + 1) cap e h63
    refine ⟨_, _, hr, ⟨w.heap.size, _, _, (0, 0), by simp, hbase, Go.heap_alloc_new w.drew _, .inl rfl, by simpa using hge, hcm2, ?_, ?_⟩, ⟨rfl, rfl, rfl, by simp, fun k hk _ => by first | exact Go.heap_alloc_old w.drew _ k hk | exact Go.heap_alloc_old w.drew _ hk⟩⟩
    · simp only [Array.size_append, List.size_toArray, size_zeroCells, hzs, List.length_singleton]
      omega
    · simp only [Array.toList_append, List.append_assoc]
      rw [← List.append_assoc]
      exact List.take_left
theorem wpList_append_T {P : Program} {ops : Array Oper} {rest : List Oper} {o : Oper} {a : Act} {w : World} {Q : Exit → Act → World → Prop} (hgd : o.guard = none) (s x : Operand) (t : TypeId)
    (ho : o.op = .call { callee := .builtin .append, args := #[s, x], argTypes := #[t, t] })
    (base : Nat) (e : TypeId) (i : TypeInfo) (z : Value) (bytes : Nat) (ht : P.underlying t = some (.slice e)) (hi : P.info? e = some i) (hz : i.zero = some z)
    (hsize : i.size = 1) (hby : i.bytes = bytes) (hzs : z.cells.size = 1) (v : Value) (xs : List Value) (hs : a.eval s = v) (hown : OwnT w base e v xs) (ad : Addr) (c : Nat) (u : Value) (hx : a.eval x = .slice (some ad) 1 c) (hu : w.cell? ad = some u) (h1 : u.oneCell' = true)
    (h63 : xs.length + 1 ≤ maxLen) (hbytes : (xs.length + 1) * bytes ≤ 140737488355328) (hbase : base ≤ w.heap.size)
    (h : ∀ v' w', OwnT w' base e v' (xs ++ [u]) → w.grownBy w' v.ownBlock → wpList P ops Q rest (a.put o.dst v') w') : wpList P ops Q (o :: rest) a w := by
  refine wpList_plain hgd fun K hK => ?_
  obtain ⟨v', w', hr, h2, h3⟩ := run_append_T (P := P) w base t o.type e i z bytes ht hi hz hsize hby hzs v xs hown ad c u hu h1 h63 hbytes hbase
  unfold Oper.wp execOp
  simp only [ho, resolve, invoke, builtin, Sem.run_bind, Sem.run_pure, Result.andThen_ok, List.map_toArray, List.map_cons, List.map_nil, hs, hx, hr]
  exact hK _ _ (h v' w' h2 h3)
theorem OwnT.alloc {w : World} {base : Nat} {e : TypeId} {v : Value} {xs : List Value} (h : OwnT w base e v xs) (o : Obj) : OwnT (w.alloc o) base e v xs :=
  h.keep fun k hk => by first | exact Go.heap_alloc_old w o k hk | exact Go.heap_alloc_old w o hk
theorem cell_new_one (w : World) (u : Value) (t : TypeId) : (w.alloc (.cells #[u] t)).cell? ⟨w.heap.size, 0, none⟩ = some u := by
  have h := cell_one_new w u t 0 u rfl
  have e : (⟨w.heap.size, 0, none⟩ : Addr).add 0 = ⟨w.heap.size, 0, none⟩ := by unfold Addr.add; split <;> simp_all
  rwa [e] at h
theorem make5.info5 : (Try.prog.info? 5).map (fun i => (i.zero, i.size, i.bytes)) = some (some (.int .u8 0), 1, 1) := by kernel_rfl
def fiveD (n : Int) : List Int := [n / 10000 % 10, n / 1000 % 10, n / 100 % 10, n / 10 % 10, n % 10]
def byteOf (d : Int) : UInt8 := UInt8.ofNat (48 + d).toNat
def ring_make5.f (k : Nat) (a0 : ByteArray) (a1 : Int) : Option (ByteArray) := if 0 ≤ a1 ∧ a1 ≤ 99999 ∧ a0.size ≤ 1000 then ((ring_sum.f k (fiveD a1) 1).bind fun s => ((ring_undo.f s).bind fun c => (if 0 ≤ c ∧ c ≤ 9 then (some (⟨a0.data ++ ((fiveD a1 ++ [c]).map byteOf).toArray⟩ : ByteArray)) else (none)))) else (none)
theorem ring_make5.mono : ∀ a0 a1 k, LeO (ring_make5.f k a0 a1) (ring_make5.f (k + 1) a0 a1) := by
  intro a0 a1 k
  unfold ring_make5.f
  exact LeO.ite (LeO.bind (ring_sum.mono _ _ _) (fun _ => LeO.refl _)) (LeO.none _)
def StrPost (w : World) (s : ByteArray) (e : Ending) (w' : World) : Prop := e = .returned (.string s) ∧ Below w.heap.size w w'
theorem fiveD_range (n : Int) : ∀ x ∈ fiveD n, 0 ≤ x ∧ x ≤ 9 := by
  unfold fiveD
  intro x hx
  simp at hx
  omega
theorem byteOf_toNat {d : Int} (h0 : 0 ≤ d) (h1 : d ≤ 9) : (((byteOf d).toNat : Nat) : Int) = 48 + d := by
  unfold byteOf
  rw [UInt8.toNat_ofNat']
  omega
def encB (b : UInt8) : Value := .int .u8 (b.toNat : Int)
theorem own_of_bytes (w : World) (s : ByteArray) (hs : s.size ≤ 1000) : OwnT (Lib.bytesWorld w 5 s) w.heap.size 5 (.slice (some ⟨w.heap.size, 0, none⟩) s.size (grownCap w s.size 0 5)) (s.data.toList.map encB) := by
  have hl : (s.data.toList.map encB).length = s.size := by rw [List.length_map, Array.length_toList]; rfl
  have hge := grownCap_ge w s.size 0 5
  have hsz : (Lib.bytesCells w 5 s).size = grownCap w s.size 0 5 := by
    unfold Lib.bytesCells
    rw [Array.size_append, Array.size_map, Array.size_replicate]
    have : s.data.size = s.size := rfl
    omega
  refine ⟨w.heap.size, grownCap w s.size 0 5, Lib.bytesCells w 5 s, _, by rw [hl], Nat.le_refl _, Lib.bytesWorld_at_new w 5 s, .inr (Nat.le_refl _), by rw [hl]; exact hge, grownCap_le_maxLen w s.size 0 5 (by unfold maxLen; omega), hsz, ?_⟩
  unfold Lib.bytesCells
  rw [Array.toList_append, Array.toList_map]
  exact List.take_left' rfl
def Cells (w : World) (ad : Addr) (l : List Int) : Prop := ∀ j, j < l.length → w.cell? (ad.add j) = some (.int .i64 (rd l (j : Int)))
theorem Addr_add_block (a : Addr) (n : Nat) : (a.add n).block = a.block := by unfold Addr.add; split <;> rfl
theorem Cells.kept {w w1 : World} {ad : Addr} {l : List Int} (h : Cells w ad l) (hc : ∀ a : Addr, a.block = ad.block → w1.cell? a = w.cell? a) : Cells w1 ad l := by
  intro j hj
  rw [hc _ (Addr_add_block ad j)]
  exact h j hj
theorem cell_old {w w1 : World} {k : Nat} (h : w1.heap[k]? = w.heap[k]?) (a : Addr) (ha : a.block = k) : w1.cell? a = w.cell? a := by
  subst ha
  simp only [World.cell?, h]
theorem appended_bytes {s : ByteArray} {ds : List Int} {j : Nat} (hj : j < ds.length) (h : ∀ x ∈ ds, 0 ≤ x ∧ x ≤ 9) : (s.data.toList ++ (ds.take j).map byteOf).map encB ++ [.int .u8 (48 + rd ds (j : Int))] = (s.data.toList ++ (ds.take (j + 1)).map byteOf).map encB := by
  have e : rd ds (j : Int) = ds[j] := by
    unfold rd
    rw [Int.toNat_natCast, List.getD_eq_getElem?_getD, List.getElem?_eq_getElem hj]; rfl
  have hb := h _ (List.getElem_mem hj)
  rw [List.take_succ_eq_append_getElem hj]
  simp only [List.map_append, List.map_cons, List.map_nil, encB, byteOf_toNat hb.1 hb.2, e, List.append_assoc]
set_option maxHeartbeats 8000000 in
set_option maxRecDepth 100000 in
theorem ring_make5.walk (k : Nat) (s : ByteArray) (n : Int) (sm c : Int) (w : World) (hn0 : 0 ≤ n) (hn1 : n ≤ 99999) (hs : s.size ≤ 1000) (h1 : ring_sum.f k (fiveD n) 1 = some sm) (h2 : ring_undo.f sm = some c) (hc0 : 0 ≤ c) (hc1 : c ≤ 9) :
    Calls Try.prog 75 #[.string s, .int .i64 n] w (StrPost w ⟨s.data ++ ((fiveD n ++ [c]).map byteOf).toArray⟩) := by
  have kb := fun W => print_bytes (P := Try.prog) 9 77 5 Try.underlying9 Try.underlying77 Try.underlying5 s W
  have H1 := Lib.hid h1
  have H2 := Lib.hid h2
  clear h1 h2
  generalize hout : (⟨s.data ++ ((fiveD n ++ [c]).map byteOf).toArray⟩ : ByteArray) = out
  have HFin := Lib.hid hout
  clear hout
  go_enter Try.func75, Try.ntmps75
  go_wp2
  go_loopw [5, 6] (fun v d w' => ((d = .int .i64 10000 ∧ Kd.R (Kd.int .i64) 3 w' w.heap.size (fun _ => True) v []) ∨ (d = .int .i64 1000 ∧ Kd.R (Kd.int .i64) 3 w' w.heap.size (fun _ => True) v [n / 10000 % 10]) ∨ (d = .int .i64 100 ∧ Kd.R (Kd.int .i64) 3 w' w.heap.size (fun _ => True) v [n / 10000 % 10, n / 1000 % 10]) ∨ (d = .int .i64 10 ∧ Kd.R (Kd.int .i64) 3 w' w.heap.size (fun _ => True) v [n / 10000 % 10, n / 1000 % 10, n / 100 % 10]) ∨ (d = .int .i64 1 ∧ Kd.R (Kd.int .i64) 3 w' w.heap.size (fun _ => True) v [n / 10000 % 10, n / 1000 % 10, n / 100 % 10, n / 10 % 10]) ∨ (d = .int .i64 0 ∧ Kd.R (Kd.int .i64) 3 w' w.heap.size (fun _ => True) v [n / 10000 % 10, n / 1000 % 10, n / 100 % 10, n / 10 % 10, n % 10])) ∧ Below w.heap.size w w') (fun _ d _ => (intOf d).toNat)
  case atStart => exact ⟨.inl ⟨rfl, Kd.R_nil _ _ _ _ _⟩, Below.refl _ _⟩
  case round =>
    obtain ⟨hd, hB⟩ := hrel
    have HB := Lib.hid hB
    clear hB
    rcases hd with ⟨rfl, hO⟩ | ⟨rfl, hO⟩ | ⟨rfl, hO⟩ | ⟨rfl, hO⟩ | ⟨rfl, hO⟩ | ⟨rfl, hO⟩
    · have HO := Lib.hid hO
      clear hO
      go_wp2_with (first | ((with_reducible refine gate_builtin (b := .append) (xs := #[.tmp 14, .tmp 19]) rfl ?_); at_builtin; refine Kd.R_append (Kd.int .i64) (w0 := w) w.heap.size rfl (.tmp 14) (.tmp 19) 28 3 (.int .i64 0) 8 rfl Try.underlying28 info3 rfl (by decide) (by omega) u5 [] (n / 10000 % 10) [.int .i64 (n / 10000 % 10)] (fun _ => True) (fun _ => False) rfl rfl ?aP (fun _ hk => hk.elim) ?aF ?aO ?aB ?aS ?aL ?_; (case aP => exact rfl); (case aB => exact HB.out); (case aF => exact fun _ _ => trivial); (case aO => exact HO.out); (case aS => exact below_size HB.out); (case aL => simp only [List.length_cons, List.length_nil]; omega); intro v1 w6 ho hb hg hat; have n0 := Lib.hid hb; have n1 := Lib.hid ho; clear ho hb hg hat))
      go_roundw
      case rel => exact ⟨.inr (.inl ⟨rfl, n1.out⟩), n0.out⟩
      case measure => simp [intOf]
    · have HO := Lib.hid hO
      clear hO
      go_wp2_with (first | ((with_reducible refine gate_builtin (b := .append) (xs := #[.tmp 14, .tmp 19]) rfl ?_); at_builtin; refine Kd.R_append (Kd.int .i64) (w0 := w) w.heap.size rfl (.tmp 14) (.tmp 19) 28 3 (.int .i64 0) 8 rfl Try.underlying28 info3 rfl (by decide) (by omega) u5 [n / 10000 % 10] (n / 1000 % 10) [.int .i64 (n / 1000 % 10)] (fun _ => True) (fun _ => False) rfl rfl ?aP (fun _ hk => hk.elim) ?aF ?aO ?aB ?aS ?aL ?_; (case aP => exact rfl); (case aB => exact HB.out); (case aF => exact fun _ _ => trivial); (case aO => exact HO.out); (case aS => exact below_size HB.out); (case aL => simp only [List.length_cons, List.length_nil]; omega); intro v1 w6 ho hb hg hat; have n0 := Lib.hid hb; have n1 := Lib.hid ho; clear ho hb hg hat))
      go_roundw
      case rel => exact ⟨.inr (.inr (.inl ⟨rfl, n1.out⟩)), n0.out⟩
      case measure => simp [intOf]
    · have HO := Lib.hid hO
      clear hO
      go_wp2_with (first | ((with_reducible refine gate_builtin (b := .append) (xs := #[.tmp 14, .tmp 19]) rfl ?_); at_builtin; refine Kd.R_append (Kd.int .i64) (w0 := w) w.heap.size rfl (.tmp 14) (.tmp 19) 28 3 (.int .i64 0) 8 rfl Try.underlying28 info3 rfl (by decide) (by omega) u5 [n / 10000 % 10, n / 1000 % 10] (n / 100 % 10) [.int .i64 (n / 100 % 10)] (fun _ => True) (fun _ => False) rfl rfl ?aP (fun _ hk => hk.elim) ?aF ?aO ?aB ?aS ?aL ?_; (case aP => exact rfl); (case aB => exact HB.out); (case aF => exact fun _ _ => trivial); (case aO => exact HO.out); (case aS => exact below_size HB.out); (case aL => simp only [List.length_cons, List.length_nil]; omega); intro v1 w6 ho hb hg hat; have n0 := Lib.hid hb; have n1 := Lib.hid ho; clear ho hb hg hat))
      go_roundw
      case rel => exact ⟨.inr (.inr (.inr (.inl ⟨rfl, n1.out⟩))), n0.out⟩
      case measure => simp [intOf]
    · have HO := Lib.hid hO
      clear hO
      go_wp2_with (first | ((with_reducible refine gate_builtin (b := .append) (xs := #[.tmp 14, .tmp 19]) rfl ?_); at_builtin; refine Kd.R_append (Kd.int .i64) (w0 := w) w.heap.size rfl (.tmp 14) (.tmp 19) 28 3 (.int .i64 0) 8 rfl Try.underlying28 info3 rfl (by decide) (by omega) u5 [n / 10000 % 10, n / 1000 % 10, n / 100 % 10] (n / 10 % 10) [.int .i64 (n / 10 % 10)] (fun _ => True) (fun _ => False) rfl rfl ?aP (fun _ hk => hk.elim) ?aF ?aO ?aB ?aS ?aL ?_; (case aP => exact rfl); (case aB => exact HB.out); (case aF => exact fun _ _ => trivial); (case aO => exact HO.out); (case aS => exact below_size HB.out); (case aL => simp only [List.length_cons, List.length_nil]; omega); intro v1 w6 ho hb hg hat; have n0 := Lib.hid hb; have n1 := Lib.hid ho; clear ho hb hg hat))
      go_roundw
      case rel => exact ⟨.inr (.inr (.inr (.inr (.inl ⟨rfl, n1.out⟩)))), n0.out⟩
      case measure => simp [intOf]
    · have HO := Lib.hid hO
      clear hO
      go_wp2_with (first | ((with_reducible refine gate_builtin (b := .append) (xs := #[.tmp 14, .tmp 19]) rfl ?_); at_builtin; refine Kd.R_append (Kd.int .i64) (w0 := w) w.heap.size rfl (.tmp 14) (.tmp 19) 28 3 (.int .i64 0) 8 rfl Try.underlying28 info3 rfl (by decide) (by omega) u5 [n / 10000 % 10, n / 1000 % 10, n / 100 % 10, n / 10 % 10] (n % 10) [.int .i64 (n % 10)] (fun _ => True) (fun _ => False) rfl rfl ?aP (fun _ hk => hk.elim) ?aF ?aO ?aB ?aS ?aL ?_; (case aP => exact rfl); (case aB => exact HB.out); (case aF => exact fun _ _ => trivial); (case aO => exact HO.out); (case aS => exact below_size HB.out); (case aL => simp only [List.length_cons, List.length_nil]; omega); intro v1 w6 ho hb hg hat; have n0 := Lib.hid hb; have n1 := Lib.hid ho; clear ho hb hg hat))
      go_roundw
      case rel => exact ⟨.inr (.inr (.inr (.inr (.inr (⟨rfl, n1.out⟩))))), n0.out⟩
      case measure => simp [intOf]
    · have HO := Lib.hid (show Kd.R (Kd.int .i64) 3 wr w.heap.size (fun _ => True) u5 (fiveD n) from hO)
      clear hO
      obtain ⟨A, cp, e5⟩ := Kd.R_slice HO.out
      subst e5
      obtain ⟨_, hcp, hC⟩ := Kd.R_reads' HO.out
      have HC := Lib.hid hC
      clear hC
      have h5 : (fiveD n).length = 5 := rfl
      have H5 := Lib.hid h5
      clear h5
      have HFR := Lib.hid (fiveD_range n)
      generalize fiveD n = l5 at *
      have hs60 := fun W hC => ring_sum.calls k A cp l5 1 sm W hC hcp H1.out
      have HS60 := Lib.hid hs60
      clear hs60
      go_wp2_with (first | (go_at_call 60; (with_reducible refine (HS60.out _ HC.out).mono ?_); rintro e w' ⟨rfl, ⟨nd, rfl⟩⟩) | (go_at_call 58; (with_reducible refine (ring_undo.calls sm c _ H2.out).mono ?_); rintro e w' ⟨rfl, ⟨nd2, rfl⟩⟩) | ((with_reducible refine gate_builtin (b := .append) (xs := #[.tmp 21, .tmp 25]) rfl ?_); at_builtin; refine Kd.R_append (Kd.int .i64) (w0 := w) w.heap.size rfl (.tmp 21) (.tmp 25) 28 3 (.int .i64 0) 8 rfl Try.underlying28 info3 rfl (by decide) (by omega) (.slice A l5.length cp) l5 c [.int .i64 c] (fun _ => True) (fun _ => False) rfl rfl ?aP (fun _ hk => hk.elim) ?aF ?aO ?aB ?aS ?aL ?_; (case aP => exact rfl); (case aB => (repeat (first | exact HB.out | apply pw_below_drewN))); (case aF => exact fun _ _ => trivial); (case aO => (with_reducible repeat (first | apply Kd.R_alloc | apply Kd.R_drewN | apply Kd.R_drew)); exact HO.out); (case aS => exact below_size (by repeat (first | exact HB.out | apply pw_below_drewN))); (case aL => rw [H5.out]; omega); intro v1 w6 ho hb hg hat; obtain ⟨A2, cp2, e6⟩ := Kd.R_slice ho; subst e6; have n0 := Lib.hid hb; have n1 := Lib.hid ho; have n2 := Lib.hid (show (l5 ++ [c]).length = 6 by rw [List.length_append, H5.out]; rfl); have n3 := Lib.hid (show ∀ x ∈ l5 ++ [c], 0 ≤ x ∧ x ≤ 9 from fun x hx => (List.mem_append.1 hx).elim (fun h => HFR.out x h) (fun h => by simp at h; omega)); clear ho hb hg hat; generalize l5 ++ [c] = l6 at *))
      obtain ⟨g, cq, e6, hg1, hg2, _⟩ := Kd.R_form n1.out (by rw [n2.out]; omega)
      injection e6 with e7 e8 e9
      subst e7
      have HC6 := Lib.hid (show Cells (Lib.bytesWorld w6 5 s) ⟨g, 0, none⟩ l6 from fun j hj => by
        obtain ⟨ad, ea, hx⟩ := Kd.at_int (Kd.R_reads' n1.out).2.2 (j : Int) (by omega) (by omega)
        injection ea with ea
        subst ea
        rw [Int.toNat_natCast] at hx
        rw [Lib.bytesWorld_old w6 5 s _ (by rw [Addr_add_block]; exact hg2)]
        exact hx)
      have HT6 := Lib.hid (show OwnT (Lib.bytesWorld w6 5 s) w6.heap.size 5 (.slice (some ⟨w6.heap.size, 0, none⟩) s.size (grownCap w6 s.size 0 5)) ((s.data.toList ++ (l6.take 0).map byteOf).map encB) by rw [List.take_zero, List.map_nil, List.append_nil]; exact own_of_bytes w6 s hs)
      have HB6 := Lib.hid (bytes_below n0.out (below_size n0.out) 5 s)
      have HS6 := Lib.hid (show w6.heap.size ≤ (Lib.bytesWorld w6 5 s).heap.size by rw [Lib.bytesWorld_size]; omega)
      have hgl : g < w6.heap.size := hg2
      have HB6w := Lib.hid (show w.heap.size ≤ w6.heap.size from below_size n0.out)
      have HL := Lib.hid (show (⟨(s.data.toList ++ (l6.take 6).map byteOf).toArray⟩ : ByteArray) = out by
        rw [← HFin.out, List.take_of_length_le (by rw [n2.out]; omega)]
        congr 1
        apply Array.ext'
        simp)
      clear n0 n1 e8 e9 hg1 hg2 kb HFin
      generalize Lib.bytesWorld w6 5 s = W at *
      generalize w6.heap.size = B at *
      generalize grownCap w6 s.size 0 5 = cw at *
      go_loopw [7, 31] (fun v d w' => ∃ j : Nat, j ≤ 6 ∧ d = .int .i64 j ∧ OwnT w' B 5 v ((s.data.toList ++ (l6.take j).map byteOf).map encB) ∧ Cells w' ⟨g, 0, none⟩ l6 ∧ Below w.heap.size w w' ∧ B ≤ w'.heap.size) (fun _ d _ => 6 - (intOf d).toNat)
      case atStart => exact ⟨0, by omega, rfl, HT6.out, HC6.out, HB6.out, HS6.out⟩
      case round =>
        obtain ⟨j, hj, rfl, hT, hC, hB, hS⟩ := hrel
        have KT := Lib.hid hT
        have KC := Lib.hid hC
        have KB := Lib.hid hB
        have KS := Lib.hid hS
        clear hT hC hB hS
        by_cases hj6 : j < 6
        · have hjl : (j : Int) < (l6.length : Int) := by rw [n2.out]; omega
          have hq : decide ((j : Int) < (l6.length : Int)) = true := decide_eq_true hjl
          have hcell : wr.cell? ⟨g, j, none⟩ = some (.int .i64 (rd l6 (j : Int))) := by
            have h := KC.out j (by omega)
            have e : (⟨g, 0, none⟩ : Addr).add j = ⟨g, j, none⟩ := by unfold Addr.add; split <;> simp_all
            rwa [e] at h
          have hdig : 0 ≤ rd l6 (j : Int) ∧ rd l6 (j : Int) ≤ 9 := by
            have e : rd l6 (j : Int) = l6[j]'(by omega) := by
              unfold rd
              rw [Int.toNat_natCast, List.getD_eq_getElem?_getD, List.getElem?_eq_getElem (by omega)]; rfl
            rw [e]
            exact n3.out _ (List.getElem_mem _)
          obtain ⟨hd0, hd9⟩ := hdig
          have HAP := Lib.hid (appended_bytes (s := s) (ds := l6) (j := j) (by omega) n3.out)
          have hsl : ((s.data.toList ++ (l6.take j).map byteOf).map encB).length ≤ 1006 := by
            rw [List.length_map, List.length_append, List.length_map, List.length_take, Array.length_toList]
            have : s.data.size = s.size := rfl
            omega
          generalize (s.data.toList ++ (l6.take j).map byteOf).map encB = xs at *
          obtain ⟨i0, hi, hz0, hz1, hz2⟩ := info_parts make5.info5
          have HI := Lib.hid hi
          have HZ0 := Lib.hid hz0
          have HZ1 := Lib.hid hz1
          have HZ2 := Lib.hid hz2
          clear hi hz0 hz1 hz2
          go_wp2_with (first | ((with_reducible refine gate_builtin (b := .append) (xs := #[.tmp 35, .tmp 39]) rfl ?_); at_builtin; refine wpList_append_T rfl (.tmp 35) (.tmp 39) 77 rfl B 5 i0 (.int .u8 0) 1 Try.underlying77 HI.out HZ0.out HZ1.out HZ2.out rfl u7 xs rfl (KT.out.alloc _) ⟨wr.heap.size, 0, none⟩ 1 (.int .u8 (48 + rd l6 (j : Int))) rfl (cell_new_one _ _ _) rfl ?aL ?aM ?aS ?_; (case aL => unfold maxLen; omega); (case aM => omega); (case aS => have := KS.out; simp; omega); intro v1 w7 ho hg; rw [HAP.out] at ho; have m0 := Lib.hid ho; have m1 := Lib.hid hg; clear ho hg))
          go_roundw
          case rel =>
            refine ⟨j + 1, by omega, by go_num, m0.out, ?_, ?_, ?_⟩
            · refine KC.out.kept fun a ha => ?_
              have hb : (wr.alloc (.cells #[.int .u8 (48 + rd l6 (j : Int))] 5)).heap[g]? = wr.heap[g]? := by
                have := KS.out
                first | exact Go.heap_alloc_old wr _ g (by omega) | exact Go.heap_alloc_old wr _ (by omega)
              have hg2 : w7.heap[g]? = (wr.alloc (.cells #[.int .u8 (48 + rd l6 (j : Int))] 5)).heap[g]? := m1.out.block g (by have := KS.out; simp; omega) (fun e => by have := (KT.out.size g e.symm).1; omega)
              exact cell_old (hg2.trans hb) a ha
            · exact (KB.out.alloc (below_size KB.out) _).grown m1.out (by have := KB.out.size; simp; omega) (fun q hq => by have := (KT.out.size q hq).1; have := HB6w.out; omega)
            · have h1 := m1.out.size
              have := KS.out
              simp at h1
              omega
          case measure => simp [intOf]; omega
        · have hq : decide (j < l6.length) = false := decide_eq_false (by rw [n2.out]; omega)
          obtain ⟨g7, c7, e7, hcell⟩ := KT.out.cell
          have hlen : ((s.data.toList ++ (l6.take j).map byteOf).map encB).length = (s.data.toList ++ (l6.take j).map byteOf).length := List.length_map _
          rw [hlen] at e7
          have hcv := run_convert_bytes_back (P := Try.prog) wr 77 9 5 ⟨g7, 0, none⟩ c7 (s.data.toList ++ (l6.take j).map byteOf) Try.underlying77 Try.underlying5 Try.underlying9 (fun q hq => hcell q _ (by rw [List.getElem?_map, List.getElem?_eq_getElem hq]; rfl))
          have hL : (⟨(s.data.toList ++ (l6.take j).map byteOf).toArray⟩ : ByteArray) = out := by rw [show j = 6 from by omega]; exact HL.out
          rw [hL] at hcv
          clear hcell hlen hL
          generalize (s.data.toList ++ (l6.take j).map byteOf).length = nn at *
          subst e7
          go_wp2
          go_ret
          exact ⟨rfl, KB.out⟩

theorem ring_make5.calls (k : Nat) (a0 : ByteArray) (a1 : Int) (r : ByteArray) (w : World) (h : ring_make5.f k a0 a1 = some r) :
    Calls Try.prog 75 #[.string a0, .int .i64 a1] w fun e w' => e = .returned (.string r) ∧ Below w.heap.size w w' := by
  unfold ring_make5.f at h
  split at h
  · rename_i hc
    obtain ⟨h1, h2, h3⟩ := hc
    obtain ⟨sm, e1, h⟩ := Option.bind_eq_some_iff.mp h
    obtain ⟨c, e2, h⟩ := Option.bind_eq_some_iff.mp h
    split at h
    · rename_i hd
      obtain rfl := Option.some.inj h
      exact ring_make5.walk k a0 a1 sm c w h1 h2 h3 e1 e2 hd.1 hd.2
    · exact absurd h (by simp)
  · exact absurd h (by simp)

/-! ### ring_Next: function 34 -/
def ring_Next.f (k : Nat) (a0 : ByteArray) : Option (ByteArray × Int) := (ring_Split.f k a0).bind fun bt292 => (if bt292.2.2 = 0 then (if bt292.2.1 = 99999 then (some ((⟨#[]⟩ : ByteArray), 3)) else ((ring_make5.f k bt292.1 (wrap64 (bt292.2.1 + 1))).bind fun t295 => (some (t295, 0)))) else (some ((⟨#[]⟩ : ByteArray), bt292.2.2)))
theorem ring_Next.mono : ∀ a0 k, LeO (ring_Next.f k a0) (ring_Next.f (k + 1) a0) := by
  intro a0 k
  unfold ring_Next.f
  repeat' first
      | (with_reducible exact ring_Split.mono _ _)
      | (with_reducible exact ring_make5.mono _ _ _)
      | (with_reducible exact LeO.refl _)
      | (with_reducible exact LeO.none _)
      | (with_reducible refine LeO.ite ?_ ?_)
      | (with_reducible refine LeO.bind ?_ (fun _ => ?_))
      | exact ring_Split.mono _ _
      | exact ring_make5.mono _ _ _
      | exact LeO.none _
      | refine LeO.ite ?_ ?_
      | refine LeO.bind ?_ (fun _ => ?_)
set_option maxHeartbeats 8000000 in
set_option maxRecDepth 100000 in
theorem ring_Next.calls (k : Nat) (a0 : ByteArray) (r1 : ByteArray) (r2 : Int) (w : World) (h : ring_Next.f k a0 = some (r1, r2)) :
    Calls Try.prog 34 #[.string a0] w fun e w' => e = .returned (.tuple #[.string r1, .int .i64 r2]) ∧ Below w.heap.size w w' := by
  have HB := Aside0.mk (Below.refl w.heap.size w)
  have H : ((ring_Split.f k a0).bind fun bt292 => (if bt292.2.2 = 0 then (if bt292.2.1 = 99999 then (some ((⟨#[]⟩ : ByteArray), 3)) else ((ring_make5.f k bt292.1 (wrap64 (bt292.2.1 + 1))).bind fun t295 => (some (t295, 0)))) else (some ((⟨#[]⟩ : ByteArray), bt292.2.2)))) = some (r1, r2) := h
  clear h
  replace H := Option.bind_eq_some_iff.mp H
  obtain ⟨⟨t292, t293, t294⟩, A20, H⟩ := H
  replace H : (if t294 = 0 then (if t293 = 99999 then (some ((⟨#[]⟩ : ByteArray), 3)) else ((ring_make5.f k t292 (wrap64 (t293 + 1))).bind fun t295 => (some (t295, 0)))) else (some ((⟨#[]⟩ : ByteArray), t294))) = some (r1, r2) := H
  have A2 := Aside0.mk A20
  clear A20
  by_cases c3 : t294 = 0
  · rw [if_pos c3] at H
    have c3b0 : (t294 == 0) = true := beq_iff_eq.mpr c3
    have c3b1 : (t294 != 0) = false := bne_eq_false_iff_eq.mpr c3
    clear c3
    by_cases c4 : t293 = 99999
    · rw [if_pos c4] at H
      have c4b0 : (t293 == 99999) = true := beq_iff_eq.mpr c4
      have c4b1 : (t293 != 99999) = false := bne_eq_false_iff_eq.mpr c4
      clear c4
      simp only [Option.some.injEq, Prod.mk.injEq] at H
      obtain ⟨rfl, rfl⟩ := H
      go_enter Try.func34, Try.ntmps34
      go_wp2_with (first | ((with_reducible refine gate_callee (f := 32) rfl ?_); refine goesL_ (some 9) rfl rfl Try.func32 (by kernel_rfl) rfl #[.string a0] rfl (by (try simp only [List.map_toArray, List.map_cons, List.map_nil]); first | done | rfl | (simp only [List.length_drop, List.length_take]; rfl)) ?_; (with_reducible refine (ring_Split.calls k a0 t292 t293 t294 _ A2.out).mono ?_); rintro e w5 ⟨rfl, hb⟩; refine ⟨_, rfl, ?_⟩; have n0_ := Aside0.mk (below_step (by repeat (first | (with_reducible first | exact HB.out | apply below_alloc | apply pw_below_drewN | apply below_drew1) | exact HB.out)) hb); clear HB; have HB := n0_; clear n0_; (try clear hb); (try clear hb2); (try clear hk); (try clear hi)))
      go_ret2
      exact ⟨by first | rfl | (simp [errW_none, errW_some] <;> rfl) | (simp [*, errW_none, errW_some] <;> rfl), by repeat (first | (with_reducible first | exact HB.out | apply below_alloc | apply pw_below_drewN | apply below_drew1) | exact HB.out)⟩
    · rw [if_neg c4] at H
      have c4b0 : (t293 == 99999) = false := beq_eq_false_iff_ne.mpr c4
      have c4b1 : (t293 != 99999) = true := bne_iff_ne.mpr c4
      replace H := Option.bind_eq_some_iff.mp H
      obtain ⟨t295, A60, H⟩ := H
      replace H : (some (t295, 0)) = some (r1, r2) := H
      have A6 := Aside0.mk A60
      clear A60
      simp only [Option.some.injEq, Prod.mk.injEq] at H
      obtain ⟨rfl, rfl⟩ := H
      go_enter Try.func34, Try.ntmps34
      go_wp2_with (first | ((with_reducible refine gate_callee (f := 32) rfl ?_); refine goesL_ (some 9) rfl rfl Try.func32 (by kernel_rfl) rfl #[.string a0] rfl (by (try simp only [List.map_toArray, List.map_cons, List.map_nil]); first | done | rfl | (simp only [List.length_drop, List.length_take]; rfl)) ?_; (with_reducible refine (ring_Split.calls k a0 t292 t293 t294 _ A2.out).mono ?_); rintro e w7 ⟨rfl, hb⟩; refine ⟨_, rfl, ?_⟩; have n0_ := Aside0.mk (below_step (by repeat (first | (with_reducible first | exact HB.out | apply below_alloc | apply pw_below_drewN | apply below_drew1) | exact HB.out)) hb); clear HB; have HB := n0_; clear n0_; (try clear hb); (try clear hb2); (try clear hk); (try clear hi)) | ((with_reducible refine gate_callee (f := 75) rfl ?_); refine goesL_ (some 23) rfl rfl Try.func75 (by kernel_rfl) rfl #[.string t292, .int .i64 (wrap64 (t293 + 1))] rfl (by (try simp only [List.map_toArray, List.map_cons, List.map_nil]); first | done | rfl | (simp only [List.length_drop, List.length_take]; rfl)) ?_; (with_reducible refine (ring_make5.calls k t292 (wrap64 (t293 + 1)) t295 _ A6.out).mono ?_); rintro e w8 ⟨rfl, hb⟩; refine ⟨_, rfl, ?_⟩; have n0_ := Aside0.mk (below_step (by repeat (first | (with_reducible first | exact HB.out | apply below_alloc | apply pw_below_drewN | apply below_drew1) | exact HB.out)) hb); clear HB; have HB := n0_; clear n0_; (try clear hb); (try clear hb2); (try clear hk); (try clear hi)))
      go_ret2
      exact ⟨by first | rfl | (simp [errW_none, errW_some] <;> rfl) | (simp [*, errW_none, errW_some] <;> rfl), by repeat (first | (with_reducible first | exact HB.out | apply below_alloc | apply pw_below_drewN | apply below_drew1) | exact HB.out)⟩
  · rw [if_neg c3] at H
    have c3b0 : (t294 == 0) = false := beq_eq_false_iff_ne.mpr c3
    have c3b1 : (t294 != 0) = true := bne_iff_ne.mpr c3
    simp only [Option.some.injEq, Prod.mk.injEq] at H
    obtain ⟨rfl, rfl⟩ := H
    go_enter Try.func34, Try.ntmps34
    go_wp2_with (first | ((with_reducible refine gate_callee (f := 32) rfl ?_); refine goesL_ (some 9) rfl rfl Try.func32 (by kernel_rfl) rfl #[.string a0] rfl (by (try simp only [List.map_toArray, List.map_cons, List.map_nil]); first | done | rfl | (simp only [List.length_drop, List.length_take]; rfl)) ?_; (with_reducible refine (ring_Split.calls k a0 t292 t293 t294 _ A2.out).mono ?_); rintro e w9 ⟨rfl, hb⟩; refine ⟨_, rfl, ?_⟩; have n0_ := Aside0.mk (below_step (by repeat (first | (with_reducible first | exact HB.out | apply below_alloc | apply pw_below_drewN | apply below_drew1) | exact HB.out)) hb); clear HB; have HB := n0_; clear n0_; (try clear hb); (try clear hb2); (try clear hk); (try clear hi)))
    go_ret2
    exact ⟨by first | rfl | (simp [errW_none, errW_some] <;> rfl) | (simp [*, errW_none, errW_some] <;> rfl), by repeat (first | (with_reducible first | exact HB.out | apply below_alloc | apply pw_below_drewN | apply below_drew1) | exact HB.out)⟩

/-! ### wigeonref01_Digit: function 98 -/
def wigeonref01_Digit.f (a0 : Int) : Option (ByteArray) := if 0 ≤ a0 then (if a0 ≤ (wrap64 (a0 + 1)) then (if (wrap64 (a0 + 1)) ≤ 10 then (some ((⟨#[48, 49, 50, 51, 52, 53, 54, 55, 56, 57]⟩ : ByteArray).extract (a0 : Int).toNat ((wrap64 (a0 + 1)) : Int).toNat)) else (none)) else (none)) else (none)
set_option maxHeartbeats 8000000 in
set_option maxRecDepth 100000 in
theorem wigeonref01_Digit.calls (a0 : Int) (r : ByteArray) (w : World) (h : wigeonref01_Digit.f a0 = some r) :
    Calls Try.prog 98 #[.int .i64 a0] w fun e w' => e = .returned (.string r) ∧ Drawn0 w w' := by
  have H : (if 0 ≤ a0 then (if a0 ≤ (wrap64 (a0 + 1)) then (if (wrap64 (a0 + 1)) ≤ 10 then (some ((⟨#[48, 49, 50, 51, 52, 53, 54, 55, 56, 57]⟩ : ByteArray).extract (a0 : Int).toNat ((wrap64 (a0 + 1)) : Int).toNat)) else (none)) else (none)) else (none)) = some r := h
  clear h
  by_cases c2 : 0 ≤ a0
  · rw [if_pos c2] at H
    have c2b0 := eq_true c2
    have c2b1 : decide (0 ≤ a0) = true := decide_eq_true c2
    clear c2
    by_cases c3 : a0 ≤ (wrap64 (a0 + 1))
    · rw [if_pos c3] at H
      have c3b0 := eq_true c3
      have c3b1 : decide (a0 ≤ (wrap64 (a0 + 1))) = true := decide_eq_true c3
      by_cases c4 : (wrap64 (a0 + 1)) ≤ 10
      · rw [if_pos c4] at H
        have c4b0 := eq_true c4
        have c4b1 : decide ((wrap64 (a0 + 1)) ≤ 10) = true := decide_eq_true c4
        obtain rfl := Option.some.inj H
        go_enter Try.func98, Try.ntmps98
        go_wp2
        go_ret
        exact ⟨by first | rfl | (simp; done) | (simp [*]; done), by repeat (first | exact Drawn0.refl _ | apply Drawn0.step)⟩
      · rw [if_neg c4] at H
        exact absurd H (by simp)
    · rw [if_neg c3] at H
      exact absurd H (by simp)
  · rw [if_neg c2] at H
    exact absurd H (by simp)

end Go.Proofs.Ytlbhighbhchdmaa.Q
