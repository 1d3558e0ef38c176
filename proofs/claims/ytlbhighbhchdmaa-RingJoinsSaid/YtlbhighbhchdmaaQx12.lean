-- Written by a program of this session (wip/tools/gprint.py, over the kit's print); Lean checks it.
import Derived.Test.YtlbhighbhchdmaaQx0
import Derived.Test.YtlbhighbhchdmaaQx9
namespace Go.Proofs.Ytlbhighbhchdmaa.Q
open Go.RowKit Go.Proofs.YtlbhighbhchdmaaW.PrintWords Go.Proofs.YtlbhighbhchdmaaW.PrintLast Go.Proofs.YtlbhighbhchdmaaW.PrintMore
attribute [local go_sem] max2_int min2_int max_two min_two max_three min_three max_four min_four   -- for this text's walks alone
set_option linter.unusedVariables false
set_option linter.unusedSimpArgs false

/-! ### ring_Split: function 32 -/
def ring_Split.l0 : Nat → ByteArray → Int → Int → List Int → Int → Int → Option (ByteArray × Int × Int)
  | 0, _, _, _, _, _, _ => none
  | k + 1, x0, x6, x7, x21, x22, x23 => if x23 < x22 then (if 0 ≤ x23 then (if x23 < (x21.length : Int) then (ring_Split.l0 k x0 x6 (wrap64 ((wrap64 (10 * x7)) + (rd x21 x23))) x21 x22 (wrap64 (x23 + 1))) else (none)) else (none)) else (if 0 ≤ x6 then (if x6 ≤ (x0.size : Int) then (some (x0.extract 0 (x6 : Int).toNat, x7, 0)) else (none)) else (none))
def ring_Split.f (k : Nat) (a0 : ByteArray) : Option (ByteArray × Int × Int) := (ring_Valid.f k a0).bind fun t277 => (if t277 = 0 then ((ring_digits.f a0 (wrap64 ((a0.size : Int) - 6))).bind fun t278 => (if 5 ≤ (t278.length : Int) then ((some (t278.take 5 : List Int)).bind fun y281 => (ring_Split.l0 k a0 (wrap64 ((a0.size : Int) - 6)) 0 y281 (y281.length : Int) 0)) else (none))) else (some ((⟨#[]⟩ : ByteArray), 0, t277)))
theorem ring_Split.mono_l : ∀ k, (∀ y0 y1 y2 y3 y4 y5, LeO (ring_Split.l0 k y0 y1 y2 y3 y4 y5) (ring_Split.l0 (k + 1) y0 y1 y2 y3 y4 y5))
  | 0 => fun _ _ _ _ _ _ r h => by simp [ring_Split.l0] at h
  | k + 1 => by
    have ih0 := ring_Split.mono_l k
    · intro y0 y1 y2 y3 y4 y5
      unfold ring_Split.l0
      repeat' first
      | (with_reducible exact ih0 _ _ _ _ _ _)
      | (with_reducible exact ring_Valid.mono _ _)
      | (with_reducible exact LeO.refl _)
      | (with_reducible exact LeO.none _)
      | (with_reducible refine LeO.ite ?_ ?_)
      | (with_reducible refine LeO.bind ?_ (fun _ => ?_))
      | exact ih0 _ _ _ _ _ _
      | exact ring_Valid.mono _ _
      | exact LeO.none _
      | refine LeO.ite ?_ ?_
      | refine LeO.bind ?_ (fun _ => ?_)
theorem ring_Split.mono : ∀ a0 k, LeO (ring_Split.f k a0) (ring_Split.f (k + 1) a0) := by
  intro a0 k
  have ih0 := ring_Split.mono_l k
  unfold ring_Split.f
  repeat' first
      | (with_reducible exact ih0 _ _ _ _ _ _)
      | (with_reducible exact ring_Valid.mono _ _)
      | (with_reducible exact LeO.refl _)
      | (with_reducible exact LeO.none _)
      | (with_reducible refine LeO.ite ?_ ?_)
      | (with_reducible refine LeO.bind ?_ (fun _ => ?_))
      | exact ih0 _ _ _ _ _ _
      | exact ring_Valid.mono _ _
      | exact LeO.none _
      | refine LeO.ite ?_ ?_
      | refine LeO.bind ?_ (fun _ => ?_)
set_option maxHeartbeats 8000000 in
set_option maxRecDepth 100000 in
theorem ring_Split.calls (k : Nat) (a0 : ByteArray) (r1 : ByteArray) (r2 : Int) (r3 : Int) (w : World) (h : ring_Split.f k a0 = some (r1, r2, r3)) :
    Calls Try.prog 32 #[.string a0] w fun e w' => e = .returned (.tuple #[.string r1, .int .i64 r2, .int .i64 r3]) ∧ Below w.heap.size w w' := by
  have HB := Aside0.mk (Below.refl w.heap.size w)
  have H : ((ring_Valid.f k a0).bind fun t277 => (if t277 = 0 then ((ring_digits.f a0 (wrap64 ((a0.size : Int) - 6))).bind fun t278 => (if 5 ≤ (t278.length : Int) then ((some (t278.take 5 : List Int)).bind fun y281 => (ring_Split.l0 k a0 (wrap64 ((a0.size : Int) - 6)) 0 y281 (y281.length : Int) 0)) else (none))) else (some ((⟨#[]⟩ : ByteArray), 0, t277)))) = some (r1, r2, r3) := h
  clear h
  replace H := Option.bind_eq_some_iff.mp H
  obtain ⟨t277, A20, H⟩ := H
  replace H : (if t277 = 0 then ((ring_digits.f a0 (wrap64 ((a0.size : Int) - 6))).bind fun t278 => (if 5 ≤ (t278.length : Int) then ((some (t278.take 5 : List Int)).bind fun y281 => (ring_Split.l0 k a0 (wrap64 ((a0.size : Int) - 6)) 0 y281 (y281.length : Int) 0)) else (none))) else (some ((⟨#[]⟩ : ByteArray), 0, t277))) = some (r1, r2, r3) := H
  have A2 := Aside0.mk A20
  clear A20
  by_cases c3 : t277 = 0
  · rw [if_pos c3] at H
    have c3b0 : (t277 == 0) = true := beq_iff_eq.mpr c3
    have c3b1 : (t277 != 0) = false := bne_eq_false_iff_eq.mpr c3
    clear c3
    replace H := Option.bind_eq_some_iff.mp H
    obtain ⟨t278, A40, H⟩ := H
    replace H : (if 5 ≤ (t278.length : Int) then ((some (t278.take 5 : List Int)).bind fun y281 => (ring_Split.l0 k a0 (wrap64 ((a0.size : Int) - 6)) 0 y281 (y281.length : Int) 0)) else (none)) = some (r1, r2, r3) := H
    have A4 := Aside0.mk A40
    clear A40
    by_cases c5 : 5 ≤ (t278.length : Int)
    · rw [if_pos c5] at H
      have c5b0 := eq_true c5
      have c5b1 : decide (5 ≤ (t278.length : Int)) = true := decide_eq_true c5
      clear c5
      obtain ⟨y281, hy281⟩ : ∃ y_ : List Int, y_ = (t278.take 5) := ⟨_, rfl⟩
      replace H : (ring_Split.l0 k a0 (wrap64 ((a0.size : Int) - 6)) 0 y281 (y281.length : Int) 0) = some (r1, r2, r3) := by first | (rw [hy281]; with_reducible exact H) | (have H2_ := (Option.bind_some _ _).symm.trans H; rw [hy281]; with_reducible exact H2_) | (have H2_ := (Option.bind_some _ _).symm.trans H; with_reducible exact H2_) | with_reducible exact H | (rw [hy281]; exact H) | exact H
      have Ny281 := Aside0.mk hy281
      clear hy281
      have H' := Aside0.mk H
      clear H
      go_enter Try.func32, Try.ntmps32
      go_wp2_with (first | ((with_reducible refine gate_callee (f := 36) rfl ?_); refine goesL_ (some 11) rfl rfl Try.func36 (by kernel_rfl) rfl #[.string a0] rfl (by (try simp only [List.map_toArray, List.map_cons, List.map_nil]); first | done | rfl | (simp only [List.length_drop, List.length_take]; rfl)) ?_; (with_reducible refine (ring_Valid.calls k a0 t277 _ A2.out).mono ?_); rintro e w6 ⟨rfl, hb⟩; refine ⟨_, rfl, ?_⟩; have n0_ := Aside0.mk (below_step (by repeat (first | (with_reducible first | exact HB.out | apply below_alloc | apply pw_below_drewN | apply below_drew1) | exact HB.out)) hb); clear HB; have HB := n0_; clear n0_; (try clear hb); (try clear hb2); (try clear hk); (try clear hi)) | ((with_reducible refine gate_callee (f := 73) rfl ?_); refine goesL_ (some 20) rfl rfl Try.func73 (by kernel_rfl) rfl #[.string a0, .int .i64 (wrap64 ((a0.size : Int) - 6))] rfl (by (try simp only [List.map_toArray, List.map_cons, List.map_nil]); first | done | rfl | (simp only [List.length_drop, List.length_take]; rfl)) ?_; (with_reducible refine (ring_digits.calls a0 (wrap64 ((a0.size : Int) - 6)) t278 _ A4.out).mono ?_); rintro e w7 ⟨v279, rfl, ho0, hb⟩; refine ⟨_, rfl, ?_⟩; have n0_ := Aside0.mk (Kd.R_lower ho0 (below_size (by repeat (first | (with_reducible first | exact HB.out | apply below_alloc | apply pw_below_drewN | apply below_drew1) | exact HB.out)))); have n1_ := Aside0.mk (below_step (by repeat (first | (with_reducible first | exact HB.out | apply below_alloc | apply pw_below_drewN | apply below_drew1) | exact HB.out)) hb); clear HB; have HO280 := n0_; have HB := n1_; clear n0_ n1_; (try clear hb); (try clear hb2); (try clear hk); (try clear hi); (try clear ho0); obtain ⟨Ao9, co9, eo9⟩ := Kd.R_slice HO280.out; subst eo9; have q8 : (5 : Int) ≤ ((t278.length : Int) : Int) := of_decide_eq_true (by first | (with_reducible assumption) | assumption); obtain ⟨i08, hi08, _, hsz8, _⟩ := info_parts info3; have hroom8 : t278.length ≤ co9 := (Kd.R_reads' HO280.out).2.1; have hC8 : Kd.C (Kd.int .i64) _ Ao9 t278.length t278 := (Kd.R_reads' HO280.out).2.2; have hcut8 := cut_to (P := Try.prog) 28 3 .i64 Try.underlying28 hi08 Ao9 t278.length co9 5 (by omega) q8 hroom8; have hr8 := Kd.C_take (m := 5) hC8 (by omega); have hy8 : y281.length = (5 : Int).toNat := (by rw [Ny281.out, List.length_take]; omega); rw [← Ny281.out] at hr8; rw [← hy8] at hcut8; have HR284 := Aside0.mk hr8; have HC284 := Aside0.mk (show y281.length ≤ co9 from by omega); clear hr8 hC8 hroom8 hi08 hsz8; have KY8 := Aside0.mk hy8; clear hy8; have KL8 := Aside0.mk (show 5 ≤ t278.length from by omega); replace q8 := eq_true q8))
      go_loopg [7, 23] k (fun kq v7 v23 w' => ∃ (x7_1 : Int) (x23_1 : Int), v7 = .int .i64 x7_1 ∧ v23 = .int .i64 x23_1 ∧ Aside0 (ring_Split.l0 kq a0 (wrap64 ((a0.size : Int) - 6)) x7_1 y281 (y281.length : Int) x23_1 = some (r1, r2, r3)) ∧ Aside0 (kq ≤ k) ∧ Aside0 (Kd.C (Kd.int .i64) w' Ao9 y281.length y281) ∧ Aside0 (Below w.heap.size w w'))
      case atStart => exact ⟨(0), (0), (by first | rfl | (simp; done) | (simp [*]; done)), (by first | rfl | (simp; done) | (simp [*]; done)), H', ⟨Nat.le_refl _⟩, ⟨by repeat (first | (with_reducible exact HR284.out) | (with_reducible refine Kd.C_alloc ?_ _) | (with_reducible refine Kd.C_drewN ?_ _) | (with_reducible refine Kd.C_drew ?_) | exact HR284.out)⟩, ⟨by repeat (first | (with_reducible first | exact HB.out | apply below_alloc | apply pw_below_drewN | apply below_drew1) | exact HB.out)⟩⟩
      case round =>
        clear H'
        try clear p2
        try clear c3
        try clear c3b0
        try clear c3b1
        try clear c5
        try clear c5b0
        try clear c5b1
        try clear p6
        try clear c7
        try clear q8
        try clear q8
        obtain ⟨x7_1, x23_1, rfl, rfl, HA, HK1, HR284, HB⟩ := hrel
        cases gk with
        | zero => exact absurd HA.out (by simp [ring_Split.l0])
        | succ k1 =>
          have H := HA.out
          clear HA
          simp only [ring_Split.l0] at H
          by_cases c10 : x23_1 < (y281.length : Int)
          · rw [if_pos c10] at H
            have c10b0 : decide (x23_1 < (y281.length : Int)) = true := decide_eq_true c10
            clear c10
            by_cases c11 : 0 ≤ x23_1
            · rw [if_pos c11] at H
              have c11b0 : decide (0 ≤ x23_1) = true := decide_eq_true c11
              clear c11
              by_cases c12 : x23_1 < (y281.length : Int)
              · rw [if_pos c12] at H
                have c12b0 : decide (x23_1 < (y281.length : Int)) = true := decide_eq_true c12
                clear c12
                have H' := Aside0.mk H
                clear H
                have p285 : 0 ≤ (x23_1 : Int) := of_decide_eq_true (by first | (with_reducible assumption) | assumption)
                have q285 : x23_1 < (y281.length : Int) := of_decide_eq_true (by first | (with_reducible assumption) | assumption)
                obtain ⟨ad285, e285, hx285_0⟩ := Kd.at_int HR284.out x23_1 p285 q285
                cases e285
                try replace hx285_0 := (HB.out.cell (World.block_lt_of_cell? w _ hx285_0)).trans hx285_0
                replace p285 := eq_true p285
                replace q285 := eq_true q285
                go_wp2
                go_roundg k1
                case measure => have := HK1.out; omega
                case rel => exact ⟨(wrap64 ((wrap64 (10 * x7_1)) + (rd y281 x23_1))), (wrap64 (x23_1 + 1)), (by first | rfl | (simp; done) | (simp [*]; done)), (by first | rfl | (simp; done) | (simp [*]; done)), H', ⟨by have := HK1.out; omega⟩, ⟨by repeat (first | (with_reducible exact HR284.out) | (with_reducible refine Kd.C_alloc ?_ _) | (with_reducible refine Kd.C_drewN ?_ _) | (with_reducible refine Kd.C_drew ?_) | exact HR284.out)⟩, ⟨by repeat (first | (with_reducible first | exact HB.out | apply below_alloc | apply pw_below_drewN | apply below_drew1) | exact HB.out)⟩⟩
              · rw [if_neg c12] at H
                exact absurd H (by simp)
            · rw [if_neg c11] at H
              exact absurd H (by simp)
          · rw [if_neg c10] at H
            have c10b0 : decide (x23_1 < (y281.length : Int)) = false := decide_eq_false c10
            clear c10
            obtain ⟨ji13, hji13⟩ : ∃ j_ : Int, (wrap64 ((a0.size : Int) - 6)) = j_ := ⟨_, rfl⟩
            replace H : (if 0 ≤ (ji13) then (if (ji13) ≤ (a0.size : Int) then (some (a0.extract 0 ((ji13) : Int).toNat, x7_1, 0)) else (none)) else (none)) = some (r1, r2, r3) := by first | (rw [hji13] at H; exact H) | (simp only [hji13] at H ⊢; exact H)
            have hji13w : (IntKind.i64.wrap ((a0.size : Int) - 6)) = ji13 := (i64_w _).trans hji13
            by_cases c14 : 0 ≤ (ji13)
            · rw [if_pos c14] at H
              have c14b0 := eq_true c14
              have c14b1 : decide (0 ≤ (ji13)) = true := decide_eq_true c14
              clear c14
              by_cases c15 : (ji13) ≤ (a0.size : Int)
              · rw [if_pos c15] at H
                have c15b0 := eq_true c15
                have c15b1 : decide ((ji13) ≤ (a0.size : Int)) = true := decide_eq_true c15
                clear c15
                simp only [Option.some.injEq, Prod.mk.injEq] at H
                obtain ⟨rfl, rfl, rfl⟩ := H
                go_wp2
                go_ret3
                exact ⟨by first | rfl | (simp [errW_none, errW_some] <;> rfl) | (simp only [← hji13]; first | rfl | (simp [errW_none, errW_some] <;> rfl)) | (simp [*, errW_none, errW_some] <;> rfl), by repeat (first | (with_reducible first | exact HB.out | apply below_alloc | apply pw_below_drewN | apply below_drew1) | exact HB.out)⟩
              · rw [if_neg c15] at H
                exact absurd H (by simp)
            · rw [if_neg c14] at H
              exact absurd H (by simp)
    · rw [if_neg c5] at H
      exact absurd H (by simp)
  · rw [if_neg c3] at H
    have c3b0 : (t277 == 0) = false := beq_eq_false_iff_ne.mpr c3
    have c3b1 : (t277 != 0) = true := bne_iff_ne.mpr c3
    simp only [Option.some.injEq, Prod.mk.injEq] at H
    obtain ⟨rfl, rfl, rfl⟩ := H
    go_enter Try.func32, Try.ntmps32
    go_wp2_with (first | ((with_reducible refine gate_callee (f := 36) rfl ?_); refine goesL_ (some 11) rfl rfl Try.func36 (by kernel_rfl) rfl #[.string a0] rfl (by (try simp only [List.map_toArray, List.map_cons, List.map_nil]); first | done | rfl | (simp only [List.length_drop, List.length_take]; rfl)) ?_; (with_reducible refine (ring_Valid.calls k a0 t277 _ A2.out).mono ?_); rintro e w16 ⟨rfl, hb⟩; refine ⟨_, rfl, ?_⟩; have n0_ := Aside0.mk (below_step (by repeat (first | (with_reducible first | exact HB.out | apply below_alloc | apply pw_below_drewN | apply below_drew1) | exact HB.out)) hb); clear HB; have HB := n0_; clear n0_; (try clear hb); (try clear hb2); (try clear hk); (try clear hi)))
    go_ret3
    exact ⟨by first | rfl | (simp [errW_none, errW_some] <;> rfl) | (simp [*, errW_none, errW_some] <;> rfl), by repeat (first | (with_reducible first | exact HB.out | apply below_alloc | apply pw_below_drewN | apply below_drew1) | exact HB.out)⟩

end Go.Proofs.Ytlbhighbhchdmaa.Q
