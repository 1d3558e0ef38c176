-- Written by a program of this session (wip/tools/gprint.py, over the kit's print); Lean checks it.
import Derived.Test.YtjphklemnhgkiaaDoorQx0
import Derived.Test.YtjphklemnhgkiaaDoorQx11
import Derived.Test.YtjphklemnhgkiaaDoorQx20
import Derived.Test.YtjphklemnhgkiaaDoorQx22
namespace Go.Proofs.YtjphklemnhgkiaaDoor.Q
open Go.RowKit Go.Proofs.YtjphklemnhgkiaaDoorW.PrintWords Go.Proofs.YtjphklemnhgkiaaDoorW.PrintLast Go.Proofs.YtjphklemnhgkiaaDoorW.PrintMore
attribute [local go_sem] max2_int min2_int max_two min_two max_three min_three max_four min_four   -- for this text's walks alone
set_option linter.unusedVariables false
set_option linter.unusedSimpArgs false

/-! ### wigeonref08_FromDividends: function 37 -/
mutual
def wigeonref08_FromDividends.j0 : Nat → List Int → Bool → Option (List Int × Int)
 | 0, _, _ => none
 | k + 1, x0, x21 => if x21 = true then (some (([] : List Int), 1)) else (if 0 ≤ (x0.length : Int) then (if ((x0.length : Int) : Int).toNat ≤ 35184372088832 then (wigeonref08_FromDividends.l0 k x0 (List.replicate ((x0.length : Int) : Int).toNat 0) 0) else (none)) else (none))
def wigeonref08_FromDividends.l0 : Nat → List Int → List Int → Int → Option (List Int × Int)
 | 0, _, _, _ => none
 | k + 1, x0, x4, x5 => if x5 < (x0.length : Int) then (wigeonref08_FromDividends.l1 k x0 x4 x5 0) else ((wigeonref08_told.f k x4).bind fun bt606 => (some (bt606.1, bt606.2)))
def wigeonref08_FromDividends.l1 : Nat → List Int → List Int → Int → Int → Option (List Int × Int)
 | 0, _, _, _, _ => none
 | k + 1, x0, x4, x5, x6 => if x6 ≤ x5 then ((wigeonref08_part.f x6 x5).bind fun t610 => (if t610 = true then (if 0 ≤ x5 then (if x5 < (x4.length : Int) then (if 0 ≤ x6 then (if x6 < (x0.length : Int) then (wigeonref08_FromDividends.l1 k x0 (x4.set (x5 : Int).toNat (wrap64 ((rd x4 x5) + (rd x0 x6)))) x5 (wrap64 (x6 + 1))) else (none)) else (none)) else (none)) else (none)) else (wigeonref08_FromDividends.l1 k x0 x4 x5 (wrap64 (x6 + 1))))) else (wigeonref08_FromDividends.l0 k x0 x4 (wrap64 (x5 + 1)))
end
def wigeonref08_FromDividends.f (k : Nat) (l0 : List Int) : Option (List Int × Int) := (wigeonref08_players.f k (l0.length : Int)).bind fun t600 => (if t600 < 0 then (wigeonref08_FromDividends.j0 k l0 true) else ((wigeonref08_limited.f k l0 1000000).bind fun t601 => (if t601 = true then (if 0 < (l0.length : Int) then (wigeonref08_FromDividends.j0 k l0 ((rd l0 0) != 0)) else (none)) else (wigeonref08_FromDividends.j0 k l0 true))))
theorem wigeonref08_FromDividends.mono_l : ∀ k, (∀ y0 y1, LeO (wigeonref08_FromDividends.j0 k y0 y1) (wigeonref08_FromDividends.j0 (k + 1) y0 y1)) ∧ (∀ y0 y1 y2, LeO (wigeonref08_FromDividends.l0 k y0 y1 y2) (wigeonref08_FromDividends.l0 (k + 1) y0 y1 y2)) ∧ (∀ y0 y1 y2 y3, LeO (wigeonref08_FromDividends.l1 k y0 y1 y2 y3) (wigeonref08_FromDividends.l1 (k + 1) y0 y1 y2 y3))
 | 0 => ⟨fun _ _ r h => by simp [wigeonref08_FromDividends.j0] at h, fun _ _ _ r h => by simp [wigeonref08_FromDividends.l0] at h, fun _ _ _ _ r h => by simp [wigeonref08_FromDividends.l1] at h⟩
 | k + 1 => by
  obtain ⟨ih0, ih1, ih2⟩ := wigeonref08_FromDividends.mono_l k
  refine ⟨?_, ?_, ?_⟩
  ·intro y0 y1
   unfold wigeonref08_FromDividends.j0
   repeat' first
   | (with_reducible exact ih0 _ _)
   | (with_reducible exact ih1 _ _ _)
   | (with_reducible exact ih2 _ _ _ _)
   | (with_reducible exact wigeonref08_limited.mono _ _ _)
   | (with_reducible exact wigeonref08_players.mono _ _)
   | (with_reducible exact wigeonref08_told.mono _ _)
   | (with_reducible exact LeO.refl _)
   | (with_reducible exact LeO.none _)
   | (with_reducible refine LeO.ite ?_ ?_)
   | (with_reducible refine LeO.bind ?_ (fun _ => ?_))
   | exact ih0 _ _
   | exact ih1 _ _ _
   | exact ih2 _ _ _ _
   | exact wigeonref08_limited.mono _ _ _
   | exact wigeonref08_players.mono _ _
   | exact wigeonref08_told.mono _ _
   | exact LeO.none _
   | refine LeO.ite ?_ ?_
   | refine LeO.bind ?_ (fun _ => ?_)
  ·intro y0 y1 y2
   unfold wigeonref08_FromDividends.l0
   repeat' first
   | (with_reducible exact ih0 _ _)
   | (with_reducible exact ih1 _ _ _)
   | (with_reducible exact ih2 _ _ _ _)
   | (with_reducible exact wigeonref08_limited.mono _ _ _)
   | (with_reducible exact wigeonref08_players.mono _ _)
   | (with_reducible exact wigeonref08_told.mono _ _)
   | (with_reducible exact LeO.refl _)
   | (with_reducible exact LeO.none _)
   | (with_reducible refine LeO.ite ?_ ?_)
   | (with_reducible refine LeO.bind ?_ (fun _ => ?_))
   | exact ih0 _ _
   | exact ih1 _ _ _
   | exact ih2 _ _ _ _
   | exact wigeonref08_limited.mono _ _ _
   | exact wigeonref08_players.mono _ _
   | exact wigeonref08_told.mono _ _
   | exact LeO.none _
   | refine LeO.ite ?_ ?_
   | refine LeO.bind ?_ (fun _ => ?_)
  ·intro y0 y1 y2 y3
   unfold wigeonref08_FromDividends.l1
   repeat' first
   | (with_reducible exact ih0 _ _)
   | (with_reducible exact ih1 _ _ _)
   | (with_reducible exact ih2 _ _ _ _)
   | (with_reducible exact wigeonref08_limited.mono _ _ _)
   | (with_reducible exact wigeonref08_players.mono _ _)
   | (with_reducible exact wigeonref08_told.mono _ _)
   | (with_reducible exact LeO.refl _)
   | (with_reducible exact LeO.none _)
   | (with_reducible refine LeO.ite ?_ ?_)
   | (with_reducible refine LeO.bind ?_ (fun _ => ?_))
   | exact ih0 _ _
   | exact ih1 _ _ _
   | exact ih2 _ _ _ _
   | exact wigeonref08_limited.mono _ _ _
   | exact wigeonref08_players.mono _ _
   | exact wigeonref08_told.mono _ _
   | exact LeO.none _
   | refine LeO.ite ?_ ?_
   | refine LeO.bind ?_ (fun _ => ?_)
theorem wigeonref08_FromDividends.mono : ∀ a0 k, LeO (wigeonref08_FromDividends.f k a0) (wigeonref08_FromDividends.f (k + 1) a0) := by
 intro a0 k
 obtain ⟨ih0, ih1, ih2⟩ := wigeonref08_FromDividends.mono_l k
 unfold wigeonref08_FromDividends.f
 repeat' first
   | (with_reducible exact ih0 _ _)
   | (with_reducible exact ih1 _ _ _)
   | (with_reducible exact ih2 _ _ _ _)
   | (with_reducible exact wigeonref08_limited.mono _ _ _)
   | (with_reducible exact wigeonref08_players.mono _ _)
   | (with_reducible exact wigeonref08_told.mono _ _)
   | (with_reducible exact LeO.refl _)
   | (with_reducible exact LeO.none _)
   | (with_reducible refine LeO.ite ?_ ?_)
   | (with_reducible refine LeO.bind ?_ (fun _ => ?_))
   | exact ih0 _ _
   | exact ih1 _ _ _
   | exact ih2 _ _ _ _
   | exact wigeonref08_limited.mono _ _ _
   | exact wigeonref08_players.mono _ _
   | exact wigeonref08_told.mono _ _
   | exact LeO.none _
   | refine LeO.ite ?_ ?_
   | refine LeO.bind ?_ (fun _ => ?_)
def wigeonref08_FromDividends.T11 : Bool × List (List Nat × List Nat) := (true, [([], []), ([], []), ([0, 1], [0, 1]), ([2], [2]), ([], []), ([], []), ([4, 5], [4, 5]), ([6], [6]), ([3, 7], [3, 7]), ([0, 1, 0, 1, 2, 3, 4, 5, 6, 7, 8], [0, 1]), ([9, 8, 0, 1, 2, 3, 4, 5, 6, 7, 8], [8, 9])])
def wigeonref08_FromDividends.B11 : List Nat := [0, 0, 3, 7, 0, 0, 48, 112, 255, 511, 1023]
theorem wigeonref08_FromDividends.tab11 : rtab .any (opsOf Tryd.f37 11) = wigeonref08_FromDividends.T11 := by kernel_rfl
theorem wigeonref08_FromDividends.bits11 : waitsOk wigeonref08_FromDividends.T11.2 wigeonref08_FromDividends.B11 = true := by kernel_rfl
set_option maxHeartbeats 8000000 in
set_option maxRecDepth 100000 in
theorem wigeonref08_FromDividends.calls (k : Nat) (A0 : Option Addr) (c0 : Nat) (l0 : List Int) (r1 : List Int) (r2 : Int) (w : World) (hr0 : Kd.C (Kd.int .i64) w A0 l0.length l0) (hc0 : l0.length ≤ c0) (h : wigeonref08_FromDividends.f k l0 = some (r1, r2)) :
  Calls Tryd.prog 37 #[.slice A0 l0.length c0] w fun e w' => ∃ v0_ : Value, e = .returned (.tuple #[v0_, .int .i64 r2]) ∧ Kd.R (Kd.int .i64) 3 w' w.heap.size (fun _ => True) v0_ r1 ∧ Below w.heap.size w w' := by
 have HR0 := Aside0.mk hr0
 have HC0 := Aside0.mk hc0
 clear hr0 hc0
 have HB := Aside0.mk (Below.refl w.heap.size w)
 have H : ((wigeonref08_players.f k (l0.length : Int)).bind fun t600 => (if t600 < 0 then (wigeonref08_FromDividends.j0 k l0 true) else ((wigeonref08_limited.f k l0 1000000).bind fun t601 => (if t601 = true then (if 0 < (l0.length : Int) then (wigeonref08_FromDividends.j0 k l0 ((rd l0 0) != 0)) else (none)) else (wigeonref08_FromDividends.j0 k l0 true))))) = some (r1, r2) := h
 clear h
 have HC2 := Aside0.mk H
 clear H
 go_enter Tryd.func37, Tryd.ntmps37
 go_upto_region 1 with (fail)
 go_cut [21] (fun v21 wc => ∃ (kq : Nat) (x21_1 : Bool), v21 = .bool x21_1 ∧ Aside0 (wigeonref08_FromDividends.j0 kq l0 x21_1 = some (r1, r2)) ∧ Aside0 (kq ≤ k) ∧ Aside0 (Below w.heap.size w wc))
 case first =>
  have H := HC2.out
  clear HC2
  replace H := Option.bind_eq_some_iff.mp H
  obtain ⟨t600, A30, H⟩ := H
  replace H : (if t600 < 0 then (wigeonref08_FromDividends.j0 k l0 true) else ((wigeonref08_limited.f k l0 1000000).bind fun t601 => (if t601 = true then (if 0 < (l0.length : Int) then (wigeonref08_FromDividends.j0 k l0 ((rd l0 0) != 0)) else (none)) else (wigeonref08_FromDividends.j0 k l0 true)))) = some (r1, r2) := H
  have A3 := Aside0.mk A30
  clear A30
  by_cases c4 : t600 < 0
  ·rw [if_pos c4] at H
   have c4b0 : decide (t600 < 0) = true := decide_eq_true c4
   clear c4
   (first | rw [c4b0] | (simp only [i64_w, i32_w]; rw [c4b0]) | skip)
   have H' := Aside0.mk H
   clear H
   go_wp2_with (first | ((with_reducible refine gate_callee (f := 54) rfl ?_); refine goesL_ (some 9) rfl rfl Tryd.func54 (by kernel_rfl) rfl #[.int .i64 (l0.length : Int)] rfl (by (try simp only [List.map_toArray, List.map_cons, List.map_nil]); first | done | rfl | (simp only [List.length_drop, List.length_take]; rfl)) ?_; (with_reducible refine (wigeonref08_players.calls k (l0.length : Int) t600 _ A3.out).mono ?_); rintro e w' ⟨rfl, ⟨nd, rfl⟩⟩; refine ⟨_, rfl, ?_⟩))
   go_meet
   case rel => exact ⟨_, (true), (by first | rfl | (simp; done) | (simp [*]; done)), H', ⟨by first | omega | exact Nat.le_refl _⟩, ⟨by repeat (first | (with_reducible first | exact HB.out | apply below_alloc | apply pw_below_drewN | apply below_drew1) | exact HB.out)⟩⟩
  ·rw [if_neg c4] at H
   have c4b0 : decide (t600 < 0) = false := decide_eq_false c4
   clear c4
   (first | rw [c4b0] | (simp only [i64_w, i32_w]; rw [c4b0]) | skip)
   replace H := Option.bind_eq_some_iff.mp H
   obtain ⟨t601, A50, H⟩ := H
   replace H : (if t601 = true then (if 0 < (l0.length : Int) then (wigeonref08_FromDividends.j0 k l0 ((rd l0 0) != 0)) else (none)) else (wigeonref08_FromDividends.j0 k l0 true)) = some (r1, r2) := H
   have A5 := Aside0.mk A50
   clear A50
   by_cases c6 : t601 = true
   ·subst c6
    have H1 : (if 0 < (l0.length : Int) then (wigeonref08_FromDividends.j0 k l0 ((rd l0 0) != 0)) else (none)) = some (r1, r2) := by rw [if_pos rfl] at H; exact H
    clear H
    have H := H1
    clear H1
    by_cases c7 : 0 < (l0.length : Int)
    ·rw [if_pos c7] at H
     have c7b0 : decide (0 < (l0.length : Int)) = true := decide_eq_true c7
     have c7b1 : decide (0 < l0.length) = true := decide_eq_true (by omega)
     clear c7
     have H' := Aside0.mk H
     clear H
     go_wp2_with (first | ((with_reducible refine gate_callee (f := 54) rfl ?_); refine goesL_ (some 9) rfl rfl Tryd.func54 (by kernel_rfl) rfl #[.int .i64 (l0.length : Int)] rfl (by (try simp only [List.map_toArray, List.map_cons, List.map_nil]); first | done | rfl | (simp only [List.length_drop, List.length_take]; rfl)) ?_; (with_reducible refine (wigeonref08_players.calls k (l0.length : Int) t600 _ A3.out).mono ?_); rintro e w' ⟨rfl, ⟨nd, rfl⟩⟩; refine ⟨_, rfl, ?_⟩) | (go_at_call 73; (with_reducible refine (wigeonref08_limited.calls k _ _ l0 1000000 true _ ?side1 ?side2 A5.out).mono ?_); (case side1 => repeat (first | exact (Kd.C_below HR0.out (by repeat (first | (with_reducible first | exact HB.out | apply below_alloc | apply pw_below_drewN | apply below_drew1) | exact HB.out))) | (with_reducible refine Kd.C_alloc ?_ _) | (with_reducible refine Kd.C_drewN ?_ _) | (with_reducible refine Kd.C_drew ?_))); (case side2 => exact HC0.out); rintro e w' ⟨rfl, ⟨nd, rfl⟩⟩; have p602 : 0 ≤ (0 : Int) := (by omega); have q602 : 0 < (l0.length : Int) := of_decide_eq_true (by first | (with_reducible assumption) | assumption); obtain ⟨ad602, e602, hx602_0⟩ := Kd.at_int HR0.out 0 p602 q602; cases e602; have qi602 : (0 < l0.length) = True := eq_true (by omega); (try rw [show ((0 : Int)).toNat = 0 from rfl] at hx602_0); (try rw [Addr.add_zero'] at hx602_0); replace hx602_0 := (HB.out.cell (World.block_lt_of_cell? w _ hx602_0)).trans hx602_0; replace p602 := eq_true p602; replace q602 := eq_true q602))
     go_meet
     case rel => exact ⟨_, (((rd l0 0) != 0)), (by first | rfl | (simp; done) | (simp [*]; done)), H', ⟨by first | omega | exact Nat.le_refl _⟩, ⟨by repeat (first | (with_reducible first | exact HB.out | apply below_alloc | apply pw_below_drewN | apply below_drew1) | exact HB.out)⟩⟩
    ·rw [if_neg c7] at H
     exact absurd H (by simp)
   ·replace c6 := Bool.eq_false_iff.mpr c6
    subst c6
    have H1 : (wigeonref08_FromDividends.j0 k l0 true) = some (r1, r2) := by rw [if_neg (show ¬ (false = true) by decide)] at H; exact H
    clear H
    have H := H1
    clear H1
    have H' := Aside0.mk H
    clear H
    go_wp2_with (first | ((with_reducible refine gate_callee (f := 54) rfl ?_); refine goesL_ (some 9) rfl rfl Tryd.func54 (by kernel_rfl) rfl #[.int .i64 (l0.length : Int)] rfl (by (try simp only [List.map_toArray, List.map_cons, List.map_nil]); first | done | rfl | (simp only [List.length_drop, List.length_take]; rfl)) ?_; (with_reducible refine (wigeonref08_players.calls k (l0.length : Int) t600 _ A3.out).mono ?_); rintro e w' ⟨rfl, ⟨nd, rfl⟩⟩; refine ⟨_, rfl, ?_⟩) | (go_at_call 73; (with_reducible refine (wigeonref08_limited.calls k _ _ l0 1000000 false _ ?side1 ?side2 A5.out).mono ?_); (case side1 => repeat (first | exact (Kd.C_below HR0.out (by repeat (first | (with_reducible first | exact HB.out | apply below_alloc | apply pw_below_drewN | apply below_drew1) | exact HB.out))) | (with_reducible refine Kd.C_alloc ?_ _) | (with_reducible refine Kd.C_drewN ?_ _) | (with_reducible refine Kd.C_drew ?_))); (case side2 => exact HC0.out); rintro e w' ⟨rfl, ⟨nd, rfl⟩⟩))
    go_meet
    case rel => exact ⟨_, (true), (by first | rfl | (simp; done) | (simp [*]; done)), H', ⟨by first | omega | exact Nat.le_refl _⟩, ⟨by repeat (first | (with_reducible first | exact HB.out | apply below_alloc | apply pw_below_drewN | apply below_drew1) | exact HB.out)⟩⟩
 case rest =>
  clear HC2
  try clear p2
  try clear c3
  try clear c4
  try clear c4b0
  try clear c5
  try clear c6
  try clear p6
  try clear q6
  try clear hx6
  try clear qi6
  try clear c7
  try clear c7b0
  try clear c7b1
  try clear hx602_0
  try clear p602
  try clear q602
  obtain ⟨kq, x21_1, rfl, HA, HJ1, HB⟩ := hcut
  cases kq with
  | zero => exact absurd HA.out (by simp [wigeonref08_FromDividends.j0])
  | succ kj1 =>
   have H := HA.out
   clear HA
   simp only [wigeonref08_FromDividends.j0] at H
   by_cases c8 : x21_1 = true
   ·subst c8
    have H1 : (some (([] : List Int), 1)) = some (r1, r2) := by rw [if_pos rfl] at H; exact H
    clear H
    have H := H1
    clear H1
    simp only [Option.some.injEq, Prod.mk.injEq] at H
    obtain ⟨rfl, rfl⟩ := H
    go_wp2
    go_ret2
    exact ⟨_, by first | rfl | (simp [errW_none, errW_some] <;> rfl) | (simp [*, errW_none, errW_some] <;> rfl), by first | exact Kd.R_nil _ _ _ _ _ | exact Kd.N_nil _ _ _ _ _ | exact Kd.V_nil _ _ _ _ _ | exact Kd.Q_nil _ _ _ _ _ | exact Kd.S_nil _ _ _ _ _, by repeat (first | (with_reducible first | exact HB.out | apply below_alloc | apply pw_below_drewN | apply below_drew1) | exact HB.out)⟩
   ·replace c8 := Bool.eq_false_iff.mpr c8
    subst c8
    have H1 : (if 0 ≤ (l0.length : Int) then (if ((l0.length : Int) : Int).toNat ≤ 35184372088832 then (wigeonref08_FromDividends.l0 kj1 l0 (List.replicate ((l0.length : Int) : Int).toNat 0) 0) else (none)) else (none)) = some (r1, r2) := by rw [if_neg (show ¬ (false = true) by decide)] at H; exact H
    clear H
    have H := H1
    clear H1
    by_cases c9 : 0 ≤ (l0.length : Int)
    ·rw [if_pos c9] at H
     have c9b0 := eq_true c9
     have c9b1 : decide (0 ≤ (l0.length : Int)) = true := decide_eq_true c9
     clear c9
     by_cases c10 : ((l0.length : Int) : Int).toNat ≤ 35184372088832
     ·rw [if_pos c10] at H
      have c10b0 := eq_true c10
      have c10b1 : decide (((l0.length : Int) : Int).toNat ≤ 35184372088832) = true := decide_eq_true c10
      clear c10
      obtain ⟨y603, hy603⟩ : ∃ y_ : List Int, y_ = (List.replicate ((l0.length : Int) : Int).toNat 0) := ⟨_, rfl⟩
      replace H : (wigeonref08_FromDividends.l0 kj1 l0 y603 0) = some (r1, r2) := by first | (rw [hy603]; with_reducible exact H) | (have H2_ := (Option.bind_some _ _).symm.trans H; rw [hy603]; with_reducible exact H2_) | (have H2_ := (Option.bind_some _ _).symm.trans H; with_reducible exact H2_) | with_reducible exact H | (rw [hy603]; exact H) | exact H
      have Ny603 := Aside0.mk hy603
      clear hy603
      have H' := Aside0.mk H
      clear H
      go_wp2_with (first | ((with_reducible refine gate_dst (N := 24) rfl ?_); refine Kd.R_make (Kd.int .i64) _ 3 rfl (N := 24) rfl 22 _ _ rfl (l0.length : Int) rfl rfl Tryd.underlying22 (.int .i64 0) 8 info3 rfl (by decide) (by omega) 0 (ok := fun _ => True) (okp := fun _ => True) rfl (fun _ hk => hk) trivial (of_decide_eq_true (by first | (with_reducible assumption) | assumption)) (Nat.le_trans (Nat.mul_le_mul_right _ (of_decide_eq_true (by first | (with_reducible assumption) | assumption) : (l0.length : Int).toNat ≤ 35184372088832)) (by omega)) (Below.refl _ _) (Nat.le_refl _) ?_; intro v604 w11 ho12 hb hg_ hnew_; clear hg_ hnew_; (first | rw [← Ny603.out] at ho12 | (simp only [Int.reduceToNat] at ho12; rw [← Ny603.out] at ho12)); have n0_ := Aside0.mk (Kd.R_lower ho12 (below_size (by repeat (first | (with_reducible first | exact HB.out | apply below_alloc | apply pw_below_drewN | apply below_drew1) | exact HB.out)))); have n1_ := Aside0.mk (below_step (by repeat (first | (with_reducible first | exact HB.out | apply below_alloc | apply pw_below_drewN | apply below_drew1) | exact HB.out)) hb); clear HB; have HO605 := n0_; have HB := n1_; clear n0_ n1_; clear hb ho12))
      go_loopg [5] kj1 (fun kq v5 w' => ∃ (x4_2 : List Int) (x5_2 : Int), v5 = .int .i64 x5_2 ∧ Aside0 (wigeonref08_FromDividends.l0 kq l0 x4_2 x5_2 = some (r1, r2)) ∧ Aside0 (kq ≤ kj1) ∧ Aside0 (Kd.R (Kd.int .i64) 3 w' w.heap.size (fun _ => True) v604 x4_2) ∧ Aside0 (Below w.heap.size w w'))
      case atStart => exact ⟨(y603), (0), (by first | rfl | (simp; done) | (simp [*]; done)), H', ⟨Nat.le_refl _⟩, ⟨by (with_reducible repeat (first | apply Kd.R_alloc | apply Kd.R_drewN | apply Kd.R_drew)); exact HO605.out⟩, ⟨by repeat (first | (with_reducible first | exact HB.out | apply below_alloc | apply pw_below_drewN | apply below_drew1) | exact HB.out)⟩⟩
      case round =>
       clear H'
       try clear c1
       try clear p2
       try clear c3
       try clear c4
       try clear c4b0
       try clear c5
       try clear c6
       try clear p6
       try clear q6
       try clear hx6
       try clear qi6
       try clear c7
       try clear c7b0
       try clear c7b1
       try clear c8
       try clear c9
       try clear c9b0
       try clear c9b1
       try clear c10
       try clear c10b0
       try clear c10b1
       try clear hx602_0
       try clear p2
       try clear p6
       try clear p602
       try clear q6
       try clear q602
       obtain ⟨x4_2, x5_2, rfl, HA, HK2, HO_4, HB⟩ := hrel
       cases gk with
       | zero => exact absurd HA.out (by simp [wigeonref08_FromDividends.l0])
       | succ k2 =>
        have H := HA.out
        clear HA
        simp only [wigeonref08_FromDividends.l0] at H
        by_cases c13 : x5_2 < (l0.length : Int)
        ·rw [if_pos c13] at H
         have c13b0 : decide (x5_2 < (l0.length : Int)) = true := decide_eq_true c13
         clear c13
         have H' := Aside0.mk H
         clear H
         go_wp2
         go_loopg [6] k2 (fun kq v6 w' => ∃ (x4_3 : List Int) (x6_3 : Int), v6 = .int .i64 x6_3 ∧ Aside0 (wigeonref08_FromDividends.l1 kq l0 x4_3 x5_2 x6_3 = some (r1, r2)) ∧ Aside0 (kq ≤ k2) ∧ Aside0 (Kd.R (Kd.int .i64) 3 w' w.heap.size (fun _ => True) v604 x4_3) ∧ Aside0 (Below w.heap.size w w'))
         case atStart => exact ⟨(x4_2), (0), (by first | rfl | (simp; done) | (simp [*]; done)), H', ⟨Nat.le_refl _⟩, ⟨by (with_reducible repeat (first | apply Kd.R_alloc | apply Kd.R_drewN | apply Kd.R_drew)); exact HO_4.out⟩, ⟨by repeat (first | (with_reducible first | exact HB.out | apply below_alloc | apply pw_below_drewN | apply below_drew1) | exact HB.out)⟩⟩
         case round =>
          clear H'
          try clear c1
          try clear p2
          try clear c3
          try clear c4
          try clear c4b0
          try clear c5
          try clear c6
          try clear p6
          try clear q6
          try clear hx6
          try clear qi6
          try clear c7
          try clear c7b0
          try clear c7b1
          try clear c8
          try clear c9
          try clear c9b0
          try clear c9b1
          try clear c10
          try clear c10b0
          try clear c10b1
          try clear c13
          try clear c13b0
          try clear hx602_0
          try clear p2
          try clear p6
          try clear p602
          try clear q6
          try clear q602
          obtain ⟨x4_3, x6_3, rfl, HA, HK3, HO_4, HB⟩ := hrel
          cases gk with
          | zero => exact absurd HA.out (by simp [wigeonref08_FromDividends.l1])
          | succ k3 =>
           have H := HA.out
           clear HA
           simp only [wigeonref08_FromDividends.l1] at H
           by_cases c14 : x6_3 ≤ x5_2
           ·rw [if_pos c14] at H
            have c14b0 : decide (x6_3 ≤ x5_2) = true := decide_eq_true c14
            clear c14
            replace H := Option.bind_eq_some_iff.mp H
            obtain ⟨t610, A150, H⟩ := H
            replace H : (if t610 = true then (if 0 ≤ x5_2 then (if x5_2 < (x4_3.length : Int) then (if 0 ≤ x6_3 then (if x6_3 < (l0.length : Int) then (wigeonref08_FromDividends.l1 k3 l0 (x4_3.set (x5_2 : Int).toNat (wrap64 ((rd x4_3 x5_2) + (rd l0 x6_3)))) x5_2 (wrap64 (x6_3 + 1))) else (none)) else (none)) else (none)) else (none)) else (wigeonref08_FromDividends.l1 k3 l0 x4_3 x5_2 (wrap64 (x6_3 + 1)))) = some (r1, r2) := H
            have A15 := Aside0.mk A150
            clear A150
            by_cases c16 : t610 = true
            ·subst c16
             have H1 : (if 0 ≤ x5_2 then (if x5_2 < (x4_3.length : Int) then (if 0 ≤ x6_3 then (if x6_3 < (l0.length : Int) then (wigeonref08_FromDividends.l1 k3 l0 (x4_3.set (x5_2 : Int).toNat (wrap64 ((rd x4_3 x5_2) + (rd l0 x6_3)))) x5_2 (wrap64 (x6_3 + 1))) else (none)) else (none)) else (none)) else (none)) = some (r1, r2) := by rw [if_pos rfl] at H; exact H
             clear H
             have H := H1
             clear H1
             by_cases c17 : 0 ≤ x5_2
             ·rw [if_pos c17] at H
              have c17b0 : decide (0 ≤ x5_2) = true := decide_eq_true c17
              clear c17
              by_cases c18 : x5_2 < (x4_3.length : Int)
              ·rw [if_pos c18] at H
               have c18b0 : decide (x5_2 < (x4_3.length : Int)) = true := decide_eq_true c18
               clear c18
               by_cases c19 : 0 ≤ x6_3
               ·rw [if_pos c19] at H
                have c19b0 : decide (0 ≤ x6_3) = true := decide_eq_true c19
                clear c19
                by_cases c20 : x6_3 < (l0.length : Int)
                ·rw [if_pos c20] at H
                 have c20b0 : decide (x6_3 < (l0.length : Int)) = true := decide_eq_true c20
                 clear c20
                 obtain ⟨y613, hy613⟩ : ∃ y_ : List Int, y_ = (x4_3.set (x5_2 : Int).toNat (wrap64 ((rd x4_3 x5_2) + (rd l0 x6_3)))) := ⟨_, rfl⟩
                 replace H : (wigeonref08_FromDividends.l1 k3 l0 y613 x5_2 (wrap64 (x6_3 + 1))) = some (r1, r2) := by first | (rw [hy613]; with_reducible exact H) | (have H2_ := (Option.bind_some _ _).symm.trans H; rw [hy613]; with_reducible exact H2_) | (have H2_ := (Option.bind_some _ _).symm.trans H; with_reducible exact H2_) | with_reducible exact H | (rw [hy613]; exact H) | exact H
                 have Ny613 := Aside0.mk hy613
                 clear hy613
                 have H' := Aside0.mk H
                 clear H
                 try go_wp2_with (first | ((with_reducible refine gate_callee (f := 74) rfl ?_); refine goesL_ (some 38) rfl rfl Tryd.func74 (by kernel_rfl) rfl #[.int .i64 x6_3, .int .i64 x5_2] rfl (by (try simp only [List.map_toArray, List.map_cons, List.map_nil]); first | done | rfl | (simp only [List.length_drop, List.length_take]; rfl)) ?_; (with_reducible refine (wigeonref08_part.calls x6_3 x5_2 true _ A15.out).mono ?_); rintro e w' ⟨rfl, ⟨nd, rfl⟩⟩; refine ⟨_, rfl, ?_⟩; (try (rw [drewN_self wr]; generalize hq_ : World.drewN wr _ = wr; have n0_ : Aside0 (Kd.R (Kd.int .i64) 3 wr w.heap.size (fun _ => True) v604 x4_3) := ⟨by rw [← hq_]; exact (by (with_reducible repeat (first | apply Kd.R_alloc | apply Kd.R_drewN | apply Kd.R_drew)); exact HO_4.out)⟩; have n1_ : Aside0 (Below w.heap.size w wr) := ⟨by rw [← hq_]; exact (by repeat (first | (with_reducible first | exact HB.out | apply below_alloc | apply pw_below_drewN | apply below_drew1) | exact HB.out))⟩; clear HO_4 HB hq_; have HO_4 := n0_; have HB := n1_; clear n0_ n1_))))
                 have n0_ := Aside0.mk (Kd.R_drew HO_4.out)
                 have n1_ := Aside0.mk (below_drew1 HB.out)
                 clear HO_4
                 clear HB
                 have HO_4 := n0_
                 have HB := n1_
                 clear n0_ n1_
                 obtain ⟨Ao23, co23, eo23⟩ := Kd.R_slice HO_4.out
                 (first | subst eo23 | (injection eo23 with f1_ f2_ f3_; have f4_ := f1_.symm; have f5_ := f3_.symm; clear f1_ f2_ f3_; subst f4_; subst f5_))
                 have p611 : 0 ≤ (x5_2 : Int) := of_decide_eq_true (by first | (with_reducible assumption) | assumption)
                 have q611 : x5_2 < (x4_3.length : Int) := of_decide_eq_true (by first | (with_reducible assumption) | assumption)
                 obtain ⟨ad611, e611, hx611_0⟩ := Kd.at_int (Kd.R_reads' HO_4.out).2.2 x5_2 p611 q611
                 cases e611
                 replace p611 := eq_true p611
                 replace q611 := eq_true q611
                 have p612 : 0 ≤ (x6_3 : Int) := of_decide_eq_true (by first | (with_reducible assumption) | assumption)
                 have q612 : x6_3 < (l0.length : Int) := of_decide_eq_true (by first | (with_reducible assumption) | assumption)
                 obtain ⟨ad612, e612, hx612_0⟩ := Kd.at_int HR0.out x6_3 p612 q612
                 have hw612_0 := hx612_0
                 cases e612
                 replace hx612_0 := (HB.out.cell (World.block_lt_of_cell? w _ hx612_0)).trans hx612_0
                 replace p612 := eq_true p612
                 replace q612 := eq_true q612
                 have p21 : 0 ≤ (x5_2 : Int) := of_decide_eq_true (by first | (with_reducible assumption) | assumption)
                 have q21 : (x5_2 : Int) < ((x4_3.length : Int) : Int) := of_decide_eq_true (by first | (with_reducible assumption) | assumption)
                 obtain ⟨go21, co21, eo21, gb21, gl21, cl21, HG21⟩ := Kd.R_form HO_4.out (by omega)
                 (first | cases eo21 | (injection eo21 with ea_ en_ ec_; (first | subst ea_ | (injection ea_ with ea_; subst ea_)); subst ec_; clear en_))
                 have GB21 := Aside0.mk gb21
                 have GG21 := Aside0.mk HG21
                 clear gb21 gl21 HG21
                 (first | simp only [add_plain] at hx611_0 | skip)
                 obtain ⟨hx21_0, hf21_0⟩ := Kd.R_celln 0 HO_4.out (x5_2 : Int) p21 q21
                 replace p21 := eq_true p21
                 replace q21 := eq_true q21
                 have HP24 := Kd.R_putn HO_4.out (x5_2 : Int) (wrap64 ((rd x4_3 x5_2) + (rd l0 x6_3)))
                 rw [← Ny613.out] at HP24
                 have HQ24 := Aside0.mk HP24
                 clear HP24
                 refine start_ (n := 11) (S := fun w' => w'.cell? ⟨go21, (x5_2).toNat, none⟩ = some (.int .i64 (rd x4_3 x5_2)) ∧ w'.cell? (ad612.add (x6_3).toNat) = some (.int .i64 (rd l0 x6_3))) (ds := [10]) #[false, false, false, false, false, false, false, false, false, false, false] (by kernel_rfl) rfl rfl ⟨hx611_0, ((HB.out.cell (World.block_lt_of_cell? w _ hw612_0)).trans hw612_0)⟩ (fun hHeld => ?_); refine with_tabW wigeonref08_FromDividends.tab11 wigeonref08_FromDividends.bits11 (fun HT_ HW_ => ?_)
                 generalize wr.drew = w22 at HO_4 HB GG21 HQ24 hf21_0 hx21_0 hx611_0 hx612_0 hHeld ⊢
                 refine pure_ (i := 0) (N := some 39) (v := ?_) (a' := ?_) #[true, false, false, false, false, false, false, false, false, false, false] rfl rfl (any_of HT_.out (by kernel_rfl)) (fun _ _ _ h => h) (Or.inl ⟨by rfl, ?_⟩) ?_ ?_
                 rotate_left
                 ·intro w'
                  go_simp
                  with_reducible rfl
                 rotate_left
                 ·simp only [Act.put, List.setIfInBounds_toArray, List.set_cons_zero, List.set_cons_succ, i64_w, i32_w]
                  rfl
                 refine pure_ (i := 1) (N := some 40) (v := ?_) (a' := ?_) #[true, true, false, false, false, false, false, false, false, false, false] rfl rfl (any_of HT_.out (by kernel_rfl)) (fun _ _ _ h => h) (Or.inl ⟨by rfl, ?_⟩) ?_ ?_
                 rotate_left
                 ·intro w'
                  go_simp
                  with_reducible rfl
                 rotate_left
                 ·simp only [Act.put, List.setIfInBounds_toArray, List.set_cons_zero, List.set_cons_succ, i64_w, i32_w]
                  rfl
                 refine pure_ (i := 2) (N := some 41) (v := ?_) (a' := ?_) #[true, true, true, false, false, false, false, false, false, false, false] rfl rfl (any_of HT_.out (by kernel_rfl)) (fun _ _ _ h => h) (Or.inl ⟨by rfl, ?_⟩) ?_ ?_
                 rotate_left
                 ·intro w'
                  go_simp
                  with_reducible rfl
                 rotate_left
                 ·simp only [Act.put, List.setIfInBounds_toArray, List.set_cons_zero, List.set_cons_succ, i64_w, i32_w]
                  rfl
                 refine pure_ (i := 4) (N := some 43) (v := ?_) (a' := ?_) #[true, true, true, false, true, false, false, false, false, false, false] rfl rfl (any_of HT_.out (by kernel_rfl)) (fun _ _ _ h => h) (Or.inl ⟨by rfl, ?_⟩) ?_ ?_
                 rotate_left
                 ·intro w'
                  go_simp
                  with_reducible rfl
                 rotate_left
                 ·simp only [Act.put, List.setIfInBounds_toArray, List.set_cons_zero, List.set_cons_succ, i64_w, i32_w]
                  rfl
                 refine pure_ (i := 5) (N := some 44) (v := ?_) (a' := ?_) #[true, true, true, false, true, true, false, false, false, false, false] rfl rfl (any_of HT_.out (by kernel_rfl)) (fun _ _ _ h => h) (Or.inl ⟨by rfl, ?_⟩) ?_ ?_
                 rotate_left
                 ·intro w'
                  go_simp
                  with_reducible rfl
                 rotate_left
                 ·simp only [Act.put, List.setIfInBounds_toArray, List.set_cons_zero, List.set_cons_succ, i64_w, i32_w]
                  rfl
                 refine pure_ (i := 6) (N := some 45) (v := ?_) (a' := ?_) #[true, true, true, false, true, true, true, false, false, false, false] rfl rfl (any_of HT_.out (by kernel_rfl)) (fun _ _ _ h => h) (Or.inl ⟨by rfl, ?_⟩) ?_ ?_
                 rotate_left
                 ·intro w'
                  go_simp
                  with_reducible rfl
                 rotate_left
                 ·simp only [Act.put, List.setIfInBounds_toArray, List.set_cons_zero, List.set_cons_succ, i64_w, i32_w]
                  rfl
                 refine take_ (i := 3) (N := some 42) (v := ?_) (a' := ?_) #[true, true, true, true, true, true, true, false, false, false, false] rfl rfl (take_ofW HT_.out HW_.out (by kernel_rfl)) (fun _ _ _ h => h) (Or.inl ⟨by rfl, ?_⟩) hHeld ?_ ?_
                 rotate_left
                 ·rintro w' ⟨s0, s1⟩
                  go_simp
                  with_reducible rfl
                 rotate_left
                 ·simp only [Act.put, List.setIfInBounds_toArray, List.set_cons_zero, List.set_cons_succ, i64_w, i32_w]
                  rfl
                 refine take_ (i := 7) (N := some 46) (v := ?_) (a' := ?_) #[true, true, true, true, true, true, true, true, false, false, false] rfl rfl (take_ofW HT_.out HW_.out (by kernel_rfl)) (fun _ _ _ h => h) (Or.inl ⟨by rfl, ?_⟩) hHeld ?_ ?_
                 rotate_left
                 ·rintro w' ⟨s0, s1⟩
                  go_simp
                  with_reducible rfl
                 rotate_left
                 ·simp only [Act.put, List.setIfInBounds_toArray, List.set_cons_zero, List.set_cons_succ, i64_w, i32_w]
                  rfl
                 refine pure_ (i := 8) (N := some 47) (v := ?_) (a' := ?_) #[true, true, true, true, true, true, true, true, true, false, false] rfl rfl (any_of HT_.out (by kernel_rfl)) (fun _ _ _ h => h) (Or.inl ⟨by rfl, ?_⟩) ?_ ?_
                 rotate_left
                 ·intro w'
                  go_simp
                  with_reducible rfl
                 rotate_left
                 ·simp only [Act.put, List.setIfInBounds_toArray, List.set_cons_zero, List.set_cons_succ, i64_w, i32_w]
                  rfl
                 refine pure_ (i := 9) (N := some 48) (v := ?_) (a' := ?_) #[true, true, true, true, true, true, true, true, true, true, false] rfl rfl (any_of HT_.out (by kernel_rfl)) (fun _ _ _ h => h) (Or.inl ⟨by rfl, ?_⟩) ?_ ?_
                 rotate_left
                 ·intro w'
                  go_simp
                  with_reducible rfl
                 rotate_left
                 ·simp only [Act.put, List.setIfInBounds_toArray, List.set_cons_zero, List.set_cons_succ, i64_w, i32_w]
                  rfl
                 refine last_ (i := 10) (N := none) #[true, true, true, true, true, true, true, true, true, true, true] rfl rfl (one_of HT_.out (by kernel_rfl)) (by decide) (fun K hK => ?_)
                 refine skip_ (w1 := ?_) (by rfl) rfl ?_ ?_
                 rotate_left
                 ·go_simp
                  rfl
                 refine hK.out _ _ ?_
                 clear hK K
                 refine done_ (done_of HT_.out (by kernel_rfl)) ?_
                 try go_wp2
                 go_roundg k3
                 case measure => have := HJ1.out; have := HK2.out; have := HK3.out; omega
                 case rel => exact ⟨(y613), (wrap64 (x6_3 + 1)), (by first | rfl | (simp; done) | (simp [*]; done)), H', ⟨by have := HJ1.out; have := HK2.out; have := HK3.out; omega⟩, ⟨by (with_reducible repeat (first | apply Kd.R_alloc | apply Kd.R_drewN | apply Kd.R_drew)); exact HQ24.out⟩, ⟨by repeat (first | (with_reducible first | exact HB.out | apply below_alloc | apply pw_below_drewN | apply below_drew1 | refine below_set ?_ GB21.out) | exact HB.out)⟩⟩
                ·rw [if_neg c20] at H
                 exact absurd H (by simp)
               ·rw [if_neg c19] at H
                exact absurd H (by simp)
              ·rw [if_neg c18] at H
               exact absurd H (by simp)
             ·rw [if_neg c17] at H
              exact absurd H (by simp)
            ·replace c16 := Bool.eq_false_iff.mpr c16
             subst c16
             have H1 : (wigeonref08_FromDividends.l1 k3 l0 x4_3 x5_2 (wrap64 (x6_3 + 1))) = some (r1, r2) := by rw [if_neg (show ¬ (false = true) by decide)] at H; exact H
             clear H
             have H := H1
             clear H1
             have H' := Aside0.mk H
             clear H
             go_wp2_with (first | ((with_reducible refine gate_callee (f := 74) rfl ?_); refine goesL_ (some 38) rfl rfl Tryd.func74 (by kernel_rfl) rfl #[.int .i64 x6_3, .int .i64 x5_2] rfl (by (try simp only [List.map_toArray, List.map_cons, List.map_nil]); first | done | rfl | (simp only [List.length_drop, List.length_take]; rfl)) ?_; (with_reducible refine (wigeonref08_part.calls x6_3 x5_2 false _ A15.out).mono ?_); rintro e w' ⟨rfl, ⟨nd, rfl⟩⟩; refine ⟨_, rfl, ?_⟩))
             go_roundg k3
             case measure => have := HJ1.out; have := HK2.out; have := HK3.out; omega
             case rel => exact ⟨(x4_3), (wrap64 (x6_3 + 1)), (by first | rfl | (simp; done) | (simp [*]; done)), H', ⟨by have := HJ1.out; have := HK2.out; have := HK3.out; omega⟩, ⟨by (with_reducible repeat (first | apply Kd.R_alloc | apply Kd.R_drewN | apply Kd.R_drew)); exact HO_4.out⟩, ⟨by repeat (first | (with_reducible first | exact HB.out | apply below_alloc | apply pw_below_drewN | apply below_drew1) | exact HB.out)⟩⟩
           ·rw [if_neg c14] at H
            have c14b0 : decide (x6_3 ≤ x5_2) = false := decide_eq_false c14
            clear c14
            have H' := Aside0.mk H
            clear H
            go_wp2
            go_roundg k3
            case measure => have := HJ1.out; have := HK2.out; have := HK3.out; omega
            case rel => exact ⟨(x4_3), (wrap64 (x5_2 + 1)), (by first | rfl | (simp; done) | (simp [*]; done)), H', ⟨by have := HJ1.out; have := HK2.out; have := HK3.out; omega⟩, ⟨by (with_reducible repeat (first | apply Kd.R_alloc | apply Kd.R_drewN | apply Kd.R_drew)); exact HO_4.out⟩, ⟨by repeat (first | (with_reducible first | exact HB.out | apply below_alloc | apply pw_below_drewN | apply below_drew1) | exact HB.out)⟩⟩
        ·rw [if_neg c13] at H
         have c13b0 : decide (x5_2 < (l0.length : Int)) = false := decide_eq_false c13
         clear c13
         replace H := Option.bind_eq_some_iff.mp H
         obtain ⟨⟨t606, t609⟩, A250, H⟩ := H
         replace H : (some (t606, t609)) = some (r1, r2) := H
         have A25 := Aside0.mk A250
         clear A250
         simp only [Option.some.injEq, Prod.mk.injEq] at H
         obtain ⟨rfl, rfl⟩ := H
         obtain ⟨Ao26, co26, eo26⟩ := Kd.R_slice HO_4.out
         subst eo26
         go_wp2_with (first | ((with_reducible refine gate_callee (f := 71) rfl ?_); refine goesL_ (some 50) rfl rfl Tryd.func71 (by kernel_rfl) rfl #[.slice Ao26 x4_2.length co26] rfl (by (try simp only [List.map_toArray, List.map_cons, List.map_nil]); first | done | rfl | (simp only [List.length_drop, List.length_take]; rfl)) ?_; (with_reducible refine (wigeonref08_told.calls k2 (fun k_ => some k_ = (.slice Ao26 x4_2.length co26 : Value).ownBlock) (.slice Ao26 x4_2.length co26) x4_2 t606 t609 w _ ?side1 ?side2 A25.out).mono ?_); (case side1 => repeat (first | (with_reducible first | exact HB.out | apply below_alloc | apply pw_below_drewN | apply below_drew1) | exact HB.out)); (case side2 => exact Kd.R_tight rfl HO_4.out); rintro e w27 ⟨v607, rfl, ho0, hb, hkp⟩; refine ⟨_, rfl, ?_⟩; have n0_ := Aside0.mk (Kd.R_mono (ok' := fun k_ => True) ho0 (fun k_ hk_ => trivial)); have n1_ := Aside0.mk (hb); clear HB; clear HO_4; have HO608 := n0_; have HB := n1_; clear n0_ n1_; (try clear hb); (try clear hkp); (try clear ho0)))
         go_ret2
         exact ⟨_, by first | rfl | (simp [errW_none, errW_some] <;> rfl) | (simp [*, errW_none, errW_some] <;> rfl), by (with_reducible repeat (first | apply Kd.R_alloc | apply Kd.R_drewN | apply Kd.R_drew)); exact HO608.out, by repeat (first | (with_reducible first | exact HB.out | apply below_alloc | apply pw_below_drewN | apply below_drew1) | exact HB.out)⟩
     ·rw [if_neg c10] at H
      exact absurd H (by simp)
    ·rw [if_neg c9] at H
     exact absurd H (by simp)

end Go.Proofs.YtjphklemnhgkiaaDoor.Q
