-- Written by a program of this session (wip/tools/gprint.py, over the kit's print); Lean checks it.
import Derived.Test.YtjphklemnhgkiaaDoorPuA
import Derived.Test.YtjphklemnhgkiaaDoorQx0
import Derived.Test.YtjphklemnhgkiaaDoorQx2
import Derived.Test.YtjphklemnhgkiaaDoorQx4
import Derived.Test.YtjphklemnhgkiaaDoorQx20
namespace Go.Proofs.YtjphklemnhgkiaaDoor.Q
open Go.RowKit Go.Proofs.YtjphklemnhgkiaaDoorW.PrintWords Go.Proofs.YtjphklemnhgkiaaDoorW.PrintLast Go.Proofs.YtjphklemnhgkiaaDoorW.PrintMore
attribute [local go_sem] max2_int min2_int max_two min_two max_three min_three max_four min_four   -- for this text's walks alone
set_option linter.unusedVariables false
set_option linter.unusedSimpArgs false

/-! ### purse_FromDividends: function 36 -/
mutual
def purse_FromDividends.j0 : Nat → List Int → Bool → Option (List Int × Int)
 | 0, _, _ => none
 | k + 1, x0, x21 => if x21 = true then (some (([] : List Int), 1)) else ((slices_Clone.f x0).bind fun t588 => ((purse_players.f x0).bind fun t591 => (purse_FromDividends.l0 k t588 t591 0)))
def purse_FromDividends.l0 : Nat → List Int → Int → Int → Option (List Int × Int)
 | 0, _, _, _ => none
 | k + 1, x4, x25, x26 => if x26 < x25 then (purse_FromDividends.l1 k x4 x26 x25 x26 (x4.length : Int) 0) else ((purse_limited.f x4).bind fun bt592 => (some (bt592.1, bt592.2)))
def purse_FromDividends.l1 : Nat → List Int → Int → Int → Int → Int → Int → Option (List Int × Int)
 | 0, _, _, _, _, _, _ => none
 | k + 1, x4, x5, x25, x26, x30, x31 => if x31 < x30 then ((purse_player_in.f x5 x31).bind fun t596 => (if t596 = true then (if 0 ≤ x31 then (if x31 < (x4.length : Int) then (if 0 ≤ x5 then (if 0 ≤ (Go.bits .andNot .i64 x31 (shl .i64 1 x5)) then (if (Go.bits .andNot .i64 x31 (shl .i64 1 x5)) < (x4.length : Int) then (purse_FromDividends.l1 k (x4.set (x31 : Int).toNat (wrap64 ((rd x4 x31) + (rd x4 (Go.bits .andNot .i64 x31 (shl .i64 1 x5)))))) x5 x25 x26 x30 (wrap64 (x31 + 1))) else (none)) else (none)) else (none)) else (none)) else (none)) else (purse_FromDividends.l1 k x4 x5 x25 x26 x30 (wrap64 (x31 + 1))))) else (purse_FromDividends.l0 k x4 x25 (wrap64 (x26 + 1)))
end
def purse_FromDividends.f (k : Nat) (l0 : List Int) : Option (List Int × Int) := (purse_isCount.f (l0.length : Int)).bind fun t585 => (if t585 = true then (if 0 < (l0.length : Int) then (if (rd l0 0) = 0 then ((purse_badD.f l0).bind fun t587 => (purse_FromDividends.j0 k l0 t587)) else (purse_FromDividends.j0 k l0 true)) else (none)) else (purse_FromDividends.j0 k l0 true))
theorem purse_FromDividends.mono_l : ∀ k, (∀ y0 y1, LeO (purse_FromDividends.j0 k y0 y1) (purse_FromDividends.j0 (k + 1) y0 y1)) ∧ (∀ y0 y1 y2, LeO (purse_FromDividends.l0 k y0 y1 y2) (purse_FromDividends.l0 (k + 1) y0 y1 y2)) ∧ (∀ y0 y1 y2 y3 y4 y5, LeO (purse_FromDividends.l1 k y0 y1 y2 y3 y4 y5) (purse_FromDividends.l1 (k + 1) y0 y1 y2 y3 y4 y5))
 | 0 => ⟨fun _ _ r h => by simp [purse_FromDividends.j0] at h, fun _ _ _ r h => by simp [purse_FromDividends.l0] at h, fun _ _ _ _ _ _ r h => by simp [purse_FromDividends.l1] at h⟩
 | k + 1 => by
  obtain ⟨ih0, ih1, ih2⟩ := purse_FromDividends.mono_l k
  refine ⟨?_, ?_, ?_⟩
  ·intro y0 y1
   unfold purse_FromDividends.j0
   repeat' first
   | (with_reducible exact ih0 _ _)
   | (with_reducible exact ih1 _ _ _)
   | (with_reducible exact ih2 _ _ _ _ _ _)
   | (with_reducible exact LeO.refl _)
   | (with_reducible exact LeO.none _)
   | (with_reducible refine LeO.ite ?_ ?_)
   | (with_reducible refine LeO.bind ?_ (fun _ => ?_))
   | exact ih0 _ _
   | exact ih1 _ _ _
   | exact ih2 _ _ _ _ _ _
   | exact LeO.none _
   | refine LeO.ite ?_ ?_
   | refine LeO.bind ?_ (fun _ => ?_)
  ·intro y0 y1 y2
   unfold purse_FromDividends.l0
   repeat' first
   | (with_reducible exact ih0 _ _)
   | (with_reducible exact ih1 _ _ _)
   | (with_reducible exact ih2 _ _ _ _ _ _)
   | (with_reducible exact LeO.refl _)
   | (with_reducible exact LeO.none _)
   | (with_reducible refine LeO.ite ?_ ?_)
   | (with_reducible refine LeO.bind ?_ (fun _ => ?_))
   | exact ih0 _ _
   | exact ih1 _ _ _
   | exact ih2 _ _ _ _ _ _
   | exact LeO.none _
   | refine LeO.ite ?_ ?_
   | refine LeO.bind ?_ (fun _ => ?_)
  ·intro y0 y1 y2 y3 y4 y5
   unfold purse_FromDividends.l1
   repeat' first
   | (with_reducible exact ih0 _ _)
   | (with_reducible exact ih1 _ _ _)
   | (with_reducible exact ih2 _ _ _ _ _ _)
   | (with_reducible exact LeO.refl _)
   | (with_reducible exact LeO.none _)
   | (with_reducible refine LeO.ite ?_ ?_)
   | (with_reducible refine LeO.bind ?_ (fun _ => ?_))
   | exact ih0 _ _
   | exact ih1 _ _ _
   | exact ih2 _ _ _ _ _ _
   | exact LeO.none _
   | refine LeO.ite ?_ ?_
   | refine LeO.bind ?_ (fun _ => ?_)
theorem purse_FromDividends.mono : ∀ a0 k, LeO (purse_FromDividends.f k a0) (purse_FromDividends.f (k + 1) a0) := by
 intro a0 k
 obtain ⟨ih0, ih1, ih2⟩ := purse_FromDividends.mono_l k
 unfold purse_FromDividends.f
 repeat' first
   | (with_reducible exact ih0 _ _)
   | (with_reducible exact ih1 _ _ _)
   | (with_reducible exact ih2 _ _ _ _ _ _)
   | (with_reducible exact LeO.refl _)
   | (with_reducible exact LeO.none _)
   | (with_reducible refine LeO.ite ?_ ?_)
   | (with_reducible refine LeO.bind ?_ (fun _ => ?_))
   | exact ih0 _ _
   | exact ih1 _ _ _
   | exact ih2 _ _ _ _ _ _
   | exact LeO.none _
   | refine LeO.ite ?_ ?_
   | refine LeO.bind ?_ (fun _ => ?_)
def purse_FromDividends.T12 : Bool × List (List Nat × List Nat) := (true, [([], []), ([], []), ([0, 1], [0, 1]), ([2], [2]), ([], []), ([], []), ([], []), ([6], [6]), ([5, 7], [5, 7]), ([4, 8], [4, 8]), ([9], [9]), ([3, 10], [3, 10]), ([0, 1, 0, 1, 2, 3, 4, 5, 6, 7, 8, 9, 10, 11], [0, 1]), ([12, 11, 0, 1, 2, 3, 4, 5, 6, 7, 8, 9, 10, 11], [11, 12])])
def purse_FromDividends.B12 : List Nat := [0, 0, 3, 7, 0, 0, 0, 64, 224, 496, 1008, 2047, 4095, 8191]
theorem purse_FromDividends.tab12 : rtab .any (opsOf Tryd.f36 12) = purse_FromDividends.T12 := by kernel_rfl
theorem purse_FromDividends.bits12 : waitsOk purse_FromDividends.T12.2 purse_FromDividends.B12 = true := by kernel_rfl
set_option maxHeartbeats 8000000 in
set_option maxRecDepth 100000 in
theorem purse_FromDividends.calls (k : Nat) (A0 : Option Addr) (c0 : Nat) (l0 : List Int) (r1 : List Int) (r2 : Int) (w : World) (hr0 : Kd.C (Kd.int .i64) w A0 l0.length l0) (hc0 : l0.length ≤ c0) (h : purse_FromDividends.f k l0 = some (r1, r2)) (hT : BitsW w := by first | exact HT.out | exact HT.out.below HB.out | exact HT.out.below (by repeat (first | (with_reducible first | exact HB.out | exact Below.refl _ _ | apply below_alloc | apply pw_below_drewN | apply below_drew1) | exact HB.out))) :
  Calls Tryd.prog 36 #[.slice A0 l0.length c0] w fun e w' => ∃ v0_ : Value, e = .returned (.tuple #[v0_, .int .i64 r2]) ∧ Kd.R (Kd.int .i64) 3 w' w.heap.size (fun _ => True) v0_ r1 ∧ Below w.heap.size w w' := by
 have HT := Lib.hid hT
 clear hT
 have HR0 := Aside0.mk hr0
 have HC0 := Aside0.mk hc0
 clear hr0 hc0
 have HB := Aside0.mk (Below.refl w.heap.size w)
 have H : ((purse_isCount.f (l0.length : Int)).bind fun t585 => (if t585 = true then (if 0 < (l0.length : Int) then (if (rd l0 0) = 0 then ((purse_badD.f l0).bind fun t587 => (purse_FromDividends.j0 k l0 t587)) else (purse_FromDividends.j0 k l0 true)) else (none)) else (purse_FromDividends.j0 k l0 true))) = some (r1, r2) := h
 clear h
 have HC2 := Aside0.mk H
 clear H
 go_enter Tryd.func36, Tryd.ntmps36
 go_upto_region 1 with (fail)
 go_cut [21] (fun v21 wc => ∃ (kq : Nat) (x21_1 : Bool), v21 = .bool x21_1 ∧ Aside0 (purse_FromDividends.j0 kq l0 x21_1 = some (r1, r2)) ∧ Aside0 (kq ≤ k) ∧ Aside0 (Below w.heap.size w wc))
 case first =>
  have H := HC2.out
  clear HC2
  replace H := Option.bind_eq_some_iff.mp H
  obtain ⟨t585, A30, H⟩ := H
  replace H : (if t585 = true then (if 0 < (l0.length : Int) then (if (rd l0 0) = 0 then ((purse_badD.f l0).bind fun t587 => (purse_FromDividends.j0 k l0 t587)) else (purse_FromDividends.j0 k l0 true)) else (none)) else (purse_FromDividends.j0 k l0 true)) = some (r1, r2) := H
  have A3 := Aside0.mk A30
  clear A30
  by_cases c4 : t585 = true
  ·subst c4
   have H1 : (if 0 < (l0.length : Int) then (if (rd l0 0) = 0 then ((purse_badD.f l0).bind fun t587 => (purse_FromDividends.j0 k l0 t587)) else (purse_FromDividends.j0 k l0 true)) else (none)) = some (r1, r2) := by rw [if_pos rfl] at H; exact H
   clear H
   have H := H1
   clear H1
   by_cases c5 : 0 < (l0.length : Int)
   ·rw [if_pos c5] at H
    have c5b0 : decide (0 < (l0.length : Int)) = true := decide_eq_true c5
    have c5b1 : decide (0 < l0.length) = true := decide_eq_true (by omega)
    clear c5
    (first | rw [c5b0] | (simp only [i64_w, i32_w]; rw [c5b0]) | skip)
    by_cases c6 : (rd l0 0) = 0
    ·rw [if_pos c6] at H
     have c6b0 : ((rd l0 0) == 0) = true := beq_iff_eq.mpr c6
     have c6b1 : ((rd l0 0) != 0) = false := bne_eq_false_iff_eq.mpr c6
     clear c6
     replace H := Option.bind_eq_some_iff.mp H
     obtain ⟨t587, A70, H⟩ := H
     replace H : (purse_FromDividends.j0 k l0 t587) = some (r1, r2) := H
     have A7 := Aside0.mk A70
     clear A70
     have H' := Aside0.mk H
     clear H
     go_wp2_with (first | ((with_reducible refine gate_callee (f := 75) rfl ?_); refine goesL_ (some 10) rfl rfl Tryd.func75 (by kernel_rfl) rfl #[.int .i64 (l0.length : Int)] rfl (by (try simp only [List.map_toArray, List.map_cons, List.map_nil]); first | done | rfl | (simp only [List.length_drop, List.length_take]; rfl)) ?_; (with_reducible refine (purse_isCount.calls (l0.length : Int) true _ A3.out).mono ?_); rintro e w' ⟨rfl, ⟨nd, rfl⟩⟩; refine ⟨_, rfl, ?_⟩; have p586 : 0 ≤ (0 : Int) := (by omega); have q586 : 0 < (l0.length : Int) := of_decide_eq_true (by first | (with_reducible assumption) | assumption); obtain ⟨ad586, e586, hx586_0⟩ := Kd.at_int HR0.out 0 p586 q586; cases e586; have qi586 : (0 < l0.length) = True := eq_true (by omega); (try rw [show ((0 : Int)).toNat = 0 from rfl] at hx586_0); (try rw [Addr.add_zero'] at hx586_0); replace hx586_0 := (HB.out.cell (World.block_lt_of_cell? w _ hx586_0)).trans hx586_0; replace p586 := eq_true p586; replace q586 := eq_true q586) | (go_at_call 51; (with_reducible refine (purse_badD.calls _ _ l0 t587 _ ?side1 ?side2 A7.out).mono ?_); (case side1 => repeat (first | exact (Kd.C_below HR0.out (by repeat (first | (with_reducible first | exact HB.out | apply below_alloc | apply pw_below_drewN | apply below_drew1) | exact HB.out))) | (with_reducible refine Kd.C_alloc ?_ _) | (with_reducible refine Kd.C_drewN ?_ _) | (with_reducible refine Kd.C_drew ?_))); (case side2 => exact HC0.out); rintro e w' ⟨rfl, ⟨nd, rfl⟩⟩))
     go_meet
     case rel => exact ⟨_, (t587), (by first | rfl | (simp; done) | (simp [*]; done)), H', ⟨by first | omega | exact Nat.le_refl _⟩, ⟨by repeat (first | (with_reducible first | exact HB.out | apply below_alloc | apply pw_below_drewN | apply below_drew1) | exact HB.out)⟩⟩
    ·rw [if_neg c6] at H
     have c6b0 : ((rd l0 0) == 0) = false := beq_eq_false_iff_ne.mpr c6
     have c6b1 : ((rd l0 0) != 0) = true := bne_iff_ne.mpr c6
     have H' := Aside0.mk H
     clear H
     go_wp2_with (first | ((with_reducible refine gate_callee (f := 75) rfl ?_); refine goesL_ (some 10) rfl rfl Tryd.func75 (by kernel_rfl) rfl #[.int .i64 (l0.length : Int)] rfl (by (try simp only [List.map_toArray, List.map_cons, List.map_nil]); first | done | rfl | (simp only [List.length_drop, List.length_take]; rfl)) ?_; (with_reducible refine (purse_isCount.calls (l0.length : Int) true _ A3.out).mono ?_); rintro e w' ⟨rfl, ⟨nd, rfl⟩⟩; refine ⟨_, rfl, ?_⟩; have p586 : 0 ≤ (0 : Int) := (by omega); have q586 : 0 < (l0.length : Int) := of_decide_eq_true (by first | (with_reducible assumption) | assumption); obtain ⟨ad586, e586, hx586_0⟩ := Kd.at_int HR0.out 0 p586 q586; cases e586; have qi586 : (0 < l0.length) = True := eq_true (by omega); (try rw [show ((0 : Int)).toNat = 0 from rfl] at hx586_0); (try rw [Addr.add_zero'] at hx586_0); replace hx586_0 := (HB.out.cell (World.block_lt_of_cell? w _ hx586_0)).trans hx586_0; replace p586 := eq_true p586; replace q586 := eq_true q586))
     go_meet
     case rel => exact ⟨_, (true), (by first | rfl | (simp; done) | (simp [*]; done)), H', ⟨by first | omega | exact Nat.le_refl _⟩, ⟨by repeat (first | (with_reducible first | exact HB.out | apply below_alloc | apply pw_below_drewN | apply below_drew1) | exact HB.out)⟩⟩
   ·rw [if_neg c5] at H
    exact absurd H (by simp)
  ·replace c4 := Bool.eq_false_iff.mpr c4
   subst c4
   have H1 : (purse_FromDividends.j0 k l0 true) = some (r1, r2) := by rw [if_neg (show ¬ (false = true) by decide)] at H; exact H
   clear H
   have H := H1
   clear H1
   have H' := Aside0.mk H
   clear H
   go_wp2_with (first | ((with_reducible refine gate_callee (f := 75) rfl ?_); refine goesL_ (some 10) rfl rfl Tryd.func75 (by kernel_rfl) rfl #[.int .i64 (l0.length : Int)] rfl (by (try simp only [List.map_toArray, List.map_cons, List.map_nil]); first | done | rfl | (simp only [List.length_drop, List.length_take]; rfl)) ?_; (with_reducible refine (purse_isCount.calls (l0.length : Int) false _ A3.out).mono ?_); rintro e w' ⟨rfl, ⟨nd, rfl⟩⟩; refine ⟨_, rfl, ?_⟩))
   go_meet
   case rel => exact ⟨_, (true), (by first | rfl | (simp; done) | (simp [*]; done)), H', ⟨by first | omega | exact Nat.le_refl _⟩, ⟨by repeat (first | (with_reducible first | exact HB.out | apply below_alloc | apply pw_below_drewN | apply below_drew1) | exact HB.out)⟩⟩
 case rest =>
  clear HC2
  try clear p2
  try clear c3
  try clear c4
  try clear c5
  try clear c5b0
  try clear c5b1
  try clear p5
  try clear q5
  try clear hx5
  try clear qi5
  try clear c6
  try clear c6b0
  try clear c6b1
  try clear c7
  try clear hx586_0
  try clear p586
  try clear q586
  obtain ⟨kq, x21_1, rfl, HA, HJ1, HB⟩ := hcut
  cases kq with
  | zero => exact absurd HA.out (by simp [purse_FromDividends.j0])
  | succ kj1 =>
   have H := HA.out
   clear HA
   simp only [purse_FromDividends.j0] at H
   by_cases c8 : x21_1 = true
   ·subst c8
    have H1 : (some (([] : List Int), 1)) = some (r1, r2) := by rw [if_pos rfl] at H; exact H
    clear H
    have H := H1
    clear H1
    simp only [Option.some.injEq, Prod.mk.injEq] at H
    obtain ⟨rfl, rfl⟩ := H
    go_wp2
    go_ret2
    exact ⟨_, by first | rfl | (simp [errW_none, errW_some] <;> rfl) | (simp [*, errW_none, errW_some] <;> rfl), by first | exact Kd.R_nil _ _ _ _ _ | exact Kd.N_nil _ _ _ _ _ | exact Kd.V_nil _ _ _ _ _ | exact Kd.Q_nil _ _ _ _ _ | exact Kd.S_nil _ _ _ _ _, by repeat (first | (with_reducible first | exact HB.out | apply below_alloc | apply pw_below_drewN | apply below_drew1) | exact HB.out)⟩
   ·replace c8 := Bool.eq_false_iff.mpr c8
    subst c8
    have H1 : ((slices_Clone.f l0).bind fun t588 => ((purse_players.f l0).bind fun t591 => (purse_FromDividends.l0 kj1 t588 t591 0))) = some (r1, r2) := by rw [if_neg (show ¬ (false = true) by decide)] at H; exact H
    clear H
    have H := H1
    clear H1
    replace H := Option.bind_eq_some_iff.mp H
    obtain ⟨t588, A90, H⟩ := H
    replace H : ((purse_players.f l0).bind fun t591 => (purse_FromDividends.l0 kj1 t588 t591 0)) = some (r1, r2) := H
    have A9 := Aside0.mk A90
    clear A90
    replace H := Option.bind_eq_some_iff.mp H
    obtain ⟨t591, A100, H⟩ := H
    replace H : (purse_FromDividends.l0 kj1 t588 t591 0) = some (r1, r2) := H
    have A10 := Aside0.mk A100
    clear A100
    have H' := Aside0.mk H
    clear H
    go_wp2_with (first | ((with_reducible refine gate_callee (f := 67) rfl ?_); refine goesL_ (some 23) rfl rfl Tryd.func67 (by kernel_rfl) rfl #[.slice A0 l0.length c0] rfl (by (try simp only [List.map_toArray, List.map_cons, List.map_nil]); first | done | rfl | (simp only [List.length_drop, List.length_take]; rfl)) ?_; (with_reducible refine (slices_Clone.calls _ _ l0 t588 _ ?side1 ?side2 A9.out).mono ?_); (case side1 => repeat (first | exact (Kd.C_below HR0.out HB.out) | (with_reducible refine Kd.C_alloc ?_ _) | (with_reducible refine Kd.C_drewN ?_ _) | (with_reducible refine Kd.C_drew ?_))); (case side2 => exact HC0.out); rintro e w11 ⟨v589, rfl, ho0, hb⟩; refine ⟨_, rfl, ?_⟩; have n0_ := Aside0.mk (Kd.R_lower ho0 (below_size (by repeat (first | (with_reducible first | exact HB.out | apply below_alloc | apply pw_below_drewN | apply below_drew1) | exact HB.out)))); have n1_ := Aside0.mk (below_step (by repeat (first | (with_reducible first | exact HB.out | apply below_alloc | apply pw_below_drewN | apply below_drew1) | exact HB.out)) hb); clear HB; have HO590 := n0_; have HB := n1_; clear n0_ n1_; (try clear hb); (try clear hb2); (try clear hk); (try clear hi); (try clear ho0)) | ((with_reducible refine gate_callee (f := 49) rfl ?_); refine goesL_ (some 25) rfl rfl Tryd.func49 (by kernel_rfl) rfl #[.slice A0 l0.length c0] rfl (by (try simp only [List.map_toArray, List.map_cons, List.map_nil]); first | done | rfl | (simp only [List.length_drop, List.length_take]; rfl)) ?_; (with_reducible refine (purse_players.calls _ _ l0 t591 _ ?side1 ?side2 A10.out).mono ?_); (case side1 => repeat (first | exact (Kd.C_below HR0.out HB.out) | (with_reducible refine Kd.C_alloc ?_ _) | (with_reducible refine Kd.C_drewN ?_ _) | (with_reducible refine Kd.C_drew ?_))); (case side2 => exact HC0.out); rintro e w' ⟨rfl, ⟨nd, rfl⟩⟩; refine ⟨_, rfl, ?_⟩))
    go_loopg [26] kj1 (fun kq v26 w' => ∃ (x4_2 : List Int) (x26_2 : Int), v26 = .int .i64 x26_2 ∧ Aside0 (purse_FromDividends.l0 kq x4_2 t591 x26_2 = some (r1, r2)) ∧ Aside0 (kq ≤ kj1) ∧ Aside0 (Kd.R (Kd.int .i64) 3 w' w.heap.size (fun _ => True) v589 x4_2) ∧ Aside0 (Below w.heap.size w w'))
    case atStart => exact ⟨(t588), (0), (by first | rfl | (simp; done) | (simp [*]; done)), H', ⟨Nat.le_refl _⟩, ⟨by (with_reducible repeat (first | apply Kd.R_alloc | apply Kd.R_drewN | apply Kd.R_drew)); exact HO590.out⟩, ⟨by repeat (first | (with_reducible first | exact HB.out | apply below_alloc | apply pw_below_drewN | apply below_drew1) | exact HB.out)⟩⟩
    case round =>
     clear H'
     try clear p2
     try clear c3
     try clear c4
     try clear c5
     try clear c5b0
     try clear c5b1
     try clear p5
     try clear q5
     try clear hx5
     try clear qi5
     try clear c6
     try clear c6b0
     try clear c6b1
     try clear c7
     try clear c8
     try clear hx586_0
     try clear p2
     try clear p5
     try clear p586
     try clear q5
     try clear q586
     obtain ⟨x4_2, x26_2, rfl, HA, HK2, HO_4, HB⟩ := hrel
     cases gk with
     | zero => exact absurd HA.out (by simp [purse_FromDividends.l0])
     | succ k2 =>
      have H := HA.out
      clear HA
      simp only [purse_FromDividends.l0] at H
      by_cases c12 : x26_2 < t591
      ·rw [if_pos c12] at H
       have c12b0 : decide (x26_2 < t591) = true := decide_eq_true c12
       clear c12
       have H' := Aside0.mk H
       clear H
       obtain ⟨Ao13, co13, eo13⟩ := Kd.R_slice HO_4.out
       subst eo13
       go_wp2
       go_loopg [31] k2 (fun kq v31 w' => ∃ (x4_3 : List Int) (x31_3 : Int), v31 = .int .i64 x31_3 ∧ Aside0 (purse_FromDividends.l1 kq x4_3 x26_2 t591 x26_2 (x4_2.length : Int) x31_3 = some (r1, r2)) ∧ Aside0 (kq ≤ k2) ∧ Aside0 (Kd.R (Kd.int .i64) 3 w' w.heap.size (fun _ => True) (.slice Ao13 x4_2.length co13) x4_3) ∧ Aside0 (Below w.heap.size w w'))
       case atStart => exact ⟨(x4_2), (0), (by first | rfl | (simp; done) | (simp [*]; done)), H', ⟨Nat.le_refl _⟩, ⟨by (with_reducible repeat (first | apply Kd.R_alloc | apply Kd.R_drewN | apply Kd.R_drew)); exact HO_4.out⟩, ⟨by repeat (first | (with_reducible first | exact HB.out | apply below_alloc | apply pw_below_drewN | apply below_drew1) | exact HB.out)⟩⟩
       case round =>
        clear H'
        try clear c1
        try clear p2
        try clear c3
        try clear c4
        try clear c5
        try clear c5b0
        try clear c5b1
        try clear p5
        try clear q5
        try clear hx5
        try clear qi5
        try clear c6
        try clear c6b0
        try clear c6b1
        try clear c7
        try clear c8
        try clear c12
        try clear c12b0
        try clear hx586_0
        try clear p2
        try clear p5
        try clear p586
        try clear q5
        try clear q586
        obtain ⟨x4_3, x31_3, rfl, HA, HK3, HO_4, HB⟩ := hrel
        have hl4_3 := (Kd.R_reads' HO_4.out).1
        rw [hl4_3] at HO_4
        (try simp only [hl4_3])
        cases gk with
        | zero => exact absurd HA.out (by simp [purse_FromDividends.l1])
        | succ k3 =>
         have H := HA.out
         clear HA
         simp only [purse_FromDividends.l1] at H
         by_cases c14 : x31_3 < (x4_2.length : Int)
         ·rw [if_pos c14] at H
          have c14b0 : decide (x31_3 < (x4_2.length : Int)) = true := decide_eq_true c14
          have c14n := c14b0
          rw [hl4_3] at c14n
          clear c14
          replace H := Option.bind_eq_some_iff.mp H
          obtain ⟨t596, A150, H⟩ := H
          replace H : (if t596 = true then (if 0 ≤ x31_3 then (if x31_3 < (x4_3.length : Int) then (if 0 ≤ x26_2 then (if 0 ≤ (Go.bits .andNot .i64 x31_3 (shl .i64 1 x26_2)) then (if (Go.bits .andNot .i64 x31_3 (shl .i64 1 x26_2)) < (x4_3.length : Int) then (purse_FromDividends.l1 k3 (x4_3.set (x31_3 : Int).toNat (wrap64 ((rd x4_3 x31_3) + (rd x4_3 (Go.bits .andNot .i64 x31_3 (shl .i64 1 x26_2)))))) x26_2 t591 x26_2 (x4_2.length : Int) (wrap64 (x31_3 + 1))) else (none)) else (none)) else (none)) else (none)) else (none)) else (purse_FromDividends.l1 k3 x4_3 x26_2 t591 x26_2 (x4_2.length : Int) (wrap64 (x31_3 + 1)))) = some (r1, r2) := H
          have A15 := Aside0.mk A150
          clear A150
          by_cases c16 : t596 = true
          ·subst c16
           have H1 : (if 0 ≤ x31_3 then (if x31_3 < (x4_3.length : Int) then (if 0 ≤ x26_2 then (if 0 ≤ (Go.bits .andNot .i64 x31_3 (shl .i64 1 x26_2)) then (if (Go.bits .andNot .i64 x31_3 (shl .i64 1 x26_2)) < (x4_3.length : Int) then (purse_FromDividends.l1 k3 (x4_3.set (x31_3 : Int).toNat (wrap64 ((rd x4_3 x31_3) + (rd x4_3 (Go.bits .andNot .i64 x31_3 (shl .i64 1 x26_2)))))) x26_2 t591 x26_2 (x4_2.length : Int) (wrap64 (x31_3 + 1))) else (none)) else (none)) else (none)) else (none)) else (none)) = some (r1, r2) := by rw [if_pos rfl] at H; exact H
           clear H
           have H := H1
           clear H1
           by_cases c17 : 0 ≤ x31_3
           ·rw [if_pos c17] at H
            have c17b0 : decide (0 ≤ x31_3) = true := decide_eq_true c17
            clear c17
            by_cases c18 : x31_3 < (x4_3.length : Int)
            ·rw [if_pos c18] at H
             have c18b0 : decide (x31_3 < (x4_3.length : Int)) = true := decide_eq_true c18
             clear c18
             by_cases c19 : 0 ≤ x26_2
             ·rw [if_pos c19] at H
              have c19b0 := eq_true c19
              have c19b1 : decide (0 ≤ x26_2) = true := decide_eq_true c19
              clear c19
              obtain ⟨ji20, hji20⟩ : ∃ j_ : Int, (shl .i64 1 x26_2) = j_ := ⟨_, rfl⟩
              replace H : (if 0 ≤ (Go.bits .andNot .i64 x31_3 (ji20)) then (if (Go.bits .andNot .i64 x31_3 (ji20)) < (x4_3.length : Int) then (purse_FromDividends.l1 k3 (x4_3.set (x31_3 : Int).toNat (wrap64 ((rd x4_3 x31_3) + (rd x4_3 (Go.bits .andNot .i64 x31_3 (ji20)))))) x26_2 t591 x26_2 (x4_2.length : Int) (wrap64 (x31_3 + 1))) else (none)) else (none)) = some (r1, r2) := by first | (rw [hji20] at H; exact H) | (simp only [hji20] at H ⊢; exact H)
              (try rw [hji20] at A15)
              have hji20_ : (IntKind.i64.wrap (1 * 2 ^ min x26_2.toNat 64)) = ji20 := hji20
              have hji20z : x26_2 ≤ 64 → (IntKind.i64.wrap (1 * 2 ^ x26_2.toNat)) = ji20 := shl_small hji20
              have hji20u : (IntKind.i64.wrap (2 ^ min x26_2.toNat 64)) = ji20 := by have h_ := hji20_; rw [Int.one_mul] at h_; exact h_
              have hji20v : x26_2 ≤ 64 → (IntKind.i64.wrap (2 ^ x26_2.toNat)) = ji20 := fun hle_ => by have h_ := hji20z hle_; rw [Int.one_mul] at h_; exact h_
              have hji20y : (wrap64 (1 * 2 ^ min x26_2.toNat 64)) = ji20 := (i64_w _).symm.trans hji20_
              have hji20x : x26_2 ≤ 64 → (wrap64 (1 * 2 ^ x26_2.toNat)) = ji20 := fun h_ => (i64_w _).symm.trans (hji20z h_)
              by_cases c21 : 0 ≤ (Go.bits .andNot .i64 x31_3 (ji20))
              ·rw [if_pos c21] at H
               have c21b0 : decide (0 ≤ (Go.bits .andNot .i64 x31_3 (ji20))) = true := decide_eq_true c21
               clear c21
               by_cases c22 : (Go.bits .andNot .i64 x31_3 (ji20)) < (x4_3.length : Int)
               ·rw [if_pos c22] at H
                have c22b0 : decide ((Go.bits .andNot .i64 x31_3 (ji20)) < (x4_3.length : Int)) = true := decide_eq_true c22
                clear c22
                obtain ⟨y599, hy599⟩ : ∃ y_ : List Int, y_ = (x4_3.set (x31_3 : Int).toNat (wrap64 ((rd x4_3 x31_3) + (rd x4_3 (Go.bits .andNot .i64 x31_3 (ji20)))))) := ⟨_, rfl⟩
                replace H : (purse_FromDividends.l1 k3 y599 x26_2 t591 x26_2 (x4_2.length : Int) (wrap64 (x31_3 + 1))) = some (r1, r2) := by first | (rw [hy599]; with_reducible exact H) | (have H2_ := (Option.bind_some _ _).symm.trans H; rw [hy599]; with_reducible exact H2_) | (have H2_ := (Option.bind_some _ _).symm.trans H; with_reducible exact H2_) | with_reducible exact H | (rw [hy599]; exact H) | exact H
                have Ny599 := Aside0.mk hy599
                clear hy599
                have H' := Aside0.mk H
                clear H
                try go_wp2_with (first | ((with_reducible refine gate_callee (f := 50) rfl ?_); refine goesL_ (some 37) rfl rfl Tryd.func50 (by kernel_rfl) rfl #[.int .i64 x26_2, .int .i64 x31_3] rfl (by (try simp only [List.map_toArray, List.map_cons, List.map_nil]); first | done | rfl | (simp only [List.length_drop, List.length_take]; rfl)) ?_; (with_reducible refine (purse_player_in.calls x26_2 x31_3 true _ A15.out).mono ?_); rintro e w' ⟨rfl, ⟨nd, rfl⟩⟩; refine ⟨_, rfl, ?_⟩; (try (rw [drewN_self wr]; generalize hq_ : World.drewN wr _ = wr; have n0_ : Aside0 (Kd.R (Kd.int .i64) 3 wr w.heap.size (fun _ => True) (.slice Ao13 x4_3.length co13) x4_3) := ⟨by rw [← hq_]; exact (by (with_reducible repeat (first | apply Kd.R_alloc | apply Kd.R_drewN | apply Kd.R_drew)); exact HO_4.out)⟩; have n1_ : Aside0 (Below w.heap.size w wr) := ⟨by rw [← hq_]; exact (by repeat (first | (with_reducible first | exact HB.out | apply below_alloc | apply pw_below_drewN | apply below_drew1) | exact HB.out))⟩; clear HO_4 HB hq_; have HO_4 := n0_; have HB := n1_; clear n0_ n1_))))
                have n0_ := Aside0.mk (Kd.R_drew HO_4.out)
                have n1_ := Aside0.mk (below_drew1 HB.out)
                clear HO_4
                clear HB
                have HO_4 := n0_
                have HB := n1_
                clear n0_ n1_
                have p597 : 0 ≤ (x31_3 : Int) := of_decide_eq_true (by first | (with_reducible assumption) | assumption)
                have q597 : x31_3 < (x4_3.length : Int) := of_decide_eq_true (by first | (with_reducible assumption) | assumption)
                obtain ⟨ad597, e597, hx597_0⟩ := Kd.at_int (Kd.R_reads' HO_4.out).2.2 x31_3 p597 q597
                cases e597
                replace p597 := eq_true p597
                replace q597 := eq_true q597
                have p598 : 0 ≤ ((Go.bits .andNot .i64 x31_3 (ji20)) : Int) := of_decide_eq_true (by first | (with_reducible assumption) | assumption)
                have q598 : (Go.bits .andNot .i64 x31_3 (ji20)) < (x4_3.length : Int) := of_decide_eq_true (by first | (with_reducible assumption) | assumption)
                obtain ⟨ad598, e598, hx598_0⟩ := Kd.at_int (Kd.R_reads' HO_4.out).2.2 (Go.bits .andNot .i64 x31_3 (ji20)) p598 q598
                obtain rfl : ad597 = ad598 := (by injection e598)
                replace p598 := eq_true p598
                replace q598 := eq_true q598
                have p23 : 0 ≤ (x31_3 : Int) := of_decide_eq_true (by first | (with_reducible assumption) | assumption)
                have q23 : (x31_3 : Int) < ((x4_3.length : Int) : Int) := of_decide_eq_true (by first | (with_reducible assumption) | assumption)
                obtain ⟨go23, co23, eo23, gb23, gl23, cl23, HG23⟩ := Kd.R_form HO_4.out (by omega)
                (first | cases eo23 | (injection eo23 with ea_ en_ ec_; (first | subst ea_ | (injection ea_ with ea_; subst ea_)); subst ec_; clear en_))
                have GB23 := Aside0.mk gb23
                have GG23 := Aside0.mk HG23
                clear gb23 gl23 HG23
                (first | simp only [add_plain] at hx597_0 | skip)
                (first | simp only [add_plain] at hx598_0 | skip)
                obtain ⟨hx23_0, hf23_0⟩ := Kd.R_celln 0 HO_4.out (x31_3 : Int) p23 q23
                replace p23 := eq_true p23
                replace q23 := eq_true q23
                have HP25 := Kd.R_putn HO_4.out (x31_3 : Int) (wrap64 ((rd x4_3 x31_3) + (rd x4_3 (Go.bits .andNot .i64 x31_3 (ji20)))))
                rw [← Ny599.out] at HP25
                have HQ25 := Aside0.mk HP25
                clear HP25
                refine start_ (n := 14) (S := fun w' => w'.cell? ⟨go23, (x31_3).toNat, none⟩ = some (.int .i64 (rd x4_3 x31_3)) ∧ w'.cell? ⟨go23, ((Go.bits .andNot .i64 x31_3 (ji20))).toNat, none⟩ = some (.int .i64 (rd x4_3 (Go.bits .andNot .i64 x31_3 (ji20))))) (ds := [13]) #[false, false, false, false, false, false, false, false, false, false, false, false, false, false] (by kernel_rfl) rfl rfl ⟨hx597_0, hx598_0⟩ (fun hHeld => ?_); refine with_tabW purse_FromDividends.tab12 purse_FromDividends.bits12 (fun HT_ HW_ => ?_)
                generalize wr.drew = w24 at HO_4 HB GG23 HQ25 hf23_0 hx23_0 hx597_0 hx598_0 hHeld ⊢
                refine pure_ (i := 0) (N := some 38) (v := ?_) (a' := ?_) #[true, false, false, false, false, false, false, false, false, false, false, false, false, false] rfl rfl (any_of HT_.out (by kernel_rfl)) (fun _ _ _ h => h) (Or.inl ⟨by rfl, ?_⟩) ?_ ?_
                rotate_left
                ·intro w'
                 go_simp
                 with_reducible rfl
                rotate_left
                ·simp only [Act.put, List.setIfInBounds_toArray, List.set_cons_zero, List.set_cons_succ, i64_w, i32_w]
                 rfl
                refine pure_ (i := 1) (N := some 39) (v := ?_) (a' := ?_) #[true, true, false, false, false, false, false, false, false, false, false, false, false, false] rfl rfl (any_of HT_.out (by kernel_rfl)) (fun _ _ _ h => h) (Or.inl ⟨by rfl, ?_⟩) ?_ ?_
                rotate_left
                ·intro w'
                 go_simp
                 with_reducible rfl
                rotate_left
                ·simp only [Act.put, List.setIfInBounds_toArray, List.set_cons_zero, List.set_cons_succ, i64_w, i32_w]
                 rfl
                refine pure_ (i := 2) (N := some 40) (v := ?_) (a' := ?_) #[true, true, true, false, false, false, false, false, false, false, false, false, false, false] rfl rfl (any_of HT_.out (by kernel_rfl)) (fun _ _ _ h => h) (Or.inl ⟨by rfl, ?_⟩) ?_ ?_
                rotate_left
                ·intro w'
                 go_simp
                 with_reducible rfl
                rotate_left
                ·simp only [Act.put, List.setIfInBounds_toArray, List.set_cons_zero, List.set_cons_succ, i64_w, i32_w]
                 rfl
                refine pure_ (i := 4) (N := some 42) (v := ?_) (a' := ?_) #[true, true, true, false, true, false, false, false, false, false, false, false, false, false] rfl rfl (any_of HT_.out (by kernel_rfl)) (fun _ _ _ h => h) (Or.inl ⟨by rfl, ?_⟩) ?_ ?_
                rotate_left
                ·intro w'
                 go_simp
                 with_reducible rfl
                rotate_left
                ·simp only [Act.put, List.setIfInBounds_toArray, List.set_cons_zero, List.set_cons_succ, i64_w, i32_w]
                 rfl
                refine pure_ (i := 5) (N := some 43) (v := ?_) (a' := ?_) #[true, true, true, false, true, true, false, false, false, false, false, false, false, false] rfl rfl (any_of HT_.out (by kernel_rfl)) (fun _ _ _ h => h) (Or.inl ⟨by rfl, ?_⟩) ?_ ?_
                rotate_left
                ·intro w'
                 go_simp
                 with_reducible rfl
                rotate_left
                ·simp only [Act.put, List.setIfInBounds_toArray, List.set_cons_zero, List.set_cons_succ, i64_w, i32_w]
                 rfl
                refine pure_ (i := 6) (N := some 44) (v := ?_) (a' := ?_) #[true, true, true, false, true, true, true, false, false, false, false, false, false, false] rfl rfl (any_of HT_.out (by kernel_rfl)) (fun _ _ _ h => h) (Or.inl ⟨by rfl, ?_⟩) ?_ ?_
                rotate_left
                ·intro w'
                 go_simp
                 with_reducible rfl
                rotate_left
                ·simp only [Act.put, List.setIfInBounds_toArray, List.set_cons_zero, List.set_cons_succ, i64_w, i32_w]
                 rfl
                refine pure_ (i := 7) (N := some 45) (v := ?_) (a' := ?_) #[true, true, true, false, true, true, true, true, false, false, false, false, false, false] rfl rfl (any_of HT_.out (by kernel_rfl)) (fun _ _ _ h => h) (Or.inl ⟨by rfl, ?_⟩) ?_ ?_
                rotate_left
                ·intro w'
                 go_simp
                 with_reducible rfl
                rotate_left
                ·simp only [Act.put, List.setIfInBounds_toArray, List.set_cons_zero, List.set_cons_succ, i64_w, i32_w]
                 rfl
                refine pure_ (i := 8) (N := some 46) (v := ?_) (a' := ?_) #[true, true, true, false, true, true, true, true, true, false, false, false, false, false] rfl rfl (any_of HT_.out (by kernel_rfl)) (fun _ _ _ h => h) (Or.inl ⟨by rfl, ?_⟩) ?_ ?_
                rotate_left
                ·intro w'
                 go_simp
                 with_reducible rfl
                rotate_left
                ·simp only [Act.put, List.setIfInBounds_toArray, List.set_cons_zero, List.set_cons_succ, i64_w, i32_w]
                 rfl
                refine pure_ (i := 9) (N := some 47) (v := ?_) (a' := ?_) #[true, true, true, false, true, true, true, true, true, true, false, false, false, false] rfl rfl (any_of HT_.out (by kernel_rfl)) (fun _ _ _ h => h) (Or.inl ⟨by rfl, ?_⟩) ?_ ?_
                rotate_left
                ·intro w'
                 go_simp
                 with_reducible rfl
                rotate_left
                ·simp only [Act.put, List.setIfInBounds_toArray, List.set_cons_zero, List.set_cons_succ, i64_w, i32_w]
                 rfl
                refine take_ (i := 3) (N := some 41) (v := ?_) (a' := ?_) #[true, true, true, true, true, true, true, true, true, true, false, false, false, false] rfl rfl (take_ofW HT_.out HW_.out (by kernel_rfl)) (fun _ _ _ h => h) (Or.inl ⟨by rfl, ?_⟩) hHeld ?_ ?_
                rotate_left
                ·rintro w' ⟨s0, s1⟩
                 go_simp
                 with_reducible rfl
                rotate_left
                ·simp only [Act.put, List.setIfInBounds_toArray, List.set_cons_zero, List.set_cons_succ, i64_w, i32_w]
                 rfl
                refine take_ (i := 10) (N := some 48) (v := ?_) (a' := ?_) #[true, true, true, true, true, true, true, true, true, true, true, false, false, false] rfl rfl (take_ofW HT_.out HW_.out (by kernel_rfl)) (fun _ _ _ h => h) (Or.inl ⟨by rfl, ?_⟩) hHeld ?_ ?_
                rotate_left
                ·rintro w' ⟨s0, s1⟩
                 go_simp
                 with_reducible rfl
                rotate_left
                ·simp only [Act.put, List.setIfInBounds_toArray, List.set_cons_zero, List.set_cons_succ, i64_w, i32_w]
                 rfl
                refine pure_ (i := 11) (N := some 49) (v := ?_) (a' := ?_) #[true, true, true, true, true, true, true, true, true, true, true, true, false, false] rfl rfl (any_of HT_.out (by kernel_rfl)) (fun _ _ _ h => h) (Or.inl ⟨by rfl, ?_⟩) ?_ ?_
                rotate_left
                ·intro w'
                 go_simp
                 with_reducible rfl
                rotate_left
                ·simp only [Act.put, List.setIfInBounds_toArray, List.set_cons_zero, List.set_cons_succ, i64_w, i32_w]
                 rfl
                refine pure_ (i := 12) (N := some 50) (v := ?_) (a' := ?_) #[true, true, true, true, true, true, true, true, true, true, true, true, true, false] rfl rfl (any_of HT_.out (by kernel_rfl)) (fun _ _ _ h => h) (Or.inl ⟨by rfl, ?_⟩) ?_ ?_
                rotate_left
                ·intro w'
                 go_simp
                 with_reducible rfl
                rotate_left
                ·simp only [Act.put, List.setIfInBounds_toArray, List.set_cons_zero, List.set_cons_succ, i64_w, i32_w]
                 rfl
                refine last_ (i := 13) (N := none) #[true, true, true, true, true, true, true, true, true, true, true, true, true, true] rfl rfl (one_of HT_.out (by kernel_rfl)) (by decide) (fun K hK => ?_)
                refine skip_ (w1 := ?_) (by rfl) rfl ?_ ?_
                rotate_left
                ·go_simp
                 rfl
                refine hK.out _ _ ?_
                clear hK K
                refine done_ (done_of HT_.out (by kernel_rfl)) ?_
                try go_wp2
                (try simp only [← hl4_3])
                go_roundg k3
                case measure => have := HJ1.out; have := HK2.out; have := HK3.out; omega
                case rel => exact ⟨(y599), (wrap64 (x31_3 + 1)), (by first | rfl | (simp; done) | (simp [*]; done)), H', ⟨by have := HJ1.out; have := HK2.out; have := HK3.out; omega⟩, ⟨by (try simp only [hl4_3]); (with_reducible repeat (first | apply Kd.R_alloc | apply Kd.R_drewN | apply Kd.R_drew)); exact HQ25.out⟩, ⟨by repeat (first | (with_reducible first | exact HB.out | apply below_alloc | apply pw_below_drewN | apply below_drew1 | refine below_set ?_ GB23.out) | exact HB.out)⟩⟩
               ·rw [if_neg c22] at H
                exact absurd H (by simp)
              ·rw [if_neg c21] at H
               exact absurd H (by simp)
             ·rw [if_neg c19] at H
              exact absurd H (by simp)
            ·rw [if_neg c18] at H
             exact absurd H (by simp)
           ·rw [if_neg c17] at H
            exact absurd H (by simp)
          ·replace c16 := Bool.eq_false_iff.mpr c16
           subst c16
           have H1 : (purse_FromDividends.l1 k3 x4_3 x26_2 t591 x26_2 (x4_2.length : Int) (wrap64 (x31_3 + 1))) = some (r1, r2) := by rw [if_neg (show ¬ (false = true) by decide)] at H; exact H
           clear H
           have H := H1
           clear H1
           have H' := Aside0.mk H
           clear H
           go_wp2_with (first | ((with_reducible refine gate_callee (f := 50) rfl ?_); refine goesL_ (some 37) rfl rfl Tryd.func50 (by kernel_rfl) rfl #[.int .i64 x26_2, .int .i64 x31_3] rfl (by (try simp only [List.map_toArray, List.map_cons, List.map_nil]); first | done | rfl | (simp only [List.length_drop, List.length_take]; rfl)) ?_; (with_reducible refine (purse_player_in.calls x26_2 x31_3 false _ A15.out).mono ?_); rintro e w' ⟨rfl, ⟨nd, rfl⟩⟩; refine ⟨_, rfl, ?_⟩))
           (try simp only [← hl4_3])
           go_roundg k3
           case measure => have := HJ1.out; have := HK2.out; have := HK3.out; omega
           case rel => exact ⟨(x4_3), (wrap64 (x31_3 + 1)), (by first | rfl | (simp; done) | (simp [*]; done)), H', ⟨by have := HJ1.out; have := HK2.out; have := HK3.out; omega⟩, ⟨by (try simp only [hl4_3]); (with_reducible repeat (first | apply Kd.R_alloc | apply Kd.R_drewN | apply Kd.R_drew)); exact HO_4.out⟩, ⟨by repeat (first | (with_reducible first | exact HB.out | apply below_alloc | apply pw_below_drewN | apply below_drew1) | exact HB.out)⟩⟩
         ·rw [if_neg c14] at H
          have c14b0 : decide (x31_3 < (x4_2.length : Int)) = false := decide_eq_false c14
          have c14n := c14b0
          rw [hl4_3] at c14n
          clear c14
          have H' := Aside0.mk H
          clear H
          go_wp2
          (try simp only [← hl4_3])
          go_roundg k3
          case measure => have := HJ1.out; have := HK2.out; have := HK3.out; omega
          case rel => exact ⟨(x4_3), (wrap64 (x26_2 + 1)), (by first | rfl | (simp; done) | (simp [*]; done)), H', ⟨by have := HJ1.out; have := HK2.out; have := HK3.out; omega⟩, ⟨by (try simp only [hl4_3]); (with_reducible repeat (first | apply Kd.R_alloc | apply Kd.R_drewN | apply Kd.R_drew)); exact HO_4.out⟩, ⟨by repeat (first | (with_reducible first | exact HB.out | apply below_alloc | apply pw_below_drewN | apply below_drew1) | exact HB.out)⟩⟩
      ·rw [if_neg c12] at H
       have c12b0 : decide (x26_2 < t591) = false := decide_eq_false c12
       clear c12
       replace H := Option.bind_eq_some_iff.mp H
       obtain ⟨⟨t592, t595⟩, A260, H⟩ := H
       replace H : (some (t592, t595)) = some (r1, r2) := H
       have A26 := Aside0.mk A260
       clear A260
       simp only [Option.some.injEq, Prod.mk.injEq] at H
       obtain ⟨rfl, rfl⟩ := H
       obtain ⟨Ao27, co27, eo27⟩ := Kd.R_slice HO_4.out
       subst eo27
       go_wp2_with (first | ((with_reducible refine gate_callee (f := 70) rfl ?_); refine goesL_ (some 54) rfl rfl Tryd.func70 (by kernel_rfl) rfl #[.slice Ao27 x4_2.length co27] rfl (by (try simp only [List.map_toArray, List.map_cons, List.map_nil]); first | done | rfl | (simp only [List.length_drop, List.length_take]; rfl)) ?_; (with_reducible refine (purse_limited.calls (fun k_ => some k_ = (.slice Ao27 x4_2.length co27 : Value).ownBlock) (.slice Ao27 x4_2.length co27) x4_2 t592 t595 w _ ?side1 ?side2 A26.out).mono ?_); (case side1 => repeat (first | (with_reducible first | exact HB.out | apply below_alloc | apply pw_below_drewN | apply below_drew1) | exact HB.out)); (case side2 => exact Kd.R_tight rfl HO_4.out); rintro e w28 ⟨v593, rfl, ho0, hb, hkp⟩; refine ⟨_, rfl, ?_⟩; have n0_ := Aside0.mk (Kd.R_mono (ok' := fun k_ => True) ho0 (fun k_ hk_ => trivial)); have n1_ := Aside0.mk (hb); clear HB; clear HO_4; have HO594 := n0_; have HB := n1_; clear n0_ n1_; (try clear hb); (try clear hkp); (try clear ho0)))
       go_ret2
       exact ⟨_, by first | rfl | (simp [errW_none, errW_some] <;> rfl) | (simp [*, errW_none, errW_some] <;> rfl), by (with_reducible repeat (first | apply Kd.R_alloc | apply Kd.R_drewN | apply Kd.R_drew)); exact HO594.out, by repeat (first | (with_reducible first | exact HB.out | apply below_alloc | apply pw_below_drewN | apply below_drew1) | exact HB.out)⟩

end Go.Proofs.YtjphklemnhgkiaaDoor.Q
