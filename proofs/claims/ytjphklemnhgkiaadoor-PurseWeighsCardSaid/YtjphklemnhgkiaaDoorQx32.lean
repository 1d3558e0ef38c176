-- Written by a program of this session (wip/tools/gprint.py, over the kit's print); Lean checks it.
import Derived.Test.YtjphklemnhgkiaaDoorPuA
import Derived.Test.YtjphklemnhgkiaaDoorQx0
import Derived.Test.YtjphklemnhgkiaaDoorQx2
import Derived.Test.YtjphklemnhgkiaaDoorQx3
import Derived.Test.YtjphklemnhgkiaaDoorQx7
import Derived.Test.YtjphklemnhgkiaaDoorQx10
namespace Go.Proofs.YtjphklemnhgkiaaDoor.Q
open Go.RowKit Go.Proofs.YtjphklemnhgkiaaDoorW.PrintWords Go.Proofs.YtjphklemnhgkiaaDoorW.PrintLast Go.Proofs.YtjphklemnhgkiaaDoorW.PrintMore
attribute [local go_sem] max2_int min2_int max_two min_two max_three min_three max_four min_four   -- for this text's walks alone
set_option linter.unusedVariables false
set_option linter.unusedSimpArgs false

/-! ### wigeonlaw08_PurseWeighs: function 4 -/
def wigeonlaw08_PurseWeighs.j0 : Nat → List Int → Bool → Int → List Int → Int → List (S59) → Option (Bool)
 | 0, _, _, _, _, _, _ => none
 | k + 1, x0, x16, x711000, x711001, x712000, x712001 => if x16 = true then ((wigeonlaw08_known.f k).bind fun t713 => (some t713)) else ((purse_CheckCore.f k x0 x711000 x711001).bind fun t714 => (if t714 = 0 then ((purse_CheckBalance.f k x0 x712000 x712001).bind fun t715 => (if t715 = 0 then (none) else ((wigeonlaw08_known.f k).bind fun t716 => (some t716)))) else ((wigeonlaw08_known.f k).bind fun t717 => (some t717))))
def wigeonlaw08_PurseWeighs.f (k : Nat) (l0 : List Int) (a1_0 : Int) (l1_1 : List Int) (a2_0 : Int) (l2_1 : List (S59)) : Option (Bool) := (wigeonlaw08_long.f l0 l1_1).bind fun t712 => (if t712 = true then (wigeonlaw08_PurseWeighs.j0 k l0 true a1_0 l1_1 a2_0 l2_1) else (wigeonlaw08_PurseWeighs.j0 k l0 (decide ((l2_1.length : Int) > 100)) a1_0 l1_1 a2_0 l2_1))
theorem wigeonlaw08_PurseWeighs.mono_l : ∀ k, (∀ y0 y1 y2 y3 y4 y5, LeO (wigeonlaw08_PurseWeighs.j0 k y0 y1 y2 y3 y4 y5) (wigeonlaw08_PurseWeighs.j0 (k + 1) y0 y1 y2 y3 y4 y5))
 | 0 => fun _ _ _ _ _ _ r h => by simp [wigeonlaw08_PurseWeighs.j0] at h
 | k + 1 => by
  have ih0 := wigeonlaw08_PurseWeighs.mono_l k
  ·intro y0 y1 y2 y3 y4 y5
   unfold wigeonlaw08_PurseWeighs.j0
   repeat' first
   | (with_reducible exact ih0 _ _ _ _ _ _)
   | (with_reducible exact purse_CheckBalance.mono _ _ _ _)
   | (with_reducible exact purse_CheckCore.mono _ _ _ _)
   | (with_reducible exact wigeonlaw08_known.mono _)
   | (with_reducible exact LeO.refl _)
   | (with_reducible exact LeO.none _)
   | (with_reducible refine LeO.ite ?_ ?_)
   | (with_reducible refine LeO.bind ?_ (fun _ => ?_))
   | exact ih0 _ _ _ _ _ _
   | exact purse_CheckBalance.mono _ _ _ _
   | exact purse_CheckCore.mono _ _ _ _
   | exact wigeonlaw08_known.mono _
   | exact LeO.none _
   | refine LeO.ite ?_ ?_
   | refine LeO.bind ?_ (fun _ => ?_)
theorem wigeonlaw08_PurseWeighs.mono : ∀ a0 a1 a2 a3 a4 k, LeO (wigeonlaw08_PurseWeighs.f k a0 a1 a2 a3 a4) (wigeonlaw08_PurseWeighs.f (k + 1) a0 a1 a2 a3 a4) := by
 intro a0 a1 a2 a3 a4 k
 have ih0 := wigeonlaw08_PurseWeighs.mono_l k
 unfold wigeonlaw08_PurseWeighs.f
 repeat' first
   | (with_reducible exact ih0 _ _ _ _ _ _)
   | (with_reducible exact purse_CheckBalance.mono _ _ _ _)
   | (with_reducible exact purse_CheckCore.mono _ _ _ _)
   | (with_reducible exact wigeonlaw08_known.mono _)
   | (with_reducible exact LeO.refl _)
   | (with_reducible exact LeO.none _)
   | (with_reducible refine LeO.ite ?_ ?_)
   | (with_reducible refine LeO.bind ?_ (fun _ => ?_))
   | exact ih0 _ _ _ _ _ _
   | exact purse_CheckBalance.mono _ _ _ _
   | exact purse_CheckCore.mono _ _ _ _
   | exact wigeonlaw08_known.mono _
   | exact LeO.none _
   | refine LeO.ite ?_ ?_
   | refine LeO.bind ?_ (fun _ => ?_)
set_option maxHeartbeats 8000000 in
set_option maxRecDepth 100000 in
theorem wigeonlaw08_PurseWeighs.calls (k : Nat) (A0 : Option Addr) (c0 : Nat) (l0 : List Int) (a1_0 : Int) (A1_1 : Option Addr) (c1_1 : Nat) (l1_1 : List Int) (a2_0 : Int) (A2_1 : Option Addr) (c2_1 : Nat) (l2_1 : List (S59)) (r : Bool) (w : World) (HT : Hid (BitsW w)) (hr0 : Kd.C (Kd.int .i64) w A0 l0.length l0) (hc0 : l0.length ≤ c0) (hr1_1 : Kd.C (Kd.int .i64) w A1_1 l1_1.length l1_1) (hc1_1 : l1_1.length ≤ c1_1) (hr2_1 : Kd.C k59 w A2_1 l2_1.length l2_1) (hc2_1 : l2_1.length ≤ c2_1) (h : wigeonlaw08_PurseWeighs.f k l0 a1_0 l1_1 a2_0 l2_1 = some r) :
  Calls Tryd.prog 4 #[.slice A0 l0.length c0, .agg #[.int .i64 a1_0, .slice A1_1 l1_1.length c1_1], .agg #[.int .i64 a2_0, .slice A2_1 l2_1.length c2_1]] w fun e w' => e = .returned (.bool r) ∧ Below w.heap.size w w' := by
 have hu31 := Tryd.underlying31
 have hu25 := Tryd.underlying25
 have HR0 := Aside0.mk hr0
 have HC0 := Aside0.mk hc0
 clear hr0 hc0
 have HR1_1 := Aside0.mk hr1_1
 have HC1_1 := Aside0.mk hc1_1
 clear hr1_1 hc1_1
 have HR2_1 := Aside0.mk hr2_1
 have HC2_1 := Aside0.mk hc2_1
 clear hr2_1 hc2_1
 have HB := Aside0.mk (Below.refl w.heap.size w)
 have H : ((wigeonlaw08_long.f l0 l1_1).bind fun t712 => (if t712 = true then (wigeonlaw08_PurseWeighs.j0 k l0 true a1_0 l1_1 a2_0 l2_1) else (wigeonlaw08_PurseWeighs.j0 k l0 (decide ((l2_1.length : Int) > 100)) a1_0 l1_1 a2_0 l2_1))) = some r := h
 clear h
 have HC4 := Aside0.mk H
 clear H
 go_enter Tryd.func4, Tryd.ntmps4
 go_upto_region 1 with (first | ((with_reducible refine gate_dst (N := 4) rfl ?_); (try (refine gate_guard (by rfl) ?_; dsimp only)); refine box_event ?hg (N := 4) ?hd (cs := #[.int .i64 a1_0, .slice A1_1 l1_1.length c1_1]) (t := 31) ?hr ?_; (case hd => rfl); (case hg => rfl); (case hr => first | (go_simp; done) | (go_simp; rfl)); intro gb710 hg w5 hbox hb; have n0_ := Aside0.mk (below_step (by repeat (first | (with_reducible first | exact HB.out | apply below_alloc | apply pw_below_drewN | apply below_drew1) | exact HB.out)) hb); have n1_ := Aside0.mk (hbox); have n2_ := Aside0.mk ((by rw [hg]; exact (below_size (by repeat (first | (with_reducible first | exact HB.out | apply below_alloc | apply pw_below_drewN | apply below_drew1) | exact HB.out))) : w.heap.size ≤ gb710)); have n3_ := Aside0.mk ((by rw [hg]; exact (below_size (by repeat (first | (with_reducible first | exact HB.out | apply below_alloc | apply pw_below_drewN | apply below_drew1) | exact HB.out))) : w.heap.size ≤ gb710)); clear HB; have HB := n0_; have BK710 := n1_; have GW710 := n2_; have GE710 := n3_; clear n0_ n1_ n2_ n3_; clear hb hbox hg) | ((with_reducible refine gate_dst (N := 5) rfl ?_); (try (refine gate_guard (by rfl) ?_; dsimp only)); refine box_event ?hg (N := 5) ?hd (cs := #[.int .i64 a2_0, .slice A2_1 l2_1.length c2_1]) (t := 25) ?hr ?_; (case hd => rfl); (case hg => rfl); (case hr => first | (go_simp; done) | (go_simp; rfl)); intro gb711 hg w6 hbox hb; have n0_ := Aside0.mk (blk_below (g := gb710) (o := .cells #[.int .i64 a1_0, .slice A1_1 l1_1.length c1_1] 31 (0, 0)) (by (with_reducible repeat (first | refine blk_drewN ?_ _ | refine blk_drew ?_ | refine blk_alloc ?_ _)); exact BK710.out) hb); have n1_ := Aside0.mk (below_step (by repeat (first | (with_reducible first | exact HB.out | apply below_alloc | apply pw_below_drewN | apply below_drew1 | refine below_set ?_ GE710.out) | exact HB.out)) hb); have n2_ := Aside0.mk (hbox); have n3_ := Aside0.mk ((by rw [hg]; exact (below_size (by repeat (first | (with_reducible first | exact HB.out | apply below_alloc | apply pw_below_drewN | apply below_drew1 | refine below_set ?_ GE710.out) | exact HB.out))) : w.heap.size ≤ gb711)); have n4_ := Aside0.mk ((by rw [hg]; exact (below_size (by repeat (first | (with_reducible first | exact HB.out | apply below_alloc | apply pw_below_drewN | apply below_drew1 | refine below_set ?_ GE710.out) | exact HB.out))) : w.heap.size ≤ gb711)); have n5_ := Aside0.mk ((by rw [hg]; exact Nat.ne_of_lt (blk_lt (g := gb710) (o := .cells #[.int .i64 a1_0, .slice A1_1 l1_1.length c1_1] 31 (0, 0)) (by (with_reducible repeat (first | refine blk_drewN ?_ _ | refine blk_drew ?_ | refine blk_alloc ?_ _)); exact BK710.out)) : gb710 ≠ gb711)); have n6_ := Aside0.mk ((by rw [hg]; exact Nat.ne_of_gt (blk_lt (g := gb710) (o := .cells #[.int .i64 a1_0, .slice A1_1 l1_1.length c1_1] 31 (0, 0)) (by (with_reducible repeat (first | refine blk_drewN ?_ _ | refine blk_drew ?_ | refine blk_alloc ?_ _)); exact BK710.out)) : gb711 ≠ gb710)); clear BK710; clear HB; have BK710 := n0_; have HB := n1_; have BK711 := n2_; have GW711 := n3_; have GE711 := n4_; have NB710_711 := n5_; have NB711_710 := n6_; clear n0_ n1_ n2_ n3_ n4_ n5_ n6_; clear hb hbox hg))
 (try simp only [Act.put, List.setIfInBounds_toArray, List.set_cons_zero, List.set_cons_succ])
 go_cut [16] (fun v16 wc => ∃ (kq : Nat) (x16_3 : Bool), v16 = .bool x16_3 ∧ Aside0 (wigeonlaw08_PurseWeighs.j0 kq l0 x16_3 a1_0 l1_1 a2_0 l2_1 = some r) ∧ Aside0 (kq ≤ k) ∧ Aside0 (wc.heap[gb710]? = some (.cells #[.int .i64 a1_0, (.slice A1_1 l1_1.length c1_1)] 31 (0, 0))) ∧ Aside0 (wc.heap[gb711]? = some (.cells #[.int .i64 a2_0, (.slice A2_1 l2_1.length c2_1)] 25 (0, 0))) ∧ Aside0 (Below w.heap.size w wc))
 case first =>
  have H := HC4.out
  clear HC4
  replace H := Option.bind_eq_some_iff.mp H
  obtain ⟨t712, A70, H⟩ := H
  replace H : (if t712 = true then (wigeonlaw08_PurseWeighs.j0 k l0 true a1_0 l1_1 a2_0 l2_1) else (wigeonlaw08_PurseWeighs.j0 k l0 (decide ((l2_1.length : Int) > 100)) a1_0 l1_1 a2_0 l2_1)) = some r := H
  have A7 := Aside0.mk A70
  clear A70
  by_cases c8 : t712 = true
  ·subst c8
   have H1 : (wigeonlaw08_PurseWeighs.j0 k l0 true a1_0 l1_1 a2_0 l2_1) = some r := by rw [if_pos rfl] at H; exact H
   clear H
   have H := H1
   clear H1
   have H' := Aside0.mk H
   clear H
   have hnb9 := NB710_711.out
   have hnc9 := NB711_710.out
   have hcz10_0 : w6.cell? ⟨gb710, 0, none⟩ = some (.int .i64 a1_0) := (blk_cell BK710.out 0).trans rfl
   have hcz10_1 : w6.cell? ⟨gb710, 1, none⟩ = some (.slice A1_1 l1_1.length c1_1) := (blk_cell BK710.out 1).trans rfl
   have hfz10_0 := blk_frozen BK710.out 0
   have hfz10_1 := blk_frozen BK710.out 1
   go_wp2_with (first | ((with_reducible refine gate_callee (f := 15) rfl ?_); refine goesL_ (some 10) rfl rfl Tryd.func15 (by kernel_rfl) rfl #[.slice A0 l0.length c0, .slice A1_1 l1_1.length c1_1] rfl (by (try simp only [List.map_toArray, List.map_cons, List.map_nil]); first | done | rfl | (simp only [List.length_drop, List.length_take]; rfl)) ?_; (with_reducible refine (wigeonlaw08_long.calls _ _ l0 _ _ l1_1 true _ ?side1 ?side2 ?side3 ?side4 A7.out).mono ?_); (case side1 => repeat (first | exact (Kd.C_below HR0.out HB.out) | (with_reducible refine Kd.C_alloc ?_ _) | (with_reducible refine Kd.C_drewN ?_ _) | (with_reducible refine Kd.C_drew ?_))); (case side2 => exact HC0.out); (case side3 => repeat (first | exact (Kd.C_below HR1_1.out HB.out) | (with_reducible refine Kd.C_alloc ?_ _) | (with_reducible refine Kd.C_drewN ?_ _) | (with_reducible refine Kd.C_drew ?_))); (case side4 => exact HC1_1.out); rintro e w' ⟨rfl, ⟨nd, rfl⟩⟩; refine ⟨_, rfl, ?_⟩))
   go_meet
   case rel => exact ⟨_, (true), (by first | rfl | (simp; done) | (simp [*]; done)), H', ⟨by first | omega | exact Nat.le_refl _⟩, ⟨by (with_reducible repeat (first | refine blk_drewN ?_ _ | refine blk_drew ?_ | refine blk_alloc ?_ _)); exact BK710.out⟩, ⟨by (with_reducible repeat (first | refine blk_drewN ?_ _ | refine blk_drew ?_ | refine blk_alloc ?_ _)); exact BK711.out⟩, ⟨by repeat (first | (with_reducible first | exact HB.out | apply below_alloc | apply pw_below_drewN | apply below_drew1 | refine below_set ?_ GE710.out | refine below_set ?_ GE711.out) | exact HB.out)⟩⟩
  ·replace c8 := Bool.eq_false_iff.mpr c8
   subst c8
   have H1 : (wigeonlaw08_PurseWeighs.j0 k l0 (decide ((l2_1.length : Int) > 100)) a1_0 l1_1 a2_0 l2_1) = some r := by rw [if_neg (show ¬ (false = true) by decide)] at H; exact H
   clear H
   have H := H1
   clear H1
   have H' := Aside0.mk H
   clear H
   have hnb11 := NB710_711.out
   have hnc11 := NB711_710.out
   have hcz12_0 : w6.cell? ⟨gb710, 0, none⟩ = some (.int .i64 a1_0) := (blk_cell BK710.out 0).trans rfl
   have hcz12_1 : w6.cell? ⟨gb710, 1, none⟩ = some (.slice A1_1 l1_1.length c1_1) := (blk_cell BK710.out 1).trans rfl
   have hfz12_0 := blk_frozen BK710.out 0
   have hfz12_1 := blk_frozen BK710.out 1
   go_wp2_with (first | ((with_reducible refine gate_callee (f := 15) rfl ?_); refine goesL_ (some 10) rfl rfl Tryd.func15 (by kernel_rfl) rfl #[.slice A0 l0.length c0, .slice A1_1 l1_1.length c1_1] rfl (by (try simp only [List.map_toArray, List.map_cons, List.map_nil]); first | done | rfl | (simp only [List.length_drop, List.length_take]; rfl)) ?_; (with_reducible refine (wigeonlaw08_long.calls _ _ l0 _ _ l1_1 false _ ?side1 ?side2 ?side3 ?side4 A7.out).mono ?_); (case side1 => repeat (first | exact (Kd.C_below HR0.out HB.out) | (with_reducible refine Kd.C_alloc ?_ _) | (with_reducible refine Kd.C_drewN ?_ _) | (with_reducible refine Kd.C_drew ?_))); (case side2 => exact HC0.out); (case side3 => repeat (first | exact (Kd.C_below HR1_1.out HB.out) | (with_reducible refine Kd.C_alloc ?_ _) | (with_reducible refine Kd.C_drewN ?_ _) | (with_reducible refine Kd.C_drew ?_))); (case side4 => exact HC1_1.out); rintro e w' ⟨rfl, ⟨nd, rfl⟩⟩; refine ⟨_, rfl, ?_⟩; have hcz13_0 : w6.cell? ⟨gb711, 0, none⟩ = some (.int .i64 a2_0) := (blk_cell BK711.out 0).trans rfl; have hcz13_1 : w6.cell? ⟨gb711, 1, none⟩ = some (.slice A2_1 l2_1.length c2_1) := (blk_cell BK711.out 1).trans rfl; have hfz13_0 := blk_frozen BK711.out 0; have hfz13_1 := blk_frozen BK711.out 1))
   go_meet
   case rel => exact ⟨_, (decide ((l2_1.length : Int) > 100)), (by first | rfl | (simp; done) | (simp [*]; done)), H', ⟨by first | omega | exact Nat.le_refl _⟩, ⟨by (with_reducible repeat (first | refine blk_drewN ?_ _ | refine blk_drew ?_ | refine blk_alloc ?_ _)); exact BK710.out⟩, ⟨by (with_reducible repeat (first | refine blk_drewN ?_ _ | refine blk_drew ?_ | refine blk_alloc ?_ _)); exact BK711.out⟩, ⟨by repeat (first | (with_reducible first | exact HB.out | apply below_alloc | apply pw_below_drewN | apply below_drew1 | refine below_set ?_ GE710.out | refine below_set ?_ GE711.out) | exact HB.out)⟩⟩
 case rest =>
  clear HC4
  try clear c1
  try clear c2
  try clear p2
  try clear c4
  try clear c8
  try clear c9
  try clear c11
  try clear hcz10_0
  try clear hcz10_1
  try clear hcz12_0
  try clear hcz12_1
  try clear hcz13_0
  try clear hcz13_1
  try clear hfz10_0
  try clear hfz10_1
  try clear hfz12_0
  try clear hfz12_1
  try clear hfz13_0
  try clear hfz13_1
  obtain ⟨kq, x16_3, rfl, HA, HJ3, BK710, BK711, HB⟩ := hcut
  cases kq with
  | zero => exact absurd HA.out (by simp [wigeonlaw08_PurseWeighs.j0])
  | succ kj3 =>
   have H := HA.out
   clear HA
   simp only [wigeonlaw08_PurseWeighs.j0] at H
   by_cases c14 : x16_3 = true
   ·subst c14
    have H1 : ((wigeonlaw08_known.f kj3).bind fun t713 => (some t713)) = some r := by rw [if_pos rfl] at H; exact H
    clear H
    have H := H1
    clear H1
    replace H := Option.bind_eq_some_iff.mp H
    obtain ⟨t713, A150, H⟩ := H
    replace H : (some t713) = some r := H
    have A15 := Aside0.mk A150
    clear A150
    obtain rfl := Option.some.inj H
    go_wp2_with (first | ((with_reducible refine gate_callee (f := 16) rfl ?_); refine goesL_ (some 17) rfl rfl Tryd.func16 (by kernel_rfl) rfl #[] rfl (by (try simp only [List.map_toArray, List.map_cons, List.map_nil]); first | done | rfl | (simp only [List.length_drop, List.length_take]; rfl)) ?_; (with_reducible refine (wigeonlaw08_known.calls kj3  t713 _ A15.out).mono ?_); rintro e w16 ⟨rfl, hb⟩; refine ⟨_, rfl, ?_⟩; have n0_ := Aside0.mk (blk_below (g := gb710) (o := .cells #[.int .i64 a1_0, .slice A1_1 l1_1.length c1_1] 31 (0, 0)) (by (with_reducible repeat (first | refine blk_drewN ?_ _ | refine blk_drew ?_ | refine blk_alloc ?_ _)); exact BK710.out) hb); have n1_ := Aside0.mk (blk_below (g := gb711) (o := .cells #[.int .i64 a2_0, .slice A2_1 l2_1.length c2_1] 25 (0, 0)) (by (with_reducible repeat (first | refine blk_drewN ?_ _ | refine blk_drew ?_ | refine blk_alloc ?_ _)); exact BK711.out) hb); have n2_ := Aside0.mk (below_step (by repeat (first | (with_reducible first | exact HB.out | apply below_alloc | apply pw_below_drewN | apply below_drew1 | refine below_set ?_ GE710.out | refine below_set ?_ GE711.out) | exact HB.out)) hb); clear BK710; clear BK711; clear HB; have BK710 := n0_; have BK711 := n1_; have HB := n2_; clear n0_ n1_ n2_; (try clear hb); (try clear hb2); (try clear hk); (try clear hi)))
    go_ret
    exact ⟨by first | rfl | (simp [errW_none, errW_some] <;> rfl) | (simp [*, errW_none, errW_some] <;> rfl), by repeat (first | (with_reducible first | exact HB.out | apply below_alloc | apply pw_below_drewN | apply below_drew1 | refine below_set ?_ GE710.out | refine below_set ?_ GE711.out) | exact HB.out)⟩
   ·replace c14 := Bool.eq_false_iff.mpr c14
    subst c14
    have H1 : ((purse_CheckCore.f kj3 l0 a1_0 l1_1).bind fun t714 => (if t714 = 0 then ((purse_CheckBalance.f kj3 l0 a2_0 l2_1).bind fun t715 => (if t715 = 0 then (none) else ((wigeonlaw08_known.f kj3).bind fun t716 => (some t716)))) else ((wigeonlaw08_known.f kj3).bind fun t717 => (some t717)))) = some r := by rw [if_neg (show ¬ (false = true) by decide)] at H; exact H
    clear H
    have H := H1
    clear H1
    replace H := Option.bind_eq_some_iff.mp H
    obtain ⟨t714, A170, H⟩ := H
    replace H : (if t714 = 0 then ((purse_CheckBalance.f kj3 l0 a2_0 l2_1).bind fun t715 => (if t715 = 0 then (none) else ((wigeonlaw08_known.f kj3).bind fun t716 => (some t716)))) else ((wigeonlaw08_known.f kj3).bind fun t717 => (some t717))) = some r := H
    have A17 := Aside0.mk A170
    clear A170
    by_cases c18 : t714 = 0
    ·rw [if_pos c18] at H
     have c18b0 : (t714 == 0) = true := beq_iff_eq.mpr c18
     have c18b1 : (t714 != 0) = false := bne_eq_false_iff_eq.mpr c18
     clear c18
     replace H := Option.bind_eq_some_iff.mp H
     obtain ⟨t715, A190, H⟩ := H
     replace H : (if t715 = 0 then (none) else ((wigeonlaw08_known.f kj3).bind fun t716 => (some t716))) = some r := H
     have A19 := Aside0.mk A190
     clear A190
     by_cases c20 : t715 = 0
     ·rw [if_pos c20] at H
      exact absurd H (by simp)
     ·rw [if_neg c20] at H
      have c20b0 : (t715 == 0) = false := beq_eq_false_iff_ne.mpr c20
      have c20b1 : (t715 != 0) = true := bne_iff_ne.mpr c20
      replace H := Option.bind_eq_some_iff.mp H
      obtain ⟨t716, A260, H⟩ := H
      replace H : (some t716) = some r := H
      have A26 := Aside0.mk A260
      clear A260
      obtain rfl := Option.some.inj H
      have hnb27 := NB710_711.out
      have hnc27 := NB711_710.out
      have hcz28_0 : wc.cell? ⟨gb710, 0, none⟩ = some (.int .i64 a1_0) := (blk_cell BK710.out 0).trans rfl
      have hcz28_1 : wc.cell? ⟨gb710, 1, none⟩ = some (.slice A1_1 l1_1.length c1_1) := (blk_cell BK710.out 1).trans rfl
      have hfz28_0 := blk_frozen BK710.out 0
      have hfz28_1 := blk_frozen BK710.out 1
      go_wp2_with (first | ((with_reducible refine gate_callee (f := 20) rfl ?_); refine goesL_ (some 20) rfl rfl Tryd.func20 (by kernel_rfl) rfl #[.slice A0 l0.length c0, .agg #[.int .i64 a1_0, .slice A1_1 l1_1.length c1_1]] rfl (by (try simp only [List.map_toArray, List.map_cons, List.map_nil]); first | done | rfl | (simp only [List.length_drop, List.length_take]; rfl)) ?_; (with_reducible refine (purse_CheckCore.calls kj3 _ _ l0 a1_0 _ _ l1_1 t714 _ ?side1 ?side2 ?side3 ?side4 A17.out).mono ?_); (case side1 => repeat (first | exact (Kd.C_below HR0.out HB.out) | (with_reducible refine Kd.C_alloc ?_ _) | (with_reducible refine Kd.C_drewN ?_ _) | (with_reducible refine Kd.C_drew ?_))); (case side2 => exact HC0.out); (case side3 => repeat (first | exact (Kd.C_below HR1_1.out HB.out) | (with_reducible refine Kd.C_alloc ?_ _) | (with_reducible refine Kd.C_drewN ?_ _) | (with_reducible refine Kd.C_drew ?_))); (case side4 => exact HC1_1.out); rintro e w29 ⟨rfl, hb⟩; refine ⟨_, rfl, ?_⟩; have n0_ := Aside0.mk (blk_below (g := gb710) (o := .cells #[.int .i64 a1_0, .slice A1_1 l1_1.length c1_1] 31 (0, 0)) (by (with_reducible repeat (first | refine blk_drewN ?_ _ | refine blk_drew ?_ | refine blk_alloc ?_ _)); exact BK710.out) hb); have n1_ := Aside0.mk (blk_below (g := gb711) (o := .cells #[.int .i64 a2_0, .slice A2_1 l2_1.length c2_1] 25 (0, 0)) (by (with_reducible repeat (first | refine blk_drewN ?_ _ | refine blk_drew ?_ | refine blk_alloc ?_ _)); exact BK711.out) hb); have n2_ := Aside0.mk (below_step (by repeat (first | (with_reducible first | exact HB.out | apply below_alloc | apply pw_below_drewN | apply below_drew1 | refine below_set ?_ GE710.out | refine below_set ?_ GE711.out) | exact HB.out)) hb); clear BK710; clear BK711; clear HB; have BK710 := n0_; have BK711 := n1_; have HB := n2_; clear n0_ n1_ n2_; (try clear hb); (try clear hb2); (try clear hk); (try clear hi); have hcz30_0 : w29.cell? ⟨gb711, 0, none⟩ = some (.int .i64 a2_0) := (blk_cell BK711.out 0).trans rfl; have hcz30_1 : w29.cell? ⟨gb711, 1, none⟩ = some (.slice A2_1 l2_1.length c2_1) := (blk_cell BK711.out 1).trans rfl; have hfz30_0 := blk_frozen BK711.out 0; have hfz30_1 := blk_frozen BK711.out 1) | (go_at_call 17; (with_reducible refine (purse_CheckBalance.calls kj3 _ _ l0 a2_0 _ _ l2_1 t715 _ ?side1 ?side2 ?side3 ?side4 A19.out).mono ?_); (case side1 => repeat (first | exact (Kd.C_below HR0.out HB.out) | (with_reducible refine Kd.C_alloc ?_ _) | (with_reducible refine Kd.C_drewN ?_ _) | (with_reducible refine Kd.C_drew ?_))); (case side2 => exact HC0.out); (case side3 => repeat (first | exact (Kd.C_below HR2_1.out HB.out) | (with_reducible refine Kd.C_alloc ?_ _) | (with_reducible refine Kd.C_drewN ?_ _) | (with_reducible refine Kd.C_drew ?_))); (case side4 => exact HC2_1.out); rintro e w31 ⟨rfl, hb⟩; have n0_ := Aside0.mk (blk_below (g := gb710) (o := .cells #[.int .i64 a1_0, .slice A1_1 l1_1.length c1_1] 31 (0, 0)) (by (with_reducible repeat (first | refine blk_drewN ?_ _ | refine blk_drew ?_ | refine blk_alloc ?_ _)); exact BK710.out) hb); have n1_ := Aside0.mk (blk_below (g := gb711) (o := .cells #[.int .i64 a2_0, .slice A2_1 l2_1.length c2_1] 25 (0, 0)) (by (with_reducible repeat (first | refine blk_drewN ?_ _ | refine blk_drew ?_ | refine blk_alloc ?_ _)); exact BK711.out) hb); have n2_ := Aside0.mk (below_step (by repeat (first | (with_reducible first | exact HB.out | apply below_alloc | apply pw_below_drewN | apply below_drew1 | refine below_set ?_ GE710.out | refine below_set ?_ GE711.out) | exact HB.out)) hb); clear BK710; clear BK711; clear HB; have BK710 := n0_; have BK711 := n1_; have HB := n2_; clear n0_ n1_ n2_; (try clear hb); (try clear hb2); (try clear hk); (try clear hi)) | (go_at_call 16; (with_reducible refine (wigeonlaw08_known.calls kj3  t716 _ A26.out).mono ?_); rintro e w32 ⟨rfl, hb⟩; have n0_ := Aside0.mk (blk_below (g := gb710) (o := .cells #[.int .i64 a1_0, .slice A1_1 l1_1.length c1_1] 31 (0, 0)) (by (with_reducible repeat (first | refine blk_drewN ?_ _ | refine blk_drew ?_ | refine blk_alloc ?_ _)); exact BK710.out) hb); have n1_ := Aside0.mk (blk_below (g := gb711) (o := .cells #[.int .i64 a2_0, .slice A2_1 l2_1.length c2_1] 25 (0, 0)) (by (with_reducible repeat (first | refine blk_drewN ?_ _ | refine blk_drew ?_ | refine blk_alloc ?_ _)); exact BK711.out) hb); have n2_ := Aside0.mk (below_step (by repeat (first | (with_reducible first | exact HB.out | apply below_alloc | apply pw_below_drewN | apply below_drew1 | refine below_set ?_ GE710.out | refine below_set ?_ GE711.out) | exact HB.out)) hb); clear BK710; clear BK711; clear HB; have BK710 := n0_; have BK711 := n1_; have HB := n2_; clear n0_ n1_ n2_; (try clear hb); (try clear hb2); (try clear hk); (try clear hi)))
      go_ret
      exact ⟨by first | rfl | (simp [errW_none, errW_some] <;> rfl) | (simp [*, errW_none, errW_some] <;> rfl), by repeat (first | (with_reducible first | exact HB.out | apply below_alloc | apply pw_below_drewN | apply below_drew1 | refine below_set ?_ GE710.out | refine below_set ?_ GE711.out) | exact HB.out)⟩
    ·rw [if_neg c18] at H
     have c18b0 : (t714 == 0) = false := beq_eq_false_iff_ne.mpr c18
     have c18b1 : (t714 != 0) = true := bne_iff_ne.mpr c18
     replace H := Option.bind_eq_some_iff.mp H
     obtain ⟨t717, A330, H⟩ := H
     replace H : (some t717) = some r := H
     have A33 := Aside0.mk A330
     clear A330
     obtain rfl := Option.some.inj H
     have hnb34 := NB710_711.out
     have hnc34 := NB711_710.out
     have hcz35_0 : wc.cell? ⟨gb710, 0, none⟩ = some (.int .i64 a1_0) := (blk_cell BK710.out 0).trans rfl
     have hcz35_1 : wc.cell? ⟨gb710, 1, none⟩ = some (.slice A1_1 l1_1.length c1_1) := (blk_cell BK710.out 1).trans rfl
     have hfz35_0 := blk_frozen BK710.out 0
     have hfz35_1 := blk_frozen BK710.out 1
     go_wp2_with (first | ((with_reducible refine gate_callee (f := 20) rfl ?_); refine goesL_ (some 20) rfl rfl Tryd.func20 (by kernel_rfl) rfl #[.slice A0 l0.length c0, .agg #[.int .i64 a1_0, .slice A1_1 l1_1.length c1_1]] rfl (by (try simp only [List.map_toArray, List.map_cons, List.map_nil]); first | done | rfl | (simp only [List.length_drop, List.length_take]; rfl)) ?_; (with_reducible refine (purse_CheckCore.calls kj3 _ _ l0 a1_0 _ _ l1_1 t714 _ ?side1 ?side2 ?side3 ?side4 A17.out).mono ?_); (case side1 => repeat (first | exact (Kd.C_below HR0.out HB.out) | (with_reducible refine Kd.C_alloc ?_ _) | (with_reducible refine Kd.C_drewN ?_ _) | (with_reducible refine Kd.C_drew ?_))); (case side2 => exact HC0.out); (case side3 => repeat (first | exact (Kd.C_below HR1_1.out HB.out) | (with_reducible refine Kd.C_alloc ?_ _) | (with_reducible refine Kd.C_drewN ?_ _) | (with_reducible refine Kd.C_drew ?_))); (case side4 => exact HC1_1.out); rintro e w36 ⟨rfl, hb⟩; refine ⟨_, rfl, ?_⟩; have n0_ := Aside0.mk (blk_below (g := gb710) (o := .cells #[.int .i64 a1_0, .slice A1_1 l1_1.length c1_1] 31 (0, 0)) (by (with_reducible repeat (first | refine blk_drewN ?_ _ | refine blk_drew ?_ | refine blk_alloc ?_ _)); exact BK710.out) hb); have n1_ := Aside0.mk (blk_below (g := gb711) (o := .cells #[.int .i64 a2_0, .slice A2_1 l2_1.length c2_1] 25 (0, 0)) (by (with_reducible repeat (first | refine blk_drewN ?_ _ | refine blk_drew ?_ | refine blk_alloc ?_ _)); exact BK711.out) hb); have n2_ := Aside0.mk (below_step (by repeat (first | (with_reducible first | exact HB.out | apply below_alloc | apply pw_below_drewN | apply below_drew1 | refine below_set ?_ GE710.out | refine below_set ?_ GE711.out) | exact HB.out)) hb); clear BK710; clear BK711; clear HB; have BK710 := n0_; have BK711 := n1_; have HB := n2_; clear n0_ n1_ n2_; (try clear hb); (try clear hb2); (try clear hk); (try clear hi)) | (go_at_call 16; (with_reducible refine (wigeonlaw08_known.calls kj3  t717 _ A33.out).mono ?_); rintro e w37 ⟨rfl, hb⟩; have n0_ := Aside0.mk (blk_below (g := gb710) (o := .cells #[.int .i64 a1_0, .slice A1_1 l1_1.length c1_1] 31 (0, 0)) (by (with_reducible repeat (first | refine blk_drewN ?_ _ | refine blk_drew ?_ | refine blk_alloc ?_ _)); exact BK710.out) hb); have n1_ := Aside0.mk (blk_below (g := gb711) (o := .cells #[.int .i64 a2_0, .slice A2_1 l2_1.length c2_1] 25 (0, 0)) (by (with_reducible repeat (first | refine blk_drewN ?_ _ | refine blk_drew ?_ | refine blk_alloc ?_ _)); exact BK711.out) hb); have n2_ := Aside0.mk (below_step (by repeat (first | (with_reducible first | exact HB.out | apply below_alloc | apply pw_below_drewN | apply below_drew1 | refine below_set ?_ GE710.out | refine below_set ?_ GE711.out) | exact HB.out)) hb); clear BK710; clear BK711; clear HB; have BK710 := n0_; have BK711 := n1_; have HB := n2_; clear n0_ n1_ n2_; (try clear hb); (try clear hb2); (try clear hk); (try clear hi)))
     go_ret
     exact ⟨by first | rfl | (simp [errW_none, errW_some] <;> rfl) | (simp [*, errW_none, errW_some] <;> rfl), by repeat (first | (with_reducible first | exact HB.out | apply below_alloc | apply pw_below_drewN | apply below_drew1 | refine below_set ?_ GE710.out | refine below_set ?_ GE711.out) | exact HB.out)⟩

end Go.Proofs.YtjphklemnhgkiaaDoor.Q
