-- Written by a program of this session (wip/tools/gprint.py, over the kit's print); Lean checks it.
import Derived.Test.YtjphklemnhgkiaaDoorPuB
import Derived.Test.YtjphklemnhgkiaaDoorPuA
import Derived.Test.YtjphklemnhgkiaaDoorQx0
import Derived.Test.YtjphklemnhgkiaaDoorQx2
namespace Go.Proofs.YtjphklemnhgkiaaDoor.Q
open Go.RowKit Go.Proofs.YtjphklemnhgkiaaDoorW.PrintWords Go.Proofs.YtjphklemnhgkiaaDoorW.PrintLast Go.Proofs.YtjphklemnhgkiaaDoorW.PrintMore
attribute [local go_sem] max2_int min2_int max_two min_two max_three min_three max_four min_four   -- for this text's walks alone
set_option linter.unusedVariables false
set_option linter.unusedSimpArgs false

/-! ### purse_CheckBalance: function 17 -/
mutual
def purse_CheckBalance.j0 : Nat → List Int → Bool → Int → List (S59) → Option (Int)
 | 0, _, _, _, _ => none
 | k + 1, x0, x25, x107000, x107001 => if x25 = true then (some 1) else ((purse_players.f x0).bind fun t109 => (if 0 ≤ t109 then (if (t109 : Int).toNat ≤ 35184372088832 then (purse_CheckBalance.l0 k x0 0 (List.replicate (t109 : Int).toNat 0) x107001 (x107001.length : Int) 0 x107000 x107001) else (none)) else (none)))
def purse_CheckBalance.l0 : Nat → List Int → Int → List Int → List (S59) → Int → Int → Int → List (S59) → Option (Int)
 | 0, _, _, _, _, _, _, _, _ => none
 | k + 1, x0, x6, x7, x30, x31, x32, x107000, x107001 => if x32 < x31 then (if 0 ≤ x32 then (if x32 < (x30.length : Int) then ((purse_within.f ((rd_T59 x30 x32).f0) 1 (wrap64 ((x0.length : Int) - 1))).bind fun t115 => (if t115 = true then ((purse_within.f ((rd_T59 x30 x32).f1) 1 1000).bind fun t116 => (purse_CheckBalance.j2 k x0 x6 x7 x30 x31 x32 (!t116) x107000 x107001 ((rd_T59 x30 x32).f0) ((rd_T59 x30 x32).f1))) else (purse_CheckBalance.j2 k x0 x6 x7 x30 x31 x32 true x107000 x107001 ((rd_T59 x30 x32).f0) ((rd_T59 x30 x32).f1)))) else (none)) else (none)) else ((purse_uneven.f x7 x107000 x107001).bind fun t121 => (if t121 = true then (some 1) else (if 0 ≤ (wrap64 ((x0.length : Int) - 1)) then (if (wrap64 ((x0.length : Int) - 1)) < (x0.length : Int) then (if x6 ≤ (wrap64 (x107000 * (rd x0 (wrap64 ((x0.length : Int) - 1))))) then (some 7) else (some 0)) else (none)) else (none))))
def purse_CheckBalance.j2 : Nat → List Int → Int → List Int → List (S59) → Int → Int → Bool → Int → List (S59) → Int → Int → Option (Int)
 | 0, _, _, _, _, _, _, _, _, _, _, _ => none
 | k + 1, x0, x6, x7, x30, x31, x32, x48, x107000, x107001, x115000, x115001 => if x48 = true then (some 1) else (if 0 ≤ x115000 then (if x115000 < (x0.length : Int) then (purse_CheckBalance.l1 k x0 (wrap64 (x6 + (wrap64 (x115001 * (rd x0 x115000))))) x7 x30 x31 x32 (x7.length : Int) 0 x107000 x107001 x115000 x115001) else (none)) else (none))
def purse_CheckBalance.l1 : Nat → List Int → Int → List Int → List (S59) → Int → Int → Int → Int → Int → List (S59) → Int → Int → Option (Int)
 | 0, _, _, _, _, _, _, _, _, _, _, _, _ => none
 | k + 1, x0, x6, x7, x30, x31, x32, x60, x61, x107000, x107001, x115000, x115001 => if x61 < x60 then ((purse_player_in.f x61 x115000).bind fun t118 => (if t118 = true then (if 0 ≤ x61 then (if x61 < (x7.length : Int) then (purse_CheckBalance.l1 k x0 x6 (x7.set (x61 : Int).toNat (wrap64 ((rd x7 x61) + x115001))) x30 x31 x32 x60 (wrap64 (x61 + 1)) x107000 x107001 x115000 x115001) else (none)) else (none)) else (purse_CheckBalance.l1 k x0 x6 x7 x30 x31 x32 x60 (wrap64 (x61 + 1)) x107000 x107001 x115000 x115001))) else (purse_CheckBalance.l0 k x0 x6 x7 x30 x31 (wrap64 (x32 + 1)) x107000 x107001)
end
def purse_CheckBalance.f (k : Nat) (l0 : List Int) (a1_0 : Int) (l1_1 : List (S59)) : Option (Int) := (purse_Validate.f l0).bind fun t107 => (if t107 = 0 then ((purse_within.f a1_0 1 1000).bind fun t108 => (if t108 = true then (purse_CheckBalance.j0 k l0 (decide ((l1_1.length : Int) > 32)) a1_0 l1_1) else (purse_CheckBalance.j0 k l0 true a1_0 l1_1))) else (some t107))
theorem purse_CheckBalance.mono_l : ∀ k, (∀ y0 y1 y2 y3, LeO (purse_CheckBalance.j0 k y0 y1 y2 y3) (purse_CheckBalance.j0 (k + 1) y0 y1 y2 y3)) ∧ (∀ y0 y1 y2 y3 y4 y5 y6 y7, LeO (purse_CheckBalance.l0 k y0 y1 y2 y3 y4 y5 y6 y7) (purse_CheckBalance.l0 (k + 1) y0 y1 y2 y3 y4 y5 y6 y7)) ∧ (∀ y0 y1 y2 y3 y4 y5 y6 y7 y8 y9 y10, LeO (purse_CheckBalance.j2 k y0 y1 y2 y3 y4 y5 y6 y7 y8 y9 y10) (purse_CheckBalance.j2 (k + 1) y0 y1 y2 y3 y4 y5 y6 y7 y8 y9 y10)) ∧ (∀ y0 y1 y2 y3 y4 y5 y6 y7 y8 y9 y10 y11, LeO (purse_CheckBalance.l1 k y0 y1 y2 y3 y4 y5 y6 y7 y8 y9 y10 y11) (purse_CheckBalance.l1 (k + 1) y0 y1 y2 y3 y4 y5 y6 y7 y8 y9 y10 y11))
 | 0 => ⟨fun _ _ _ _ r h => by simp [purse_CheckBalance.j0] at h, fun _ _ _ _ _ _ _ _ r h => by simp [purse_CheckBalance.l0] at h, fun _ _ _ _ _ _ _ _ _ _ _ r h => by simp [purse_CheckBalance.j2] at h, fun _ _ _ _ _ _ _ _ _ _ _ _ r h => by simp [purse_CheckBalance.l1] at h⟩
 | k + 1 => by
  obtain ⟨ih0, ih1, ih2, ih3⟩ := purse_CheckBalance.mono_l k
  refine ⟨?_, ?_, ?_, ?_⟩
  ·intro y0 y1 y2 y3
   unfold purse_CheckBalance.j0
   repeat' first
   | (with_reducible exact ih0 _ _ _ _)
   | (with_reducible exact ih1 _ _ _ _ _ _ _ _)
   | (with_reducible exact ih2 _ _ _ _ _ _ _ _ _ _ _)
   | (with_reducible exact ih3 _ _ _ _ _ _ _ _ _ _ _ _)
   | (with_reducible exact LeO.refl _)
   | (with_reducible exact LeO.none _)
   | (with_reducible refine LeO.ite ?_ ?_)
   | (with_reducible refine LeO.bind ?_ (fun _ => ?_))
   | exact ih0 _ _ _ _
   | exact ih1 _ _ _ _ _ _ _ _
   | exact ih2 _ _ _ _ _ _ _ _ _ _ _
   | exact ih3 _ _ _ _ _ _ _ _ _ _ _ _
   | exact LeO.none _
   | refine LeO.ite ?_ ?_
   | refine LeO.bind ?_ (fun _ => ?_)
  ·intro y0 y1 y2 y3 y4 y5 y6 y7
   unfold purse_CheckBalance.l0
   repeat' first
   | (with_reducible exact ih0 _ _ _ _)
   | (with_reducible exact ih1 _ _ _ _ _ _ _ _)
   | (with_reducible exact ih2 _ _ _ _ _ _ _ _ _ _ _)
   | (with_reducible exact ih3 _ _ _ _ _ _ _ _ _ _ _ _)
   | (with_reducible exact LeO.refl _)
   | (with_reducible exact LeO.none _)
   | (with_reducible refine LeO.ite ?_ ?_)
   | (with_reducible refine LeO.bind ?_ (fun _ => ?_))
   | exact ih0 _ _ _ _
   | exact ih1 _ _ _ _ _ _ _ _
   | exact ih2 _ _ _ _ _ _ _ _ _ _ _
   | exact ih3 _ _ _ _ _ _ _ _ _ _ _ _
   | exact LeO.none _
   | refine LeO.ite ?_ ?_
   | refine LeO.bind ?_ (fun _ => ?_)
  ·intro y0 y1 y2 y3 y4 y5 y6 y7 y8 y9 y10
   unfold purse_CheckBalance.j2
   repeat' first
   | (with_reducible exact ih0 _ _ _ _)
   | (with_reducible exact ih1 _ _ _ _ _ _ _ _)
   | (with_reducible exact ih2 _ _ _ _ _ _ _ _ _ _ _)
   | (with_reducible exact ih3 _ _ _ _ _ _ _ _ _ _ _ _)
   | (with_reducible exact LeO.refl _)
   | (with_reducible exact LeO.none _)
   | (with_reducible refine LeO.ite ?_ ?_)
   | (with_reducible refine LeO.bind ?_ (fun _ => ?_))
   | exact ih0 _ _ _ _
   | exact ih1 _ _ _ _ _ _ _ _
   | exact ih2 _ _ _ _ _ _ _ _ _ _ _
   | exact ih3 _ _ _ _ _ _ _ _ _ _ _ _
   | exact LeO.none _
   | refine LeO.ite ?_ ?_
   | refine LeO.bind ?_ (fun _ => ?_)
  ·intro y0 y1 y2 y3 y4 y5 y6 y7 y8 y9 y10 y11
   unfold purse_CheckBalance.l1
   repeat' first
   | (with_reducible exact ih0 _ _ _ _)
   | (with_reducible exact ih1 _ _ _ _ _ _ _ _)
   | (with_reducible exact ih2 _ _ _ _ _ _ _ _ _ _ _)
   | (with_reducible exact ih3 _ _ _ _ _ _ _ _ _ _ _ _)
   | (with_reducible exact LeO.refl _)
   | (with_reducible exact LeO.none _)
   | (with_reducible refine LeO.ite ?_ ?_)
   | (with_reducible refine LeO.bind ?_ (fun _ => ?_))
   | exact ih0 _ _ _ _
   | exact ih1 _ _ _ _ _ _ _ _
   | exact ih2 _ _ _ _ _ _ _ _ _ _ _
   | exact ih3 _ _ _ _ _ _ _ _ _ _ _ _
   | exact LeO.none _
   | refine LeO.ite ?_ ?_
   | refine LeO.bind ?_ (fun _ => ?_)
theorem purse_CheckBalance.mono : ∀ a0 a1 a2 k, LeO (purse_CheckBalance.f k a0 a1 a2) (purse_CheckBalance.f (k + 1) a0 a1 a2) := by
 intro a0 a1 a2 k
 obtain ⟨ih0, ih1, ih2, ih3⟩ := purse_CheckBalance.mono_l k
 unfold purse_CheckBalance.f
 repeat' first
   | (with_reducible exact ih0 _ _ _ _)
   | (with_reducible exact ih1 _ _ _ _ _ _ _ _)
   | (with_reducible exact ih2 _ _ _ _ _ _ _ _ _ _ _)
   | (with_reducible exact ih3 _ _ _ _ _ _ _ _ _ _ _ _)
   | (with_reducible exact LeO.refl _)
   | (with_reducible exact LeO.none _)
   | (with_reducible refine LeO.ite ?_ ?_)
   | (with_reducible refine LeO.bind ?_ (fun _ => ?_))
   | exact ih0 _ _ _ _
   | exact ih1 _ _ _ _ _ _ _ _
   | exact ih2 _ _ _ _ _ _ _ _ _ _ _
   | exact ih3 _ _ _ _ _ _ _ _ _ _ _ _
   | exact LeO.none _
   | refine LeO.ite ?_ ?_
   | refine LeO.bind ?_ (fun _ => ?_)
def purse_CheckBalance.T13 : Bool × List (List Nat × List Nat) := (true, [([], []), ([], []), ([1], [1]), ([], []), ([], []), ([4], [4]), ([3, 5], [3, 5]), ([6], [6]), ([2, 7], [2, 7]), ([0, 8], [0, 8]), ([9, 0, 1, 2, 3, 4, 5, 6, 7, 8, 9], [0, 9])])
def purse_CheckBalance.B13 : List Nat := [0, 0, 2, 0, 0, 16, 56, 120, 254, 511, 1023]
theorem purse_CheckBalance.tab13 : rtab .any (opsOf Tryd.f17 13) = purse_CheckBalance.T13 := by kernel_rfl
theorem purse_CheckBalance.bits13 : waitsOk purse_CheckBalance.T13.2 purse_CheckBalance.B13 = true := by kernel_rfl
def purse_CheckBalance.T18 : Bool × List (List Nat × List Nat) := (true, [([], []), ([], []), ([0, 1], [0, 1]), ([2], [2]), ([], []), ([4], [4]), ([3, 5], [3, 5]), ([0, 1, 0, 1, 2, 3, 4, 5, 6], [0, 1]), ([7, 6, 0, 1, 2, 3, 4, 5, 6], [6, 7])])
def purse_CheckBalance.B18 : List Nat := [0, 0, 3, 7, 0, 16, 63, 127, 255]
theorem purse_CheckBalance.tab18 : rtab .any (opsOf Tryd.f17 18) = purse_CheckBalance.T18 := by kernel_rfl
theorem purse_CheckBalance.bits18 : waitsOk purse_CheckBalance.T18.2 purse_CheckBalance.B18 = true := by kernel_rfl
def purse_CheckBalance.T23 : Bool × List (List Nat × List Nat) := (true, [([], []), ([], []), ([1], [1]), ([], []), ([], []), ([4], [4]), ([5], [5]), ([3, 6], [3, 6]), ([7], [7]), ([2, 8], [2, 8]), ([0, 9], [0, 9])])
def purse_CheckBalance.B23 : List Nat := [0, 0, 2, 0, 0, 16, 48, 120, 248, 510, 1023]
theorem purse_CheckBalance.tab23 : rtab .any (opsOf Tryd.f17 23) = purse_CheckBalance.T23 := by kernel_rfl
theorem purse_CheckBalance.bits23 : waitsOk purse_CheckBalance.T23.2 purse_CheckBalance.B23 = true := by kernel_rfl
set_option maxHeartbeats 8000000 in
set_option maxRecDepth 100000 in
theorem purse_CheckBalance.calls (k : Nat) (A0 : Option Addr) (c0 : Nat) (l0 : List Int) (a1_0 : Int) (A1_1 : Option Addr) (c1_1 : Nat) (l1_1 : List (S59)) (r : Int) (w : World) (hr0 : Kd.C (Kd.int .i64) w A0 l0.length l0) (hc0 : l0.length ≤ c0) (hr1_1 : Kd.C k59 w A1_1 l1_1.length l1_1) (hc1_1 : l1_1.length ≤ c1_1) (h : purse_CheckBalance.f k l0 a1_0 l1_1 = some r) (hT : BitsW w := by first | exact HT.out | exact HT.out.below HB.out | exact HT.out.below (by repeat (first | (with_reducible first | exact HB.out | exact Below.refl _ _ | apply below_alloc | apply pw_below_drewN | apply below_drew1) | exact HB.out))) :
  Calls Tryd.prog 17 #[.slice A0 l0.length c0, .agg #[.int .i64 a1_0, .slice A1_1 l1_1.length c1_1]] w fun e w' => e = .returned (.int .i64 r) ∧ Below w.heap.size w w' := by
 have hmf : ∀ (fn : Fn) (first cap : Array Value) (w : World), (Instr.makeFunc fn first cap).run Tryd.prog w = .ok (.func fn first cap) w := fun _ _ _ _ => rfl
 have HT := Lib.hid hT
 clear hT
 have hu25 := Tryd.underlying25
 have hu59 := Tryd.underlying59
 have HR0 := Aside0.mk hr0
 have HC0 := Aside0.mk hc0
 clear hr0 hc0
 have HR1_1 := Aside0.mk hr1_1
 have HC1_1 := Aside0.mk hc1_1
 clear hr1_1 hc1_1
 have HB := Aside0.mk (Below.refl w.heap.size w)
 have H : ((purse_Validate.f l0).bind fun t107 => (if t107 = 0 then ((purse_within.f a1_0 1 1000).bind fun t108 => (if t108 = true then (purse_CheckBalance.j0 k l0 (decide ((l1_1.length : Int) > 32)) a1_0 l1_1) else (purse_CheckBalance.j0 k l0 true a1_0 l1_1))) else (some t107))) = some r := h
 clear h
 replace H := Option.bind_eq_some_iff.mp H
 obtain ⟨t107, A30, H⟩ := H
 replace H : (if t107 = 0 then ((purse_within.f a1_0 1 1000).bind fun t108 => (if t108 = true then (purse_CheckBalance.j0 k l0 (decide ((l1_1.length : Int) > 32)) a1_0 l1_1) else (purse_CheckBalance.j0 k l0 true a1_0 l1_1))) else (some t107)) = some r := H
 have A3 := Aside0.mk A30
 clear A30
 by_cases c4 : t107 = 0
 ·rw [if_pos c4] at H
  have c4b0 : (t107 == 0) = true := beq_iff_eq.mpr c4
  have c4b1 : (t107 != 0) = false := bne_eq_false_iff_eq.mpr c4
  clear c4
  have HC5 := Aside0.mk H
  clear H
  go_enter Tryd.func17, Tryd.ntmps17
  go_upto_region 4 with (first | ((with_reducible refine gate_dst (N := 3) rfl ?_); (try (refine gate_guard (by rfl) ?_; dsimp only)); refine box_event ?hg (N := 3) ?hd (cs := #[.int .i64 a1_0, .slice A1_1 l1_1.length c1_1]) (t := 25) ?hr ?_; (case hd => rfl); (case hg => rfl); (case hr => first | (go_simp; done) | (go_simp; rfl)); intro gb106 hg w6 hbox hb; have n0_ := Aside0.mk (below_step (by repeat (first | (with_reducible first | exact HB.out | apply below_alloc | apply pw_below_drewN | apply below_drew1) | exact HB.out)) hb); have n1_ := Aside0.mk (hbox); have n2_ := Aside0.mk ((by rw [hg]; exact (below_size (by repeat (first | (with_reducible first | exact HB.out | apply below_alloc | apply pw_below_drewN | apply below_drew1) | exact HB.out))) : w.heap.size ≤ gb106)); have n3_ := Aside0.mk ((by rw [hg]; exact (below_size (by repeat (first | (with_reducible first | exact HB.out | apply below_alloc | apply pw_below_drewN | apply below_drew1) | exact HB.out))) : w.heap.size ≤ gb106)); clear HB; have HB := n0_; have BK106 := n1_; have GW106 := n2_; have GE106 := n3_; clear n0_ n1_ n2_ n3_; clear hb hbox hg) | ((with_reducible refine gate_callee (f := 42) rfl ?_); refine goesL_ (some 12) rfl rfl Tryd.func42 (by kernel_rfl) rfl #[.slice A0 l0.length c0] rfl (by (try simp only [List.map_toArray, List.map_cons, List.map_nil]); first | done | rfl | (simp only [List.length_drop, List.length_take]; rfl)) ?_; (with_reducible refine (purse_Validate.calls _ _ l0 t107 _ ?side1 ?side2 A3.out).mono ?_); (case side1 => repeat (first | exact (Kd.C_below HR0.out HB.out) | (with_reducible refine Kd.C_alloc ?_ _) | (with_reducible refine Kd.C_drewN ?_ _) | (with_reducible refine Kd.C_drew ?_))); (case side2 => exact HC0.out); rintro e w' ⟨rfl, ⟨nd, rfl⟩⟩; refine ⟨_, rfl, ?_⟩))
  (try simp only [Act.put, List.setIfInBounds_toArray, List.set_cons_zero, List.set_cons_succ])
  go_cut [25] (fun v25 wc => ∃ (kq : Nat) (x25_4 : Bool), v25 = .bool x25_4 ∧ Aside0 (purse_CheckBalance.j0 kq l0 x25_4 a1_0 l1_1 = some r) ∧ Aside0 (kq ≤ k) ∧ Aside0 (wc.heap[gb106]? = some (.cells #[.int .i64 a1_0, (.slice A1_1 l1_1.length c1_1)] 25 (0, 0))) ∧ Aside0 (Below w.heap.size w wc))
  case first =>
   have H := HC5.out
   clear HC5
   replace H := Option.bind_eq_some_iff.mp H
   obtain ⟨t108, A70, H⟩ := H
   replace H : (if t108 = true then (purse_CheckBalance.j0 k l0 (decide ((l1_1.length : Int) > 32)) a1_0 l1_1) else (purse_CheckBalance.j0 k l0 true a1_0 l1_1)) = some r := H
   have A7 := Aside0.mk A70
   clear A70
   by_cases c8 : t108 = true
   ·subst c8
    have H1 : (purse_CheckBalance.j0 k l0 (decide ((l1_1.length : Int) > 32)) a1_0 l1_1) = some r := by rw [if_pos rfl] at H; exact H
    clear H
    have H := H1
    clear H1
    have H' := Aside0.mk H
    clear H
    have hcz9_0 : w6.cell? ⟨gb106, 0, none⟩ = some (.int .i64 a1_0) := (blk_cell BK106.out 0).trans rfl
    have hcz9_1 : w6.cell? ⟨gb106, 1, none⟩ = some (.slice A1_1 l1_1.length c1_1) := (blk_cell BK106.out 1).trans rfl
    have hfz9_0 := blk_frozen BK106.out 0
    have hfz9_1 := blk_frozen BK106.out 1
    go_wp2_with (first | ((with_reducible refine gate_callee (f := 48) rfl ?_); refine goesL_ (some 18) rfl rfl Tryd.func48 (by kernel_rfl) rfl #[.int .i64 a1_0, .int .i64 1, .int .i64 1000] rfl (by (try simp only [List.map_toArray, List.map_cons, List.map_nil]); first | done | rfl | (simp only [List.length_drop, List.length_take]; rfl)) ?_; (with_reducible refine (purse_within.calls a1_0 1 1000 true _ A7.out).mono ?_); rintro e w' ⟨rfl, ⟨nd, rfl⟩⟩; refine ⟨_, rfl, ?_⟩))
    go_meet
    case rel => exact ⟨_, (decide ((l1_1.length : Int) > 32)), (by first | rfl | (simp; done) | (simp [*]; done)), H', ⟨by first | omega | exact Nat.le_refl _⟩, ⟨by (with_reducible repeat (first | refine blk_drewN ?_ _ | refine blk_drew ?_ | refine blk_alloc ?_ _)); exact BK106.out⟩, ⟨by repeat (first | (with_reducible first | exact HB.out | apply below_alloc | apply pw_below_drewN | apply below_drew1 | refine below_set ?_ GE106.out) | exact HB.out)⟩⟩
   ·replace c8 := Bool.eq_false_iff.mpr c8
    subst c8
    have H1 : (purse_CheckBalance.j0 k l0 true a1_0 l1_1) = some r := by rw [if_neg (show ¬ (false = true) by decide)] at H; exact H
    clear H
    have H := H1
    clear H1
    have H' := Aside0.mk H
    clear H
    have hcz10_0 : w6.cell? ⟨gb106, 0, none⟩ = some (.int .i64 a1_0) := (blk_cell BK106.out 0).trans rfl
    have hcz10_1 : w6.cell? ⟨gb106, 1, none⟩ = some (.slice A1_1 l1_1.length c1_1) := (blk_cell BK106.out 1).trans rfl
    have hfz10_0 := blk_frozen BK106.out 0
    have hfz10_1 := blk_frozen BK106.out 1
    go_wp2_with (first | ((with_reducible refine gate_callee (f := 48) rfl ?_); refine goesL_ (some 18) rfl rfl Tryd.func48 (by kernel_rfl) rfl #[.int .i64 a1_0, .int .i64 1, .int .i64 1000] rfl (by (try simp only [List.map_toArray, List.map_cons, List.map_nil]); first | done | rfl | (simp only [List.length_drop, List.length_take]; rfl)) ?_; (with_reducible refine (purse_within.calls a1_0 1 1000 false _ A7.out).mono ?_); rintro e w' ⟨rfl, ⟨nd, rfl⟩⟩; refine ⟨_, rfl, ?_⟩))
    go_meet
    case rel => exact ⟨_, (true), (by first | rfl | (simp; done) | (simp [*]; done)), H', ⟨by first | omega | exact Nat.le_refl _⟩, ⟨by (with_reducible repeat (first | refine blk_drewN ?_ _ | refine blk_drew ?_ | refine blk_alloc ?_ _)); exact BK106.out⟩, ⟨by repeat (first | (with_reducible first | exact HB.out | apply below_alloc | apply pw_below_drewN | apply below_drew1 | refine below_set ?_ GE106.out) | exact HB.out)⟩⟩
  case rest =>
   clear HC5
   try clear c1
   try clear p2
   try clear c4
   try clear c4b0
   try clear c4b1
   try clear c8
   try clear hcz10_0
   try clear hcz10_1
   try clear hcz9_0
   try clear hcz9_1
   try clear hfz10_0
   try clear hfz10_1
   try clear hfz9_0
   try clear hfz9_1
   obtain ⟨kq, x25_4, rfl, HA, HJ4, BK106, HB⟩ := hcut
   cases kq with
   | zero => exact absurd HA.out (by simp [purse_CheckBalance.j0])
   | succ kj4 =>
    have H := HA.out
    clear HA
    simp only [purse_CheckBalance.j0] at H
    by_cases c11 : x25_4 = true
    ·subst c11
     have H1 : (some 1) = some r := by rw [if_pos rfl] at H; exact H
     clear H
     have H := H1
     clear H1
     obtain rfl := Option.some.inj H
     go_wp2
     go_ret
     exact ⟨by first | rfl | (simp [errW_none, errW_some] <;> rfl) | (simp [*, errW_none, errW_some] <;> rfl), by repeat (first | (with_reducible first | exact HB.out | apply below_alloc | apply pw_below_drewN | apply below_drew1 | refine below_set ?_ GE106.out) | exact HB.out)⟩
    ·replace c11 := Bool.eq_false_iff.mpr c11
     subst c11
     have H1 : ((purse_players.f l0).bind fun t109 => (if 0 ≤ t109 then (if (t109 : Int).toNat ≤ 35184372088832 then (purse_CheckBalance.l0 kj4 l0 0 (List.replicate (t109 : Int).toNat 0) l1_1 (l1_1.length : Int) 0 a1_0 l1_1) else (none)) else (none))) = some r := by rw [if_neg (show ¬ (false = true) by decide)] at H; exact H
     clear H
     have H := H1
     clear H1
     replace H := Option.bind_eq_some_iff.mp H
     obtain ⟨t109, A120, H⟩ := H
     replace H : (if 0 ≤ t109 then (if (t109 : Int).toNat ≤ 35184372088832 then (purse_CheckBalance.l0 kj4 l0 0 (List.replicate (t109 : Int).toNat 0) l1_1 (l1_1.length : Int) 0 a1_0 l1_1) else (none)) else (none)) = some r := H
     have A12 := Aside0.mk A120
     clear A120
     by_cases c13 : 0 ≤ t109
     ·rw [if_pos c13] at H
      have c13b0 := eq_true c13
      have c13b1 : decide (0 ≤ t109) = true := decide_eq_true c13
      clear c13
      by_cases c14 : (t109 : Int).toNat ≤ 35184372088832
      ·rw [if_pos c14] at H
       have c14b0 := eq_true c14
       have c14b1 : decide ((t109 : Int).toNat ≤ 35184372088832) = true := decide_eq_true c14
       clear c14
       obtain ⟨y110, hy110⟩ : ∃ y_ : List Int, y_ = (List.replicate (t109 : Int).toNat 0) := ⟨_, rfl⟩
       replace H : (purse_CheckBalance.l0 kj4 l0 0 y110 l1_1 (l1_1.length : Int) 0 a1_0 l1_1) = some r := by first | (rw [hy110]; with_reducible exact H) | (have H2_ := (Option.bind_some _ _).symm.trans H; rw [hy110]; with_reducible exact H2_) | (have H2_ := (Option.bind_some _ _).symm.trans H; with_reducible exact H2_) | with_reducible exact H | (rw [hy110]; exact H) | exact H
       have Ny110 := Aside0.mk hy110
       clear hy110
       have H' := Aside0.mk H
       clear H
       go_wp2_with (first | ((with_reducible refine gate_callee (f := 49) rfl ?_); refine goesL_ (some 27) rfl rfl Tryd.func49 (by kernel_rfl) rfl #[.slice A0 l0.length c0] rfl (by (try simp only [List.map_toArray, List.map_cons, List.map_nil]); first | done | rfl | (simp only [List.length_drop, List.length_take]; rfl)) ?_; (with_reducible refine (purse_players.calls _ _ l0 t109 _ ?side1 ?side2 A12.out).mono ?_); (case side1 => repeat (first | exact (Kd.C_below HR0.out HB.out) | (with_reducible refine Kd.C_alloc ?_ _) | (with_reducible refine Kd.C_drewN ?_ _) | (with_reducible refine Kd.C_drew ?_))); (case side2 => exact HC0.out); rintro e w' ⟨rfl, ⟨nd, rfl⟩⟩; refine ⟨_, rfl, ?_⟩) | ((with_reducible refine gate_dst (N := 28) rfl ?_); (try (refine gate_guard (by rfl) ?_; dsimp only)); refine Kd.R_make (Kd.int .i64) _ 3 rfl (N := 28) rfl 22 _ _ rfl t109 rfl rfl Tryd.underlying22 (.int .i64 0) 8 info3 rfl (by decide) (by omega) 0 (ok := fun _ => True) (okp := fun _ => True) rfl (fun _ hk => hk) trivial (of_decide_eq_true (by first | (with_reducible assumption) | assumption)) (Nat.le_trans (Nat.mul_le_mul_right _ (of_decide_eq_true (by first | (with_reducible assumption) | assumption) : t109.toNat ≤ 35184372088832)) (by omega)) (Below.refl _ _) (Nat.le_refl _) ?_; intro v111 w15 ho16 hb hg_ hnew_; clear hg_ hnew_; (first | rw [← Ny110.out] at ho16 | (simp only [Int.reduceToNat] at ho16; rw [← Ny110.out] at ho16)); have n0_ := Aside0.mk (Kd.R_lower ho16 (below_size (by repeat (first | (with_reducible first | exact HB.out | apply below_alloc | apply pw_below_drewN | apply below_drew1 | refine below_set ?_ GE106.out) | exact HB.out)))); have n1_ := Aside0.mk (blk_below (g := gb106) (o := .cells #[.int .i64 a1_0, .slice A1_1 l1_1.length c1_1] 25 (0, 0)) (by (with_reducible repeat (first | refine blk_drewN ?_ _ | refine blk_drew ?_ | refine blk_alloc ?_ _)); exact BK106.out) hb); have n2_ := Aside0.mk (below_step (by repeat (first | (with_reducible first | exact HB.out | apply below_alloc | apply pw_below_drewN | apply below_drew1 | refine below_set ?_ GE106.out) | exact HB.out)) hb); clear BK106; clear HB; have HO112 := n0_; have BK106 := n1_; have HB := n2_; clear n0_ n1_ n2_; clear hb ho16; have hcz17_0 : w15.cell? ⟨gb106, 0, none⟩ = some (.int .i64 a1_0) := (blk_cell BK106.out 0).trans rfl; have hcz17_1 : w15.cell? ⟨gb106, 1, none⟩ = some (.slice A1_1 l1_1.length c1_1) := (blk_cell BK106.out 1).trans rfl; have hfz17_0 := blk_frozen BK106.out 0; have hfz17_1 := blk_frozen BK106.out 1))
       go_loopg [6, 32] kj4 (fun kq v6 v32 w' => ∃ (x6_2 : Int) (x7_2 : List Int) (x32_2 : Int), v6 = .int .i64 x6_2 ∧ v32 = .int .i64 x32_2 ∧ Aside0 (purse_CheckBalance.l0 kq l0 x6_2 x7_2 l1_1 (l1_1.length : Int) x32_2 a1_0 l1_1 = some r) ∧ Aside0 (kq ≤ kj4) ∧ Aside0 (Kd.R (Kd.int .i64) 3 w' w.heap.size (fun _ => True) v111 x7_2) ∧ Aside0 (w'.heap[gb106]? = some (.cells #[.int .i64 a1_0, (.slice A1_1 l1_1.length c1_1)] 25 (0, 0))) ∧ Aside0 (Below w.heap.size w w'))
       case atStart => exact ⟨(0), (y110), (0), (by first | rfl | (simp; done) | (simp [*]; done)), (by first | rfl | (simp; done) | (simp [*]; done)), H', ⟨Nat.le_refl _⟩, ⟨by (with_reducible repeat (first | apply Kd.R_alloc | apply Kd.R_drewN | apply Kd.R_drew)); exact HO112.out⟩, ⟨by (with_reducible repeat (first | refine blk_drewN ?_ _ | refine blk_drew ?_ | refine blk_alloc ?_ _)); exact BK106.out⟩, ⟨by repeat (first | (with_reducible first | exact HB.out | apply below_alloc | apply pw_below_drewN | apply below_drew1 | refine below_set ?_ GE106.out) | exact HB.out)⟩⟩
       case round =>
        clear H'
        try clear c1
        try clear p2
        try clear c4
        try clear c4b0
        try clear c4b1
        try clear c8
        try clear c11
        try clear c13
        try clear c13b0
        try clear c13b1
        try clear c14
        try clear c14b0
        try clear c14b1
        try clear c17
        try clear hcz10_0
        try clear hcz10_1
        try clear hcz17_0
        try clear hcz17_1
        try clear hcz9_0
        try clear hcz9_1
        try clear hfz10_0
        try clear hfz10_1
        try clear hfz17_0
        try clear hfz17_1
        try clear hfz9_0
        try clear hfz9_1
        try clear p2
        obtain ⟨x6_2, x7_2, x32_2, rfl, rfl, HA, HK2, HO_7, BK106, HB⟩ := hrel
        cases gk with
        | zero => exact absurd HA.out (by simp [purse_CheckBalance.l0])
        | succ k2 =>
         have H := HA.out
         clear HA
         simp only [purse_CheckBalance.l0] at H
         by_cases c18 : x32_2 < (l1_1.length : Int)
         ·rw [if_pos c18] at H
          have c18b0 : decide (x32_2 < (l1_1.length : Int)) = true := decide_eq_true c18
          clear c18
          by_cases c19 : 0 ≤ x32_2
          ·rw [if_pos c19] at H
           have c19b0 : decide (0 ≤ x32_2) = true := decide_eq_true c19
           clear c19
           by_cases c20 : x32_2 < (l1_1.length : Int)
           ·rw [if_pos c20] at H
            have c20b0 : decide (x32_2 < (l1_1.length : Int)) = true := decide_eq_true c20
            clear c20
            have HC21 := Aside0.mk H
            clear H
            have p113 : 0 ≤ (x32_2 : Int) := of_decide_eq_true (by first | (with_reducible assumption) | assumption)
            have q113 : x32_2 < (l1_1.length : Int) := of_decide_eq_true (by first | (with_reducible assumption) | assumption)
            obtain ⟨ad113, e113, hx113_0, hx113_1⟩ := at_T59 HR1_1.out x32_2 p113 q113
            cases e113
            replace hx113_0 := (HB.out.cell (World.block_lt_of_cell? w _ hx113_0)).trans hx113_0
            replace hx113_1 := (HB.out.cell (World.block_lt_of_cell? w _ hx113_1)).trans hx113_1
            replace p113 := eq_true p113
            replace q113 := eq_true q113
            go_upto_region 11 with (first | ((with_reducible refine gate_dst (N := 9) rfl ?_); (try (refine gate_guard (by rfl) ?_; dsimp only)); refine box_event ?hg (N := 9) ?hd (cs := #[.int .i64 0, .int .i64 0]) (t := 59) ?hr ?_; (case hd => rfl); (case hg => rfl); (case hr => first | (go_simp; done) | (go_simp; rfl)); intro gb114 hg w22 hbox hb; have n0_ := Aside0.mk (Kd.R_below (by (with_reducible repeat (first | apply Kd.R_alloc | apply Kd.R_drewN | apply Kd.R_drew)); exact HO_7.out) hb); have n1_ := Aside0.mk (blk_below (g := gb106) (o := .cells #[.int .i64 a1_0, .slice (some ad113) l1_1.length c1_1] 25 (0, 0)) (by (with_reducible repeat (first | refine blk_drewN ?_ _ | refine blk_drew ?_ | refine blk_alloc ?_ _)); exact BK106.out) hb); have n2_ := Aside0.mk (below_step (by repeat (first | (with_reducible first | exact HB.out | apply below_alloc | apply pw_below_drewN | apply below_drew1 | refine below_set ?_ GE106.out) | exact HB.out)) hb); have n3_ := Aside0.mk (hbox); have n4_ := Aside0.mk ((by rw [hg]; exact (below_size (by repeat (first | (with_reducible first | exact HB.out | apply below_alloc | apply pw_below_drewN | apply below_drew1 | refine below_set ?_ GE106.out) | exact HB.out))) : w.heap.size ≤ gb114)); have n5_ := Aside0.mk ((by rw [hg]; exact (below_size (by repeat (first | (with_reducible first | exact HB.out | apply below_alloc | apply pw_below_drewN | apply below_drew1 | refine below_set ?_ GE106.out) | exact HB.out))) : w.heap.size ≤ gb114)); have n6_ := Aside0.mk ((by rw [hg]; exact Nat.ne_of_lt (blk_lt (g := gb106) (o := .cells #[.int .i64 a1_0, .slice (some ad113) l1_1.length c1_1] 25 (0, 0)) (by (with_reducible repeat (first | refine blk_drewN ?_ _ | refine blk_drew ?_ | refine blk_alloc ?_ _)); exact BK106.out)) : gb106 ≠ gb114)); have n7_ := Aside0.mk ((by rw [hg]; exact Nat.ne_of_gt (blk_lt (g := gb106) (o := .cells #[.int .i64 a1_0, .slice (some ad113) l1_1.length c1_1] 25 (0, 0)) (by (with_reducible repeat (first | refine blk_drewN ?_ _ | refine blk_drew ?_ | refine blk_alloc ?_ _)); exact BK106.out)) : gb114 ≠ gb106)); clear HO_7; clear BK106; clear HB; have HO_7 := n0_; have BK106 := n1_; have HB := n2_; have BK114 := n3_; have GW114 := n4_; have GE114 := n5_; have NB106_114 := n6_; have NB114_106 := n7_; clear n0_ n1_ n2_ n3_ n4_ n5_ n6_ n7_; clear hb hbox hg; have hnb23 := NB114_106.out; have hnc23 := NB106_114.out; have hcz24_0 : w22.cell? ⟨gb114, 0, none⟩ = some (.int .i64 0) := (blk_cell BK114.out 0).trans rfl; have hcz24_1 : w22.cell? ⟨gb114, 1, none⟩ = some (.int .i64 0) := (blk_cell BK114.out 1).trans rfl; have hfz24_0 := blk_frozen BK114.out 0; have hfz24_1 := blk_frozen BK114.out 1))
            (try simp only [Act.put, List.setIfInBounds_toArray, List.set_cons_zero, List.set_cons_succ])
            go_cut [48] (fun v48 wc => ∃ (kq : Nat) (x48_20 : Bool), v48 = .bool x48_20 ∧ Aside0 (purse_CheckBalance.j2 kq l0 x6_2 x7_2 l1_1 (l1_1.length : Int) x32_2 x48_20 a1_0 l1_1 ((rd_T59 l1_1 x32_2).f0) ((rd_T59 l1_1 x32_2).f1) = some r) ∧ Aside0 (kq ≤ k2) ∧ Aside0 (Kd.R (Kd.int .i64) 3 wc w.heap.size (fun _ => True) v111 x7_2) ∧ Aside0 (wc.heap[gb106]? = some (.cells #[.int .i64 a1_0, (.slice (some ad113) l1_1.length c1_1)] 25 (0, 0))) ∧ Aside0 (wc.heap[gb114]? = some (.cells #[.int .i64 ((rd_T59 l1_1 x32_2).f0), .int .i64 ((rd_T59 l1_1 x32_2).f1)] 59 (0, 0))) ∧ Aside0 (Below w.heap.size w wc))
            case first =>
             have H := HC21.out
             clear HC21
             replace H := Option.bind_eq_some_iff.mp H
             obtain ⟨t115, A250, H⟩ := H
             replace H : (if t115 = true then ((purse_within.f ((rd_T59 l1_1 x32_2).f1) 1 1000).bind fun t116 => (purse_CheckBalance.j2 k2 l0 x6_2 x7_2 l1_1 (l1_1.length : Int) x32_2 (!t116) a1_0 l1_1 ((rd_T59 l1_1 x32_2).f0) ((rd_T59 l1_1 x32_2).f1))) else (purse_CheckBalance.j2 k2 l0 x6_2 x7_2 l1_1 (l1_1.length : Int) x32_2 true a1_0 l1_1 ((rd_T59 l1_1 x32_2).f0) ((rd_T59 l1_1 x32_2).f1))) = some r := H
             have A25 := Aside0.mk A250
             clear A250
             by_cases c26 : t115 = true
             ·subst c26
              have H1 : ((purse_within.f ((rd_T59 l1_1 x32_2).f1) 1 1000).bind fun t116 => (purse_CheckBalance.j2 k2 l0 x6_2 x7_2 l1_1 (l1_1.length : Int) x32_2 (!t116) a1_0 l1_1 ((rd_T59 l1_1 x32_2).f0) ((rd_T59 l1_1 x32_2).f1))) = some r := by rw [if_pos rfl] at H; exact H
              clear H
              have H := H1
              clear H1
              replace H := Option.bind_eq_some_iff.mp H
              obtain ⟨t116, A270, H⟩ := H
              replace H : (purse_CheckBalance.j2 k2 l0 x6_2 x7_2 l1_1 (l1_1.length : Int) x32_2 (!t116) a1_0 l1_1 ((rd_T59 l1_1 x32_2).f0) ((rd_T59 l1_1 x32_2).f1)) = some r := H
              have A27 := Aside0.mk A270
              clear A270
              have H' := Aside0.mk H
              clear H
              have hnb28 := NB114_106.out
              have hnc28 := NB106_114.out
              have hcz29_0 : w22.cell? ⟨gb114, 0, none⟩ = some (.int .i64 0) := (blk_cell BK114.out 0).trans rfl
              have hcz29_1 : w22.cell? ⟨gb114, 1, none⟩ = some (.int .i64 0) := (blk_cell BK114.out 1).trans rfl
              have hfz29_0 := blk_frozen BK114.out 0
              have hfz29_1 := blk_frozen BK114.out 1
              go_wp2_with (first | ((with_reducible refine gate_callee (f := 48) rfl ?_); refine goesL_ (some 41) rfl rfl Tryd.func48 (by kernel_rfl) rfl #[.int .i64 ((rd_T59 l1_1 x32_2).f0), .int .i64 1, .int .i64 (wrap64 ((l0.length : Int) - 1))] rfl (by (try simp only [List.map_toArray, List.map_cons, List.map_nil]); first | done | rfl | (simp only [List.length_drop, List.length_take]; rfl)) ?_; (with_reducible refine (purse_within.calls ((rd_T59 l1_1 x32_2).f0) 1 (wrap64 ((l0.length : Int) - 1)) true _ A25.out).mono ?_); rintro e w' ⟨rfl, ⟨nd, rfl⟩⟩; refine ⟨_, rfl, ?_⟩) | (go_at_call 48; (with_reducible refine (purse_within.calls ((rd_T59 l1_1 x32_2).f1) 1 1000 t116 _ A27.out).mono ?_); rintro e w' ⟨rfl, ⟨nd, rfl⟩⟩))
              go_meet
              case rel => exact ⟨_, (!t116), (by first | rfl | (simp; done) | (simp [*]; done)), H', ⟨by have := HJ4.out; have := HK2.out; first | omega | exact Nat.le_refl _⟩, ⟨by (with_reducible repeat (first | apply Kd.R_alloc | apply Kd.R_drewN | apply Kd.R_drew)); exact Kd.R_mono (Kd.R_far (p := ⟨gb114, 1, none⟩) (Kd.R_far (p := ⟨gb114, 0, none⟩) (Kd.R_types HO_7.out BK114.out (by decide)) (fun _ hk => hk.2) (.int .i64 ((rd_T59 l1_1 x32_2).f0))) (fun _ hk => hk.2) (.int .i64 ((rd_T59 l1_1 x32_2).f1))) (fun _ hk => trivial)⟩, ⟨by (with_reducible repeat (first | refine blk_drewN ?_ _ | refine blk_drew ?_ | refine blk_alloc ?_ _)); refine blk_far ?_ NB106_114.out _; (with_reducible repeat (first | refine blk_drewN ?_ _ | refine blk_drew ?_ | refine blk_alloc ?_ _)); refine blk_far ?_ NB106_114.out _; (with_reducible repeat (first | refine blk_drewN ?_ _ | refine blk_drew ?_ | refine blk_alloc ?_ _)); exact BK106.out⟩, ⟨by (with_reducible repeat (first | refine blk_drewN ?_ _ | refine blk_drew ?_ | refine blk_alloc ?_ _)); refine blk_put (cs := #[.int .i64 ((rd_T59 l1_1 x32_2).f0), .int .i64 0]) ?_ 1 _ rfl; (with_reducible repeat (first | refine blk_drewN ?_ _ | refine blk_drew ?_ | refine blk_alloc ?_ _)); refine blk_put (cs := #[.int .i64 0, .int .i64 0]) ?_ 0 _ rfl; (with_reducible repeat (first | refine blk_drewN ?_ _ | refine blk_drew ?_ | refine blk_alloc ?_ _)); exact BK114.out⟩, ⟨by repeat (first | (with_reducible first | exact HB.out | apply below_alloc | apply pw_below_drewN | apply below_drew1 | refine below_set ?_ GE106.out | refine below_set ?_ GE114.out) | exact HB.out)⟩⟩
             ·replace c26 := Bool.eq_false_iff.mpr c26
              subst c26
              have H1 : (purse_CheckBalance.j2 k2 l0 x6_2 x7_2 l1_1 (l1_1.length : Int) x32_2 true a1_0 l1_1 ((rd_T59 l1_1 x32_2).f0) ((rd_T59 l1_1 x32_2).f1)) = some r := by rw [if_neg (show ¬ (false = true) by decide)] at H; exact H
              clear H
              have H := H1
              clear H1
              have H' := Aside0.mk H
              clear H
              have hnb30 := NB114_106.out
              have hnc30 := NB106_114.out
              have hcz31_0 : w22.cell? ⟨gb114, 0, none⟩ = some (.int .i64 0) := (blk_cell BK114.out 0).trans rfl
              have hcz31_1 : w22.cell? ⟨gb114, 1, none⟩ = some (.int .i64 0) := (blk_cell BK114.out 1).trans rfl
              have hfz31_0 := blk_frozen BK114.out 0
              have hfz31_1 := blk_frozen BK114.out 1
              go_wp2_with (first | ((with_reducible refine gate_callee (f := 48) rfl ?_); refine goesL_ (some 41) rfl rfl Tryd.func48 (by kernel_rfl) rfl #[.int .i64 ((rd_T59 l1_1 x32_2).f0), .int .i64 1, .int .i64 (wrap64 ((l0.length : Int) - 1))] rfl (by (try simp only [List.map_toArray, List.map_cons, List.map_nil]); first | done | rfl | (simp only [List.length_drop, List.length_take]; rfl)) ?_; (with_reducible refine (purse_within.calls ((rd_T59 l1_1 x32_2).f0) 1 (wrap64 ((l0.length : Int) - 1)) false _ A25.out).mono ?_); rintro e w' ⟨rfl, ⟨nd, rfl⟩⟩; refine ⟨_, rfl, ?_⟩))
              go_meet
              case rel => exact ⟨_, (true), (by first | rfl | (simp; done) | (simp [*]; done)), H', ⟨by have := HJ4.out; have := HK2.out; first | omega | exact Nat.le_refl _⟩, ⟨by (with_reducible repeat (first | apply Kd.R_alloc | apply Kd.R_drewN | apply Kd.R_drew)); exact Kd.R_mono (Kd.R_far (p := ⟨gb114, 1, none⟩) (Kd.R_far (p := ⟨gb114, 0, none⟩) (Kd.R_types HO_7.out BK114.out (by decide)) (fun _ hk => hk.2) (.int .i64 ((rd_T59 l1_1 x32_2).f0))) (fun _ hk => hk.2) (.int .i64 ((rd_T59 l1_1 x32_2).f1))) (fun _ hk => trivial)⟩, ⟨by (with_reducible repeat (first | refine blk_drewN ?_ _ | refine blk_drew ?_ | refine blk_alloc ?_ _)); refine blk_far ?_ NB106_114.out _; (with_reducible repeat (first | refine blk_drewN ?_ _ | refine blk_drew ?_ | refine blk_alloc ?_ _)); refine blk_far ?_ NB106_114.out _; (with_reducible repeat (first | refine blk_drewN ?_ _ | refine blk_drew ?_ | refine blk_alloc ?_ _)); exact BK106.out⟩, ⟨by (with_reducible repeat (first | refine blk_drewN ?_ _ | refine blk_drew ?_ | refine blk_alloc ?_ _)); refine blk_put (cs := #[.int .i64 ((rd_T59 l1_1 x32_2).f0), .int .i64 0]) ?_ 1 _ rfl; (with_reducible repeat (first | refine blk_drewN ?_ _ | refine blk_drew ?_ | refine blk_alloc ?_ _)); refine blk_put (cs := #[.int .i64 0, .int .i64 0]) ?_ 0 _ rfl; (with_reducible repeat (first | refine blk_drewN ?_ _ | refine blk_drew ?_ | refine blk_alloc ?_ _)); exact BK114.out⟩, ⟨by repeat (first | (with_reducible first | exact HB.out | apply below_alloc | apply pw_below_drewN | apply below_drew1 | refine below_set ?_ GE106.out | refine below_set ?_ GE114.out) | exact HB.out)⟩⟩
            case rest =>
             clear HC21
             try clear c1
             try clear p1
             try clear q1
             try clear hx1
             try clear c2
             try clear p2
             try clear c3
             try clear c4
             try clear c4b0
             try clear c4b1
             try clear p6
             try clear c8
             try clear c11
             try clear p11
             try clear q11
             try clear hx11
             try clear c13
             try clear c13b0
             try clear c13b1
             try clear c14
             try clear c14b0
             try clear c14b1
             try clear c17
             try clear c18
             try clear c18b0
             try clear c19
             try clear c19b0
             try clear c20
             try clear c20b0
             try clear c23
             try clear c26
             try clear c28
             try clear c30
             try clear hcz10_0
             try clear hcz10_1
             try clear hcz17_0
             try clear hcz17_1
             try clear hcz24_0
             try clear hcz24_1
             try clear hcz29_0
             try clear hcz29_1
             try clear hcz31_0
             try clear hcz31_1
             try clear hcz9_0
             try clear hcz9_1
             try clear hfz10_0
             try clear hfz10_1
             try clear hfz17_0
             try clear hfz17_1
             try clear hfz24_0
             try clear hfz24_1
             try clear hfz29_0
             try clear hfz29_1
             try clear hfz31_0
             try clear hfz31_1
             try clear hfz9_0
             try clear hfz9_1
             try clear hx113_0
             try clear hx113_1
             try clear p113
             try clear p2
             try clear q113
             obtain ⟨kq, x48_20, rfl, HA, HJ20, HO_7, BK106, BK114, HB⟩ := hcut
             cases kq with
             | zero => exact absurd HA.out (by simp [purse_CheckBalance.j2])
             | succ kj20 =>
              have H := HA.out
              clear HA
              simp only [purse_CheckBalance.j2] at H
              by_cases c32 : x48_20 = true
              ·subst c32
               have H1 : (some 1) = some r := by rw [if_pos rfl] at H; exact H
               clear H
               have H := H1
               clear H1
               obtain rfl := Option.some.inj H
               go_wp2
               go_ret
               exact ⟨by first | rfl | (simp [errW_none, errW_some] <;> rfl) | (simp [*, errW_none, errW_some] <;> rfl), by repeat (first | (with_reducible first | exact HB.out | apply below_alloc | apply pw_below_drewN | apply below_drew1 | refine below_set ?_ GE106.out | refine below_set ?_ GE114.out) | exact HB.out)⟩
              ·replace c32 := Bool.eq_false_iff.mpr c32
               subst c32
               have H1 : (if 0 ≤ ((rd_T59 l1_1 x32_2).f0) then (if ((rd_T59 l1_1 x32_2).f0) < (l0.length : Int) then (purse_CheckBalance.l1 kj20 l0 (wrap64 (x6_2 + (wrap64 (((rd_T59 l1_1 x32_2).f1) * (rd l0 ((rd_T59 l1_1 x32_2).f0)))))) x7_2 l1_1 (l1_1.length : Int) x32_2 (x7_2.length : Int) 0 a1_0 l1_1 ((rd_T59 l1_1 x32_2).f0) ((rd_T59 l1_1 x32_2).f1)) else (none)) else (none)) = some r := by rw [if_neg (show ¬ (false = true) by decide)] at H; exact H
               clear H
               have H := H1
               clear H1
               by_cases c33 : 0 ≤ ((rd_T59 l1_1 x32_2).f0)
               ·rw [if_pos c33] at H
                have c33b0 : decide (0 ≤ ((rd_T59 l1_1 x32_2).f0)) = true := decide_eq_true c33
                clear c33
                by_cases c34 : ((rd_T59 l1_1 x32_2).f0) < (l0.length : Int)
                ·rw [if_pos c34] at H
                 have c34b0 : decide (((rd_T59 l1_1 x32_2).f0) < (l0.length : Int)) = true := decide_eq_true c34
                 clear c34
                 have H' := Aside0.mk H
                 clear H
                 try go_wp2
                 have n0_ := Aside0.mk (Kd.R_drew HO_7.out)
                 have n1_ := Aside0.mk (blk_drew BK106.out)
                 have n2_ := Aside0.mk (blk_drew BK114.out)
                 have n3_ := Aside0.mk (below_drew1 HB.out)
                 clear HO_7
                 clear BK106
                 clear BK114
                 clear HB
                 have HO_7 := n0_
                 have BK106 := n1_
                 have BK114 := n2_
                 have HB := n3_
                 clear n0_ n1_ n2_ n3_
                 have p117 : 0 ≤ (((rd_T59 l1_1 x32_2).f0) : Int) := of_decide_eq_true (by first | (with_reducible assumption) | assumption)
                 have q117 : ((rd_T59 l1_1 x32_2).f0) < (l0.length : Int) := of_decide_eq_true (by first | (with_reducible assumption) | assumption)
                 obtain ⟨ad117, e117, hx117_0⟩ := Kd.at_int HR0.out ((rd_T59 l1_1 x32_2).f0) p117 q117
                 have hw117_0 := hx117_0
                 cases e117
                 replace hx117_0 := (HB.out.cell (World.block_lt_of_cell? w _ hx117_0)).trans hx117_0
                 replace p117 := eq_true p117
                 replace q117 := eq_true q117
                 refine start_ (n := 11) (S := fun w' => w'.cell? ⟨gb114, 0, none⟩ = some (.int .i64 ((rd_T59 l1_1 x32_2).f0)) ∧ w'.cell? ⟨gb114, 1, none⟩ = some (.int .i64 ((rd_T59 l1_1 x32_2).f1)) ∧ w'.cell? (ad117.add (((rd_T59 l1_1 x32_2).f0)).toNat) = some (.int .i64 (rd l0 ((rd_T59 l1_1 x32_2).f0)))) (ds := []) #[false, false, false, false, false, false, false, false, false, false, false] (by kernel_rfl) rfl rfl ⟨(blk_cell BK114.out 0).trans rfl, (blk_cell BK114.out 1).trans rfl, ((HB.out.cell (World.block_lt_of_cell? w _ hw117_0)).trans hw117_0)⟩ (fun hHeld => ?_); refine with_tabW purse_CheckBalance.tab13 purse_CheckBalance.bits13 (fun HT_ HW_ => ?_)
                 generalize wc.drew = w35 at HO_7 BK106 BK114 HB hx117_0 hHeld ⊢
                 refine pure_ (i := 0) (N := some 49) (v := ?_) (a' := ?_) #[true, false, false, false, false, false, false, false, false, false, false] rfl rfl (any_of HT_.out (by kernel_rfl)) (fun _ _ _ h => h) (Or.inl ⟨by rfl, ?_⟩) ?_ ?_
                 rotate_left
                 ·intro w'
                  go_simp
                  with_reducible rfl
                 rotate_left
                 ·simp only [Act.put, List.setIfInBounds_toArray, List.set_cons_zero, List.set_cons_succ, i64_w, i32_w]
                  rfl
                 refine pure_ (i := 1) (N := some 50) (v := ?_) (a' := ?_) #[true, true, false, false, false, false, false, false, false, false, false] rfl rfl (any_of HT_.out (by kernel_rfl)) (fun _ _ _ h => h) (Or.inl ⟨by rfl, ?_⟩) ?_ ?_
                 rotate_left
                 ·intro w'
                  go_simp
                  with_reducible rfl
                 rotate_left
                 ·simp only [Act.put, List.setIfInBounds_toArray, List.set_cons_zero, List.set_cons_succ, i64_w, i32_w]
                  rfl
                 refine pure_ (i := 3) (N := some 52) (v := ?_) (a' := ?_) #[true, true, false, true, false, false, false, false, false, false, false] rfl rfl (any_of HT_.out (by kernel_rfl)) (fun _ _ _ h => h) (Or.inl ⟨by rfl, ?_⟩) ?_ ?_
                 rotate_left
                 ·intro w'
                  go_simp
                  with_reducible rfl
                 rotate_left
                 ·simp only [Act.put, List.setIfInBounds_toArray, List.set_cons_zero, List.set_cons_succ, i64_w, i32_w]
                  rfl
                 refine pure_ (i := 4) (N := some 53) (v := ?_) (a' := ?_) #[true, true, false, true, true, false, false, false, false, false, false] rfl rfl (any_of HT_.out (by kernel_rfl)) (fun _ _ _ h => h) (Or.inl ⟨by rfl, ?_⟩) ?_ ?_
                 rotate_left
                 ·intro w'
                  go_simp
                  with_reducible rfl
                 rotate_left
                 ·simp only [Act.put, List.setIfInBounds_toArray, List.set_cons_zero, List.set_cons_succ, i64_w, i32_w]
                  rfl
                 refine take_ (i := 2) (N := some 51) (v := ?_) (a' := ?_) #[true, true, true, true, true, false, false, false, false, false, false] rfl rfl (take_ofW HT_.out HW_.out (by kernel_rfl)) (fun _ _ _ h => h) (Or.inl ⟨by rfl, ?_⟩) hHeld ?_ ?_
                 rotate_left
                 ·rintro w' ⟨s0, s1, s2⟩
                  go_simp
                  with_reducible rfl
                 rotate_left
                 ·simp only [Act.put, List.setIfInBounds_toArray, List.set_cons_zero, List.set_cons_succ, i64_w, i32_w]
                  rfl
                 refine take_ (i := 5) (N := some 54) (v := ?_) (a' := ?_) #[true, true, true, true, true, true, false, false, false, false, false] rfl rfl (take_ofW HT_.out HW_.out (by kernel_rfl)) (fun _ _ _ h => h) (Or.inl ⟨by rfl, ?_⟩) hHeld ?_ ?_
                 rotate_left
                 ·rintro w' ⟨s0, s1, s2⟩
                  go_simp
                  with_reducible rfl
                 rotate_left
                 ·simp only [Act.put, List.setIfInBounds_toArray, List.set_cons_zero, List.set_cons_succ, i64_w, i32_w]
                  rfl
                 refine pure_ (i := 6) (N := some 55) (v := ?_) (a' := ?_) #[true, true, true, true, true, true, true, false, false, false, false] rfl rfl (any_of HT_.out (by kernel_rfl)) (fun _ _ _ h => h) (Or.inl ⟨by rfl, ?_⟩) ?_ ?_
                 rotate_left
                 ·intro w'
                  go_simp
                  with_reducible rfl
                 rotate_left
                 ·simp only [Act.put, List.setIfInBounds_toArray, List.set_cons_zero, List.set_cons_succ, i64_w, i32_w]
                  rfl
                 refine take_ (i := 7) (N := some 56) (v := ?_) (a' := ?_) #[true, true, true, true, true, true, true, true, false, false, false] rfl rfl (take_ofW HT_.out HW_.out (by kernel_rfl)) (fun _ _ _ h => h) (Or.inl ⟨by rfl, ?_⟩) hHeld ?_ ?_
                 rotate_left
                 ·rintro w' ⟨s0, s1, s2⟩
                  go_simp
                  with_reducible rfl
                 rotate_left
                 ·simp only [Act.put, List.setIfInBounds_toArray, List.set_cons_zero, List.set_cons_succ, i64_w, i32_w]
                  rfl
                 refine pure_ (i := 8) (N := some 57) (v := ?_) (a' := ?_) #[true, true, true, true, true, true, true, true, true, false, false] rfl rfl (any_of HT_.out (by kernel_rfl)) (fun _ _ _ h => h) (Or.inl ⟨by rfl, ?_⟩) ?_ ?_
                 rotate_left
                 ·intro w'
                  go_simp
                  with_reducible rfl
                 rotate_left
                 ·simp only [Act.put, List.setIfInBounds_toArray, List.set_cons_zero, List.set_cons_succ, i64_w, i32_w]
                  rfl
                 refine pure_ (i := 9) (N := some 58) (v := ?_) (a' := ?_) #[true, true, true, true, true, true, true, true, true, true, false] rfl rfl (any_of HT_.out (by kernel_rfl)) (fun _ _ _ h => h) (Or.inl ⟨by rfl, ?_⟩) ?_ ?_
                 rotate_left
                 ·intro w'
                  go_simp
                  with_reducible rfl
                 rotate_left
                 ·simp only [Act.put, List.setIfInBounds_toArray, List.set_cons_zero, List.set_cons_succ, i64_w, i32_w]
                  rfl
                 refine pure_ (i := 10) (N := some 6) (v := ?_) (a' := ?_) #[true, true, true, true, true, true, true, true, true, true, true] rfl rfl (any_of HT_.out (by kernel_rfl)) (fun _ _ _ h => h) (Or.inl ⟨by rfl, ?_⟩) ?_ ?_
                 rotate_left
                 ·intro w'
                  go_simp
                  with_reducible rfl
                 rotate_left
                 ·simp only [Act.put, List.setIfInBounds_toArray, List.set_cons_zero, List.set_cons_succ, i64_w, i32_w]
                  rfl
                 refine done_ (done_of HT_.out (by kernel_rfl)) ?_
                 obtain ⟨Ao36, co36, eo36⟩ := Kd.R_slice HO_7.out
                 subst eo36
                 try go_wp2
                 go_loopg [61] kj20 (fun kq v61 w' => ∃ (x7_4 : List Int) (x61_4 : Int), v61 = .int .i64 x61_4 ∧ Aside0 (purse_CheckBalance.l1 kq l0 (wrap64 (x6_2 + (wrap64 (((rd_T59 l1_1 x32_2).f1) * (rd l0 ((rd_T59 l1_1 x32_2).f0)))))) x7_4 l1_1 (l1_1.length : Int) x32_2 (x7_2.length : Int) x61_4 a1_0 l1_1 ((rd_T59 l1_1 x32_2).f0) ((rd_T59 l1_1 x32_2).f1) = some r) ∧ Aside0 (kq ≤ kj20) ∧ Aside0 (Kd.R (Kd.int .i64) 3 w' w.heap.size (fun _ => True) (.slice Ao36 x7_2.length co36) x7_4) ∧ Aside0 (w'.heap[gb106]? = some (.cells #[.int .i64 a1_0, (.slice (some ad113) l1_1.length c1_1)] 25 (0, 0))) ∧ Aside0 (w'.heap[gb114]? = some (.cells #[.int .i64 ((rd_T59 l1_1 x32_2).f0), .int .i64 ((rd_T59 l1_1 x32_2).f1)] 59 (0, 0))) ∧ Aside0 (Below w.heap.size w w'))
                 case atStart => exact ⟨(x7_2), (0), (by first | rfl | (simp; done) | (simp [*]; done)), H', ⟨Nat.le_refl _⟩, ⟨by (with_reducible repeat (first | apply Kd.R_alloc | apply Kd.R_drewN | apply Kd.R_drew)); exact HO_7.out⟩, ⟨by (with_reducible repeat (first | refine blk_drewN ?_ _ | refine blk_drew ?_ | refine blk_alloc ?_ _)); exact BK106.out⟩, ⟨by (with_reducible repeat (first | refine blk_drewN ?_ _ | refine blk_drew ?_ | refine blk_alloc ?_ _)); exact BK114.out⟩, ⟨by repeat (first | (with_reducible first | exact HB.out | apply below_alloc | apply pw_below_drewN | apply below_drew1 | refine below_set ?_ GE106.out | refine below_set ?_ GE114.out) | exact HB.out)⟩⟩
                 case round =>
                  clear H'
                  try clear c1
                  try clear p1
                  try clear q1
                  try clear hx1
                  try clear c2
                  try clear p2
                  try clear c3
                  try clear c4
                  try clear c4b0
                  try clear c4b1
                  try clear p6
                  try clear c8
                  try clear c11
                  try clear p11
                  try clear q11
                  try clear hx11
                  try clear c13
                  try clear c13b0
                  try clear c13b1
                  try clear c14
                  try clear c14b0
                  try clear c14b1
                  try clear c17
                  try clear c18
                  try clear c18b0
                  try clear c19
                  try clear c19b0
                  try clear c20
                  try clear c20b0
                  try clear c23
                  try clear c26
                  try clear c28
                  try clear c30
                  try clear c32
                  try clear c33
                  try clear c33b0
                  try clear c34
                  try clear c34b0
                  try clear hcz10_0
                  try clear hcz10_1
                  try clear hcz17_0
                  try clear hcz17_1
                  try clear hcz24_0
                  try clear hcz24_1
                  try clear hcz29_0
                  try clear hcz29_1
                  try clear hcz31_0
                  try clear hcz31_1
                  try clear hcz9_0
                  try clear hcz9_1
                  try clear hfz10_0
                  try clear hfz10_1
                  try clear hfz17_0
                  try clear hfz17_1
                  try clear hfz24_0
                  try clear hfz24_1
                  try clear hfz29_0
                  try clear hfz29_1
                  try clear hfz31_0
                  try clear hfz31_1
                  try clear hfz9_0
                  try clear hfz9_1
                  try clear hx113_0
                  try clear hx113_1
                  try clear hx117_0
                  try clear p1
                  try clear p11
                  try clear p113
                  try clear p117
                  try clear p2
                  try clear p6
                  try clear q1
                  try clear q11
                  try clear q113
                  try clear q117
                  obtain ⟨x7_4, x61_4, rfl, HA, HK4, HO_7, BK106, BK114, HB⟩ := hrel
                  have hl7_4 := (Kd.R_reads' HO_7.out).1
                  rw [hl7_4] at HO_7
                  (try simp only [hl7_4])
                  (try simp only [hl7_4] at BK106)
                  (try simp only [hl7_4] at BK114)
                  cases gk with
                  | zero => exact absurd HA.out (by simp [purse_CheckBalance.l1])
                  | succ k4 =>
                   have H := HA.out
                   clear HA
                   simp only [purse_CheckBalance.l1] at H
                   by_cases c37 : x61_4 < (x7_2.length : Int)
                   ·rw [if_pos c37] at H
                    have c37b0 : decide (x61_4 < (x7_2.length : Int)) = true := decide_eq_true c37
                    have c37n := c37b0
                    rw [hl7_4] at c37n
                    clear c37
                    replace H := Option.bind_eq_some_iff.mp H
                    obtain ⟨t118, A380, H⟩ := H
                    replace H : (if t118 = true then (if 0 ≤ x61_4 then (if x61_4 < (x7_4.length : Int) then (purse_CheckBalance.l1 k4 l0 (wrap64 (x6_2 + (wrap64 (((rd_T59 l1_1 x32_2).f1) * (rd l0 ((rd_T59 l1_1 x32_2).f0)))))) (x7_4.set (x61_4 : Int).toNat (wrap64 ((rd x7_4 x61_4) + ((rd_T59 l1_1 x32_2).f1)))) l1_1 (l1_1.length : Int) x32_2 (x7_2.length : Int) (wrap64 (x61_4 + 1)) a1_0 l1_1 ((rd_T59 l1_1 x32_2).f0) ((rd_T59 l1_1 x32_2).f1)) else (none)) else (none)) else (purse_CheckBalance.l1 k4 l0 (wrap64 (x6_2 + (wrap64 (((rd_T59 l1_1 x32_2).f1) * (rd l0 ((rd_T59 l1_1 x32_2).f0)))))) x7_4 l1_1 (l1_1.length : Int) x32_2 (x7_2.length : Int) (wrap64 (x61_4 + 1)) a1_0 l1_1 ((rd_T59 l1_1 x32_2).f0) ((rd_T59 l1_1 x32_2).f1))) = some r := H
                    have A38 := Aside0.mk A380
                    clear A380
                    by_cases c39 : t118 = true
                    ·subst c39
                     have H1 : (if 0 ≤ x61_4 then (if x61_4 < (x7_4.length : Int) then (purse_CheckBalance.l1 k4 l0 (wrap64 (x6_2 + (wrap64 (((rd_T59 l1_1 x32_2).f1) * (rd l0 ((rd_T59 l1_1 x32_2).f0)))))) (x7_4.set (x61_4 : Int).toNat (wrap64 ((rd x7_4 x61_4) + ((rd_T59 l1_1 x32_2).f1)))) l1_1 (l1_1.length : Int) x32_2 (x7_2.length : Int) (wrap64 (x61_4 + 1)) a1_0 l1_1 ((rd_T59 l1_1 x32_2).f0) ((rd_T59 l1_1 x32_2).f1)) else (none)) else (none)) = some r := by rw [if_pos rfl] at H; exact H
                     clear H
                     have H := H1
                     clear H1
                     by_cases c40 : 0 ≤ x61_4
                     ·rw [if_pos c40] at H
                      have c40b0 : decide (0 ≤ x61_4) = true := decide_eq_true c40
                      clear c40
                      by_cases c41 : x61_4 < (x7_4.length : Int)
                      ·rw [if_pos c41] at H
                       have c41b0 : decide (x61_4 < (x7_4.length : Int)) = true := decide_eq_true c41
                       clear c41
                       obtain ⟨y120, hy120⟩ : ∃ y_ : List Int, y_ = (x7_4.set (x61_4 : Int).toNat (wrap64 ((rd x7_4 x61_4) + ((rd_T59 l1_1 x32_2).f1)))) := ⟨_, rfl⟩
                       replace H : (purse_CheckBalance.l1 k4 l0 (wrap64 (x6_2 + (wrap64 (((rd_T59 l1_1 x32_2).f1) * (rd l0 ((rd_T59 l1_1 x32_2).f0)))))) y120 l1_1 (l1_1.length : Int) x32_2 (x7_2.length : Int) (wrap64 (x61_4 + 1)) a1_0 l1_1 ((rd_T59 l1_1 x32_2).f0) ((rd_T59 l1_1 x32_2).f1)) = some r := by first | (rw [hy120]; with_reducible exact H) | (have H2_ := (Option.bind_some _ _).symm.trans H; rw [hy120]; with_reducible exact H2_) | (have H2_ := (Option.bind_some _ _).symm.trans H; with_reducible exact H2_) | with_reducible exact H | (rw [hy120]; exact H) | exact H
                       have Ny120 := Aside0.mk hy120
                       clear hy120
                       have H' := Aside0.mk H
                       clear H
                       have hnb43 := NB114_106.out
                       have hnc43 := NB106_114.out
                       have hcz44_0 : wr.cell? ⟨gb114, 0, none⟩ = some (.int .i64 ((rd_T59 l1_1 x32_2).f0)) := (blk_cell BK114.out 0).trans rfl
                       have hcz44_1 : wr.cell? ⟨gb114, 1, none⟩ = some (.int .i64 ((rd_T59 l1_1 x32_2).f1)) := (blk_cell BK114.out 1).trans rfl
                       have hfz44_0 := blk_frozen BK114.out 0
                       have hfz44_1 := blk_frozen BK114.out 1
                       try go_wp2_with (first | ((with_reducible refine gate_callee (f := 50) rfl ?_); refine goesL_ (some 67) rfl rfl Tryd.func50 (by kernel_rfl) rfl #[.int .i64 x61_4, .int .i64 ((rd_T59 l1_1 x32_2).f0)] rfl (by (try simp only [List.map_toArray, List.map_cons, List.map_nil]); first | done | rfl | (simp only [List.length_drop, List.length_take]; rfl)) ?_; (with_reducible refine (purse_player_in.calls x61_4 ((rd_T59 l1_1 x32_2).f0) true _ A38.out).mono ?_); rintro e w' ⟨rfl, ⟨nd, rfl⟩⟩; refine ⟨_, rfl, ?_⟩; (try (rw [drewN_self wr]; generalize hq_ : World.drewN wr _ = wr; have n0_ : Aside0 (Kd.R (Kd.int .i64) 3 wr w.heap.size (fun _ => True) (.slice Ao36 x7_4.length co36) x7_4) := ⟨by rw [← hq_]; exact (by (with_reducible repeat (first | apply Kd.R_alloc | apply Kd.R_drewN | apply Kd.R_drew)); exact HO_7.out)⟩; have n1_ : Aside0 (wr.heap[gb106]? = some (.cells #[.int .i64 a1_0, .slice (some ad113) l1_1.length c1_1] 25 (0, 0))) := ⟨by rw [← hq_]; exact (by (with_reducible repeat (first | refine blk_drewN ?_ _ | refine blk_drew ?_ | refine blk_alloc ?_ _)); exact BK106.out)⟩; have n2_ : Aside0 (wr.heap[gb114]? = some (.cells #[.int .i64 ((rd_T59 l1_1 x32_2).f0), .int .i64 ((rd_T59 l1_1 x32_2).f1)] 59 (0, 0))) := ⟨by rw [← hq_]; exact (by (with_reducible repeat (first | refine blk_drewN ?_ _ | refine blk_drew ?_ | refine blk_alloc ?_ _)); exact BK114.out)⟩; have n3_ : Aside0 (Below w.heap.size w wr) := ⟨by rw [← hq_]; exact (by repeat (first | (with_reducible first | exact HB.out | apply below_alloc | apply pw_below_drewN | apply below_drew1 | refine below_set ?_ GE106.out | refine below_set ?_ GE114.out) | exact HB.out))⟩; clear HO_7 BK106 BK114 HB hq_; have HO_7 := n0_; have BK106 := n1_; have BK114 := n2_; have HB := n3_; clear n0_ n1_ n2_ n3_))))
                       have n0_ := Aside0.mk (Kd.R_drew HO_7.out)
                       have n1_ := Aside0.mk (blk_drew BK106.out)
                       have n2_ := Aside0.mk (blk_drew BK114.out)
                       have n3_ := Aside0.mk (below_drew1 HB.out)
                       clear HO_7
                       clear BK106
                       clear BK114
                       clear HB
                       have HO_7 := n0_
                       have BK106 := n1_
                       have BK114 := n2_
                       have HB := n3_
                       clear n0_ n1_ n2_ n3_
                       have p119 : 0 ≤ (x61_4 : Int) := of_decide_eq_true (by first | (with_reducible assumption) | assumption)
                       have q119 : x61_4 < (x7_4.length : Int) := of_decide_eq_true (by first | (with_reducible assumption) | assumption)
                       obtain ⟨ad119, e119, hx119_0⟩ := Kd.at_int (Kd.R_reads' HO_7.out).2.2 x61_4 p119 q119
                       cases e119
                       replace p119 := eq_true p119
                       replace q119 := eq_true q119
                       have p42 : 0 ≤ (x61_4 : Int) := of_decide_eq_true (by first | (with_reducible assumption) | assumption)
                       have q42 : (x61_4 : Int) < ((x7_4.length : Int) : Int) := of_decide_eq_true (by first | (with_reducible assumption) | assumption)
                       obtain ⟨go42, co42, eo42, gb42, gl42, cl42, HG42⟩ := Kd.R_form HO_7.out (by omega)
                       (first | cases eo42 | (injection eo42 with ea_ en_ ec_; (first | subst ea_ | (injection ea_ with ea_; subst ea_)); subst ec_; clear en_))
                       have GB42 := Aside0.mk gb42
                       have GG42 := Aside0.mk HG42
                       clear gb42 gl42 HG42
                       (first | simp only [add_plain] at hx119_0 | skip)
                       obtain ⟨hx42_0, hf42_0⟩ := Kd.R_celln 0 HO_7.out (x61_4 : Int) p42 q42
                       replace p42 := eq_true p42
                       replace q42 := eq_true q42
                       have HP46 := Kd.R_putn HO_7.out (x61_4 : Int) (wrap64 ((rd x7_4 x61_4) + ((rd_T59 l1_1 x32_2).f1)))
                       rw [← Ny120.out] at HP46
                       have HQ46 := Aside0.mk HP46
                       clear HP46
                       refine start_ (n := 9) (S := fun w' => w'.cell? ⟨gb114, 0, none⟩ = some (.int .i64 ((rd_T59 l1_1 x32_2).f0)) ∧ w'.cell? ⟨gb114, 1, none⟩ = some (.int .i64 ((rd_T59 l1_1 x32_2).f1)) ∧ w'.cell? ⟨go42, (x61_4).toNat, none⟩ = some (.int .i64 (rd x7_4 x61_4))) (ds := [8]) #[false, false, false, false, false, false, false, false, false] (by kernel_rfl) rfl rfl ⟨(blk_cell BK114.out 0).trans rfl, (blk_cell BK114.out 1).trans rfl, hx119_0⟩ (fun hHeld => ?_); refine with_tabW purse_CheckBalance.tab18 purse_CheckBalance.bits18 (fun HT_ HW_ => ?_)
                       generalize wr.drew = w45 at HO_7 BK106 BK114 HB GG42 HQ46 hf42_0 hx119_0 hx42_0 hHeld ⊢
                       refine pure_ (i := 0) (N := some 68) (v := ?_) (a' := ?_) #[true, false, false, false, false, false, false, false, false] rfl rfl (any_of HT_.out (by kernel_rfl)) (fun _ _ _ h => h) (Or.inl ⟨by rfl, ?_⟩) ?_ ?_
                       rotate_left
                       ·intro w'
                        go_simp
                        with_reducible rfl
                       rotate_left
                       ·simp only [Act.put, List.setIfInBounds_toArray, List.set_cons_zero, List.set_cons_succ, i64_w, i32_w]
                        rfl
                       refine pure_ (i := 1) (N := some 69) (v := ?_) (a' := ?_) #[true, true, false, false, false, false, false, false, false] rfl rfl (any_of HT_.out (by kernel_rfl)) (fun _ _ _ h => h) (Or.inl ⟨by rfl, ?_⟩) ?_ ?_
                       rotate_left
                       ·intro w'
                        go_simp
                        with_reducible rfl
                       rotate_left
                       ·simp only [Act.put, List.setIfInBounds_toArray, List.set_cons_zero, List.set_cons_succ, i64_w, i32_w]
                        rfl
                       refine pure_ (i := 2) (N := some 70) (v := ?_) (a' := ?_) #[true, true, true, false, false, false, false, false, false] rfl rfl (any_of HT_.out (by kernel_rfl)) (fun _ _ _ h => h) (Or.inl ⟨by rfl, ?_⟩) ?_ ?_
                       rotate_left
                       ·intro w'
                        go_simp
                        with_reducible rfl
                       rotate_left
                       ·simp only [Act.put, List.setIfInBounds_toArray, List.set_cons_zero, List.set_cons_succ, i64_w, i32_w]
                        rfl
                       refine pure_ (i := 4) (N := some 72) (v := ?_) (a' := ?_) #[true, true, true, false, true, false, false, false, false] rfl rfl (any_of HT_.out (by kernel_rfl)) (fun _ _ _ h => h) (Or.inl ⟨by rfl, ?_⟩) ?_ ?_
                       rotate_left
                       ·intro w'
                        go_simp
                        with_reducible rfl
                       rotate_left
                       ·simp only [Act.put, List.setIfInBounds_toArray, List.set_cons_zero, List.set_cons_succ, i64_w, i32_w]
                        rfl
                       refine take_ (i := 3) (N := some 71) (v := ?_) (a' := ?_) #[true, true, true, true, true, false, false, false, false] rfl rfl (take_ofW HT_.out HW_.out (by kernel_rfl)) (fun _ _ _ h => h) (Or.inl ⟨by rfl, ?_⟩) hHeld ?_ ?_
                       rotate_left
                       ·rintro w' ⟨s0, s1, s2⟩
                        go_simp
                        with_reducible rfl
                       rotate_left
                       ·simp only [Act.put, List.setIfInBounds_toArray, List.set_cons_zero, List.set_cons_succ, i64_w, i32_w]
                        rfl
                       refine take_ (i := 5) (N := some 73) (v := ?_) (a' := ?_) #[true, true, true, true, true, true, false, false, false] rfl rfl (take_ofW HT_.out HW_.out (by kernel_rfl)) (fun _ _ _ h => h) (Or.inl ⟨by rfl, ?_⟩) hHeld ?_ ?_
                       rotate_left
                       ·rintro w' ⟨s0, s1, s2⟩
                        go_simp
                        with_reducible rfl
                       rotate_left
                       ·simp only [Act.put, List.setIfInBounds_toArray, List.set_cons_zero, List.set_cons_succ, i64_w, i32_w]
                        rfl
                       refine pure_ (i := 6) (N := some 74) (v := ?_) (a' := ?_) #[true, true, true, true, true, true, true, false, false] rfl rfl (any_of HT_.out (by kernel_rfl)) (fun _ _ _ h => h) (Or.inl ⟨by rfl, ?_⟩) ?_ ?_
                       rotate_left
                       ·intro w'
                        go_simp
                        with_reducible rfl
                       rotate_left
                       ·simp only [Act.put, List.setIfInBounds_toArray, List.set_cons_zero, List.set_cons_succ, i64_w, i32_w]
                        rfl
                       refine pure_ (i := 7) (N := some 75) (v := ?_) (a' := ?_) #[true, true, true, true, true, true, true, true, false] rfl rfl (any_of HT_.out (by kernel_rfl)) (fun _ _ _ h => h) (Or.inl ⟨by rfl, ?_⟩) ?_ ?_
                       rotate_left
                       ·intro w'
                        go_simp
                        with_reducible rfl
                       rotate_left
                       ·simp only [Act.put, List.setIfInBounds_toArray, List.set_cons_zero, List.set_cons_succ, i64_w, i32_w]
                        rfl
                       refine last_ (i := 8) (N := none) #[true, true, true, true, true, true, true, true, true] rfl rfl (one_of HT_.out (by kernel_rfl)) (by decide) (fun K hK => ?_)
                       refine skip_ (w1 := ?_) (by rfl) rfl ?_ ?_
                       rotate_left
                       ·go_simp
                        rfl
                       refine hK.out _ _ ?_
                       clear hK K
                       refine done_ (done_of HT_.out (by kernel_rfl)) ?_
                       try go_wp2
                       (try simp only [← hl7_4])
                       go_roundg k4
                       case measure => have := HJ4.out; have := HK2.out; have := HJ20.out; have := HK4.out; omega
                       case rel => exact ⟨(y120), (wrap64 (x61_4 + 1)), (by first | rfl | (simp; done) | (simp [*]; done)), H', ⟨by have := HJ4.out; have := HK2.out; have := HJ20.out; have := HK4.out; omega⟩, ⟨by (try simp only [hl7_4]); (with_reducible repeat (first | apply Kd.R_alloc | apply Kd.R_drewN | apply Kd.R_drew)); exact HQ46.out⟩, ⟨by (try simp only [hl7_4]); (with_reducible repeat (first | refine blk_drewN ?_ _ | refine blk_drew ?_ | refine blk_alloc ?_ _)); refine blk_far ?_ (by have h_ := Kd.R_ne HO_7.out BK106.out (by decide); intro e_; exact h_ (by rw [e_]; rfl)) _; (with_reducible repeat (first | refine blk_drewN ?_ _ | refine blk_drew ?_ | refine blk_alloc ?_ _)); exact BK106.out⟩, ⟨by (try simp only [hl7_4]); (with_reducible repeat (first | refine blk_drewN ?_ _ | refine blk_drew ?_ | refine blk_alloc ?_ _)); refine blk_far ?_ (by have h_ := Kd.R_ne HO_7.out BK114.out (by decide); intro e_; exact h_ (by rw [e_]; rfl)) _; (with_reducible repeat (first | refine blk_drewN ?_ _ | refine blk_drew ?_ | refine blk_alloc ?_ _)); exact BK114.out⟩, ⟨by repeat (first | (with_reducible first | exact HB.out | apply below_alloc | apply pw_below_drewN | apply below_drew1 | refine below_set ?_ GB42.out | refine below_set ?_ GE106.out | refine below_set ?_ GE114.out) | exact HB.out)⟩⟩
                      ·rw [if_neg c41] at H
                       exact absurd H (by simp)
                     ·rw [if_neg c40] at H
                      exact absurd H (by simp)
                    ·replace c39 := Bool.eq_false_iff.mpr c39
                     subst c39
                     have H1 : (purse_CheckBalance.l1 k4 l0 (wrap64 (x6_2 + (wrap64 (((rd_T59 l1_1 x32_2).f1) * (rd l0 ((rd_T59 l1_1 x32_2).f0)))))) x7_4 l1_1 (l1_1.length : Int) x32_2 (x7_2.length : Int) (wrap64 (x61_4 + 1)) a1_0 l1_1 ((rd_T59 l1_1 x32_2).f0) ((rd_T59 l1_1 x32_2).f1)) = some r := by rw [if_neg (show ¬ (false = true) by decide)] at H; exact H
                     clear H
                     have H := H1
                     clear H1
                     have H' := Aside0.mk H
                     clear H
                     have hnb47 := NB114_106.out
                     have hnc47 := NB106_114.out
                     have hcz48_0 : wr.cell? ⟨gb114, 0, none⟩ = some (.int .i64 ((rd_T59 l1_1 x32_2).f0)) := (blk_cell BK114.out 0).trans rfl
                     have hcz48_1 : wr.cell? ⟨gb114, 1, none⟩ = some (.int .i64 ((rd_T59 l1_1 x32_2).f1)) := (blk_cell BK114.out 1).trans rfl
                     have hfz48_0 := blk_frozen BK114.out 0
                     have hfz48_1 := blk_frozen BK114.out 1
                     go_wp2_with (first | ((with_reducible refine gate_callee (f := 50) rfl ?_); refine goesL_ (some 67) rfl rfl Tryd.func50 (by kernel_rfl) rfl #[.int .i64 x61_4, .int .i64 ((rd_T59 l1_1 x32_2).f0)] rfl (by (try simp only [List.map_toArray, List.map_cons, List.map_nil]); first | done | rfl | (simp only [List.length_drop, List.length_take]; rfl)) ?_; (with_reducible refine (purse_player_in.calls x61_4 ((rd_T59 l1_1 x32_2).f0) false _ A38.out).mono ?_); rintro e w' ⟨rfl, ⟨nd, rfl⟩⟩; refine ⟨_, rfl, ?_⟩))
                     (try simp only [← hl7_4])
                     go_roundg k4
                     case measure => have := HJ4.out; have := HK2.out; have := HJ20.out; have := HK4.out; omega
                     case rel => exact ⟨(x7_4), (wrap64 (x61_4 + 1)), (by first | rfl | (simp; done) | (simp [*]; done)), H', ⟨by have := HJ4.out; have := HK2.out; have := HJ20.out; have := HK4.out; omega⟩, ⟨by (try simp only [hl7_4]); (with_reducible repeat (first | apply Kd.R_alloc | apply Kd.R_drewN | apply Kd.R_drew)); exact HO_7.out⟩, ⟨by (try simp only [hl7_4]); (with_reducible repeat (first | refine blk_drewN ?_ _ | refine blk_drew ?_ | refine blk_alloc ?_ _)); exact BK106.out⟩, ⟨by (try simp only [hl7_4]); (with_reducible repeat (first | refine blk_drewN ?_ _ | refine blk_drew ?_ | refine blk_alloc ?_ _)); exact BK114.out⟩, ⟨by repeat (first | (with_reducible first | exact HB.out | apply below_alloc | apply pw_below_drewN | apply below_drew1 | refine below_set ?_ GE106.out | refine below_set ?_ GE114.out) | exact HB.out)⟩⟩
                   ·rw [if_neg c37] at H
                    have c37b0 : decide (x61_4 < (x7_2.length : Int)) = false := decide_eq_false c37
                    have c37n := c37b0
                    rw [hl7_4] at c37n
                    clear c37
                    have H' := Aside0.mk H
                    clear H
                    go_wp2
                    (try simp only [← hl7_4])
                    go_roundg k4
                    case measure => have := HJ4.out; have := HK2.out; have := HJ20.out; have := HK4.out; omega
                    case rel => exact ⟨((wrap64 (x6_2 + (wrap64 (((rd_T59 l1_1 x32_2).f1) * (rd l0 ((rd_T59 l1_1 x32_2).f0))))))), (x7_4), (wrap64 (x32_2 + 1)), (by first | rfl | (simp; done) | (simp [*]; done)), (by first | rfl | (simp; done) | (simp [*]; done)), H', ⟨by have := HJ4.out; have := HK2.out; have := HJ20.out; have := HK4.out; omega⟩, ⟨by (try simp only [hl7_4]); (with_reducible repeat (first | apply Kd.R_alloc | apply Kd.R_drewN | apply Kd.R_drew)); exact HO_7.out⟩, ⟨by (try simp only [hl7_4]); (with_reducible repeat (first | refine blk_drewN ?_ _ | refine blk_drew ?_ | refine blk_alloc ?_ _)); exact BK106.out⟩, ⟨by repeat (first | (with_reducible first | exact HB.out | apply below_alloc | apply pw_below_drewN | apply below_drew1 | refine below_set ?_ GE106.out | refine below_set ?_ GE114.out) | exact HB.out)⟩⟩
                ·rw [if_neg c34] at H
                 exact absurd H (by simp)
               ·rw [if_neg c33] at H
                exact absurd H (by simp)
           ·rw [if_neg c20] at H
            exact absurd H (by simp)
          ·rw [if_neg c19] at H
           exact absurd H (by simp)
         ·rw [if_neg c18] at H
          have c18b0 : decide (x32_2 < (l1_1.length : Int)) = false := decide_eq_false c18
          clear c18
          replace H := Option.bind_eq_some_iff.mp H
          obtain ⟨t121, A490, H⟩ := H
          replace H : (if t121 = true then (some 1) else (if 0 ≤ (wrap64 ((l0.length : Int) - 1)) then (if (wrap64 ((l0.length : Int) - 1)) < (l0.length : Int) then (if x6_2 ≤ (wrap64 (a1_0 * (rd l0 (wrap64 ((l0.length : Int) - 1))))) then (some 7) else (some 0)) else (none)) else (none))) = some r := H
          have A49 := Aside0.mk A490
          clear A490
          by_cases c50 : t121 = true
          ·subst c50
           have H1 : (some 1) = some r := by rw [if_pos rfl] at H; exact H
           clear H
           have H := H1
           clear H1
           obtain rfl := Option.some.inj H
           have hcz51_0 : wr.cell? ⟨gb106, 0, none⟩ = some (.int .i64 a1_0) := (blk_cell BK106.out 0).trans rfl
           have hcz51_1 : wr.cell? ⟨gb106, 1, none⟩ = some (.slice A1_1 l1_1.length c1_1) := (blk_cell BK106.out 1).trans rfl
           have hfz51_0 := blk_frozen BK106.out 0
           have hfz51_1 := blk_frozen BK106.out 1
           obtain ⟨Ao52, co52, eo52⟩ := Kd.R_slice HO_7.out
           subst eo52
           go_wp2_with (first | ((with_reducible refine gate_callee (f := 51) rfl ?_); refine goesL_ (some 80) rfl rfl Tryd.func51 (by kernel_rfl) rfl #[.slice Ao52 x7_2.length co52, .func (.func 52) #[] #[.pointer (some ⟨gb106, 0, none⟩)]] rfl (by (try simp only [List.map_toArray, List.map_cons, List.map_nil]); first | done | rfl | (simp only [List.length_drop, List.length_take]; rfl)) ?_; (with_reducible refine (uneven_calls _ _ x7_2 a1_0 _ _ _ true _ ?side1 ?side2 _ BK106.out (uneven_some A49.out)).mono ?_); (case side1 => repeat (first | exact (Kd.R_reads' HO_7.out).2.2 | (with_reducible refine Kd.C_alloc ?_ _) | (with_reducible refine Kd.C_drewN ?_ _) | (with_reducible refine Kd.C_drew ?_))); (case side2 => exact (Kd.R_reads' HO_7.out).2.1); rintro e w53 ⟨rfl, hb⟩; refine ⟨_, rfl, ?_⟩; have n0_ := Aside0.mk (Kd.R_below (by (with_reducible repeat (first | apply Kd.R_alloc | apply Kd.R_drewN | apply Kd.R_drew)); exact HO_7.out) hb); have n1_ := Aside0.mk (blk_below (g := gb106) (o := .cells #[.int .i64 a1_0, .slice A1_1 l1_1.length c1_1] 25 (0, 0)) (by (with_reducible repeat (first | refine blk_drewN ?_ _ | refine blk_drew ?_ | refine blk_alloc ?_ _)); exact BK106.out) hb); have n2_ := Aside0.mk (below_step (by repeat (first | (with_reducible first | exact HB.out | apply below_alloc | apply pw_below_drewN | apply below_drew1 | refine below_set ?_ GE106.out) | exact HB.out)) hb); clear HO_7; clear BK106; clear HB; have HO_7 := n0_; have BK106 := n1_; have HB := n2_; clear n0_ n1_ n2_; (try clear hb); (try clear hb2); (try clear hk); (try clear hi)))
           go_ret
           exact ⟨by first | rfl | (simp [errW_none, errW_some] <;> rfl) | (simp [*, errW_none, errW_some] <;> rfl), by repeat (first | (with_reducible first | exact HB.out | apply below_alloc | apply pw_below_drewN | apply below_drew1 | refine below_set ?_ GE106.out) | exact HB.out)⟩
          ·replace c50 := Bool.eq_false_iff.mpr c50
           subst c50
           have H1 : (if 0 ≤ (wrap64 ((l0.length : Int) - 1)) then (if (wrap64 ((l0.length : Int) - 1)) < (l0.length : Int) then (if x6_2 ≤ (wrap64 (a1_0 * (rd l0 (wrap64 ((l0.length : Int) - 1))))) then (some 7) else (some 0)) else (none)) else (none)) = some r := by rw [if_neg (show ¬ (false = true) by decide)] at H; exact H
           clear H
           have H := H1
           clear H1
           obtain ⟨ji54, hji54⟩ : ∃ j_ : Int, (wrap64 ((l0.length : Int) - 1)) = j_ := ⟨_, rfl⟩
           replace H : (if 0 ≤ (ji54) then (if (ji54) < (l0.length : Int) then (if x6_2 ≤ (wrap64 (a1_0 * (rd l0 (ji54)))) then (some 7) else (some 0)) else (none)) else (none)) = some r := by first | (rw [hji54] at H; exact H) | (simp only [hji54] at H ⊢; exact H)
           (try rw [hji54] at A49)
           have hji54w : (IntKind.i64.wrap ((l0.length : Int) - 1)) = ji54 := (i64_w _).trans hji54
           by_cases c55 : 0 ≤ (ji54)
           ·rw [if_pos c55] at H
            have c55b0 : decide (0 ≤ (ji54)) = true := decide_eq_true c55
            clear c55
            by_cases c56 : (ji54) < (l0.length : Int)
            ·rw [if_pos c56] at H
             have c56b0 : decide ((ji54) < (l0.length : Int)) = true := decide_eq_true c56
             clear c56
             by_cases c57 : x6_2 ≤ (wrap64 (a1_0 * (rd l0 (ji54))))
             ·rw [if_pos c57] at H
              have c57b0 : decide (x6_2 ≤ (wrap64 (a1_0 * (rd l0 (ji54))))) = true := decide_eq_true c57
              clear c57
              obtain rfl := Option.some.inj H
              have hcz58_0 : wr.cell? ⟨gb106, 0, none⟩ = some (.int .i64 a1_0) := (blk_cell BK106.out 0).trans rfl
              have hcz58_1 : wr.cell? ⟨gb106, 1, none⟩ = some (.slice A1_1 l1_1.length c1_1) := (blk_cell BK106.out 1).trans rfl
              have hfz58_0 := blk_frozen BK106.out 0
              have hfz58_1 := blk_frozen BK106.out 1
              obtain ⟨Ao59, co59, eo59⟩ := Kd.R_slice HO_7.out
              subst eo59
              try go_wp2_with (first | ((with_reducible refine gate_callee (f := 51) rfl ?_); refine goesL_ (some 80) rfl rfl Tryd.func51 (by kernel_rfl) rfl #[.slice Ao59 x7_2.length co59, .func (.func 52) #[] #[.pointer (some ⟨gb106, 0, none⟩)]] rfl (by (try simp only [List.map_toArray, List.map_cons, List.map_nil]); first | done | rfl | (simp only [List.length_drop, List.length_take]; rfl)) ?_; (with_reducible refine (uneven_calls _ _ x7_2 a1_0 _ _ _ false _ ?side1 ?side2 _ BK106.out (uneven_some A49.out)).mono ?_); (case side1 => repeat (first | exact (Kd.R_reads' HO_7.out).2.2 | (with_reducible refine Kd.C_alloc ?_ _) | (with_reducible refine Kd.C_drewN ?_ _) | (with_reducible refine Kd.C_drew ?_))); (case side2 => exact (Kd.R_reads' HO_7.out).2.1); rintro e w60 ⟨rfl, hb⟩; refine ⟨_, rfl, ?_⟩; have n0_ := Aside0.mk (Kd.R_below (by (with_reducible repeat (first | apply Kd.R_alloc | apply Kd.R_drewN | apply Kd.R_drew)); exact HO_7.out) hb); have n1_ := Aside0.mk (blk_below (g := gb106) (o := .cells #[.int .i64 a1_0, .slice A1_1 l1_1.length c1_1] 25 (0, 0)) (by (with_reducible repeat (first | refine blk_drewN ?_ _ | refine blk_drew ?_ | refine blk_alloc ?_ _)); exact BK106.out) hb); have n2_ := Aside0.mk (below_step (by repeat (first | (with_reducible first | exact HB.out | apply below_alloc | apply pw_below_drewN | apply below_drew1 | refine below_set ?_ GE106.out) | exact HB.out)) hb); clear HO_7; clear BK106; clear HB; have HO_7 := n0_; have BK106 := n1_; have HB := n2_; clear n0_ n1_ n2_; (try clear hb); (try clear hb2); (try clear hk); (try clear hi)))
              have n0_ := Aside0.mk (Kd.R_drew HO_7.out)
              have n1_ := Aside0.mk (blk_drew BK106.out)
              have n2_ := Aside0.mk (below_drew1 HB.out)
              clear HO_7
              clear BK106
              clear HB
              have HO_7 := n0_
              have BK106 := n1_
              have HB := n2_
              clear n0_ n1_ n2_
              have p122 : 0 ≤ ((ji54) : Int) := of_decide_eq_true (by first | (with_reducible assumption) | assumption)
              have q122 : (ji54) < (l0.length : Int) := of_decide_eq_true (by first | (with_reducible assumption) | assumption)
              obtain ⟨ad122, e122, hx122_0⟩ := Kd.at_int HR0.out (ji54) p122 q122
              have hw122_0 := hx122_0
              cases e122
              replace hx122_0 := (HB.out.cell (World.block_lt_of_cell? w _ hx122_0)).trans hx122_0
              replace p122 := eq_true p122
              replace q122 := eq_true q122
              refine start_ (n := 11) (S := fun w' => w'.cell? ⟨gb106, 0, none⟩ = some (.int .i64 a1_0) ∧ w'.cell? ⟨gb106, 1, none⟩ = some (.slice A1_1 l1_1.length c1_1) ∧ w'.cell? (ad122.add ((ji54)).toNat) = some (.int .i64 (rd l0 (ji54)))) (ds := []) #[false, false, false, false, false, false, false, false, false, false, false] (by kernel_rfl) rfl rfl ⟨(blk_cell BK106.out 0).trans rfl, (blk_cell BK106.out 1).trans rfl, ((HB.out.cell (World.block_lt_of_cell? w _ hw122_0)).trans hw122_0)⟩ (fun hHeld => ?_); refine with_tabW purse_CheckBalance.tab23 purse_CheckBalance.bits23 (fun HT_ HW_ => ?_)
              generalize w60.drew = w61 at HO_7 BK106 HB hx122_0 hHeld ⊢
              refine pure_ (i := 0) (N := some 81) (v := ?_) (a' := ?_) #[true, false, false, false, false, false, false, false, false, false, false] rfl rfl (any_of HT_.out (by kernel_rfl)) (fun _ _ _ h => h) (Or.inl ⟨by rfl, ?_⟩) ?_ ?_
              rotate_left
              ·intro w'
               go_simp
               with_reducible rfl
              rotate_left
              ·simp only [Act.put, List.setIfInBounds_toArray, List.set_cons_zero, List.set_cons_succ, i64_w, i32_w]
               rfl
              refine pure_ (i := 1) (N := some 82) (v := ?_) (a' := ?_) #[true, true, false, false, false, false, false, false, false, false, false] rfl rfl (any_of HT_.out (by kernel_rfl)) (fun _ _ _ h => h) (Or.inl ⟨by rfl, ?_⟩) ?_ ?_
              rotate_left
              ·intro w'
               go_simp
               with_reducible rfl
              rotate_left
              ·simp only [Act.put, List.setIfInBounds_toArray, List.set_cons_zero, List.set_cons_succ, i64_w, i32_w]
               rfl
              refine pure_ (i := 3) (N := some 84) (v := ?_) (a' := ?_) #[true, true, false, true, false, false, false, false, false, false, false] rfl rfl (any_of HT_.out (by kernel_rfl)) (fun _ _ _ h => h) (Or.inl ⟨by rfl, ?_⟩) ?_ ?_
              rotate_left
              ·intro w'
               go_simp
               with_reducible rfl
              rotate_left
              ·simp only [Act.put, List.setIfInBounds_toArray, List.set_cons_zero, List.set_cons_succ, i64_w, i32_w]
               rfl
              refine pure_ (i := 4) (N := some 85) (v := ?_) (a' := ?_) #[true, true, false, true, true, false, false, false, false, false, false] rfl rfl (any_of HT_.out (by kernel_rfl)) (fun _ _ _ h => h) (Or.inl ⟨by rfl, ?_⟩) ?_ ?_
              rotate_left
              ·intro w'
               go_simp
               with_reducible rfl
              rotate_left
              ·simp only [Act.put, List.setIfInBounds_toArray, List.set_cons_zero, List.set_cons_succ, i64_w, i32_w]
               rfl
              refine pure_ (i := 5) (N := some 86) (v := ?_) (a' := ?_) #[true, true, false, true, true, true, false, false, false, false, false] rfl rfl (any_of HT_.out (by kernel_rfl)) (fun _ _ _ h => h) (Or.inl ⟨by rfl, ?_⟩) ?_ ?_
              rotate_left
              ·intro w'
               go_simp
               with_reducible rfl
              rotate_left
              ·simp only [Act.put, List.setIfInBounds_toArray, List.set_cons_zero, List.set_cons_succ, i64_w, i32_w]
               rfl
              refine pure_ (i := 6) (N := some 87) (v := ?_) (a' := ?_) #[true, true, false, true, true, true, true, false, false, false, false] rfl rfl (any_of HT_.out (by kernel_rfl)) (fun _ _ _ h => h) (Or.inl ⟨by rfl, ?_⟩) ?_ ?_
              rotate_left
              ·intro w'
               go_simp
               with_reducible rfl
              rotate_left
              ·simp only [Act.put, List.setIfInBounds_toArray, List.set_cons_zero, List.set_cons_succ, i64_w, i32_w]
               rfl
              refine pure_ (i := 7) (N := some 88) (v := ?_) (a' := ?_) #[true, true, false, true, true, true, true, true, false, false, false] rfl rfl (any_of HT_.out (by kernel_rfl)) (fun _ _ _ h => h) (Or.inl ⟨by rfl, ?_⟩) ?_ ?_
              rotate_left
              ·intro w'
               go_simp
               with_reducible rfl
              rotate_left
              ·simp only [Act.put, List.setIfInBounds_toArray, List.set_cons_zero, List.set_cons_succ, i64_w, i32_w]
               rfl
              refine take_ (i := 2) (N := some 83) (v := ?_) (a' := ?_) #[true, true, true, true, true, true, true, true, false, false, false] rfl rfl (take_ofW HT_.out HW_.out (by kernel_rfl)) (fun _ _ _ h => h) (Or.inl ⟨by rfl, ?_⟩) hHeld ?_ ?_
              rotate_left
              ·rintro w' ⟨s0, s1, s2⟩
               go_simp
               with_reducible rfl
              rotate_left
              ·simp only [Act.put, List.setIfInBounds_toArray, List.set_cons_zero, List.set_cons_succ, i64_w, i32_w]
               rfl
              refine take_ (i := 8) (N := some 89) (v := ?_) (a' := ?_) #[true, true, true, true, true, true, true, true, true, false, false] rfl rfl (take_ofW HT_.out HW_.out (by kernel_rfl)) (fun _ _ _ h => h) (Or.inl ⟨by rfl, ?_⟩) hHeld ?_ ?_
              rotate_left
              ·rintro w' ⟨s0, s1, s2⟩
               go_simp
               with_reducible rfl
              rotate_left
              ·simp only [Act.put, List.setIfInBounds_toArray, List.set_cons_zero, List.set_cons_succ, i64_w, i32_w]
               rfl
              refine pure_ (i := 9) (N := some 90) (v := ?_) (a' := ?_) #[true, true, true, true, true, true, true, true, true, true, false] rfl rfl (any_of HT_.out (by kernel_rfl)) (fun _ _ _ h => h) (Or.inl ⟨by rfl, ?_⟩) ?_ ?_
              rotate_left
              ·intro w'
               go_simp
               with_reducible rfl
              rotate_left
              ·simp only [Act.put, List.setIfInBounds_toArray, List.set_cons_zero, List.set_cons_succ, i64_w, i32_w]
               rfl
              refine pure_ (i := 10) (N := some 91) (v := ?_) (a' := ?_) #[true, true, true, true, true, true, true, true, true, true, true] rfl rfl (any_of HT_.out (by kernel_rfl)) (fun _ _ _ h => h) (Or.inl ⟨by rfl, ?_⟩) ?_ ?_
              rotate_left
              ·intro w'
               go_simp
               with_reducible rfl
              rotate_left
              ·simp only [Act.put, List.setIfInBounds_toArray, List.set_cons_zero, List.set_cons_succ, i64_w, i32_w]
               rfl
              refine done_ (done_of HT_.out (by kernel_rfl)) ?_
              try go_wp2
              go_ret
              exact ⟨by first | rfl | (simp [errW_none, errW_some] <;> rfl) | (simp only [← hji54]; first | rfl | (simp [errW_none, errW_some] <;> rfl)) | (simp [*, errW_none, errW_some] <;> rfl), by repeat (first | (with_reducible first | exact HB.out | apply below_alloc | apply pw_below_drewN | apply below_drew1 | refine below_set ?_ GE106.out) | exact HB.out)⟩
             ·rw [if_neg c57] at H
              have c57b0 : decide (x6_2 ≤ (wrap64 (a1_0 * (rd l0 (ji54))))) = false := decide_eq_false c57
              clear c57
              obtain rfl := Option.some.inj H
              have hcz62_0 : wr.cell? ⟨gb106, 0, none⟩ = some (.int .i64 a1_0) := (blk_cell BK106.out 0).trans rfl
              have hcz62_1 : wr.cell? ⟨gb106, 1, none⟩ = some (.slice A1_1 l1_1.length c1_1) := (blk_cell BK106.out 1).trans rfl
              have hfz62_0 := blk_frozen BK106.out 0
              have hfz62_1 := blk_frozen BK106.out 1
              obtain ⟨Ao63, co63, eo63⟩ := Kd.R_slice HO_7.out
              subst eo63
              try go_wp2_with (first | ((with_reducible refine gate_callee (f := 51) rfl ?_); refine goesL_ (some 80) rfl rfl Tryd.func51 (by kernel_rfl) rfl #[.slice Ao63 x7_2.length co63, .func (.func 52) #[] #[.pointer (some ⟨gb106, 0, none⟩)]] rfl (by (try simp only [List.map_toArray, List.map_cons, List.map_nil]); first | done | rfl | (simp only [List.length_drop, List.length_take]; rfl)) ?_; (with_reducible refine (uneven_calls _ _ x7_2 a1_0 _ _ _ false _ ?side1 ?side2 _ BK106.out (uneven_some A49.out)).mono ?_); (case side1 => repeat (first | exact (Kd.R_reads' HO_7.out).2.2 | (with_reducible refine Kd.C_alloc ?_ _) | (with_reducible refine Kd.C_drewN ?_ _) | (with_reducible refine Kd.C_drew ?_))); (case side2 => exact (Kd.R_reads' HO_7.out).2.1); rintro e w64 ⟨rfl, hb⟩; refine ⟨_, rfl, ?_⟩; have n0_ := Aside0.mk (Kd.R_below (by (with_reducible repeat (first | apply Kd.R_alloc | apply Kd.R_drewN | apply Kd.R_drew)); exact HO_7.out) hb); have n1_ := Aside0.mk (blk_below (g := gb106) (o := .cells #[.int .i64 a1_0, .slice A1_1 l1_1.length c1_1] 25 (0, 0)) (by (with_reducible repeat (first | refine blk_drewN ?_ _ | refine blk_drew ?_ | refine blk_alloc ?_ _)); exact BK106.out) hb); have n2_ := Aside0.mk (below_step (by repeat (first | (with_reducible first | exact HB.out | apply below_alloc | apply pw_below_drewN | apply below_drew1 | refine below_set ?_ GE106.out) | exact HB.out)) hb); clear HO_7; clear BK106; clear HB; have HO_7 := n0_; have BK106 := n1_; have HB := n2_; clear n0_ n1_ n2_; (try clear hb); (try clear hb2); (try clear hk); (try clear hi)))
              have n0_ := Aside0.mk (Kd.R_drew HO_7.out)
              have n1_ := Aside0.mk (blk_drew BK106.out)
              have n2_ := Aside0.mk (below_drew1 HB.out)
              clear HO_7
              clear BK106
              clear HB
              have HO_7 := n0_
              have BK106 := n1_
              have HB := n2_
              clear n0_ n1_ n2_
              have p122 : 0 ≤ ((ji54) : Int) := of_decide_eq_true (by first | (with_reducible assumption) | assumption)
              have q122 : (ji54) < (l0.length : Int) := of_decide_eq_true (by first | (with_reducible assumption) | assumption)
              obtain ⟨ad122, e122, hx122_0⟩ := Kd.at_int HR0.out (ji54) p122 q122
              have hw122_0 := hx122_0
              cases e122
              replace hx122_0 := (HB.out.cell (World.block_lt_of_cell? w _ hx122_0)).trans hx122_0
              replace p122 := eq_true p122
              replace q122 := eq_true q122
              refine start_ (n := 11) (S := fun w' => w'.cell? ⟨gb106, 0, none⟩ = some (.int .i64 a1_0) ∧ w'.cell? ⟨gb106, 1, none⟩ = some (.slice A1_1 l1_1.length c1_1) ∧ w'.cell? (ad122.add ((ji54)).toNat) = some (.int .i64 (rd l0 (ji54)))) (ds := []) #[false, false, false, false, false, false, false, false, false, false, false] (by kernel_rfl) rfl rfl ⟨(blk_cell BK106.out 0).trans rfl, (blk_cell BK106.out 1).trans rfl, ((HB.out.cell (World.block_lt_of_cell? w _ hw122_0)).trans hw122_0)⟩ (fun hHeld => ?_); refine with_tabW purse_CheckBalance.tab23 purse_CheckBalance.bits23 (fun HT_ HW_ => ?_)
              generalize w64.drew = w65 at HO_7 BK106 HB hx122_0 hHeld ⊢
              refine pure_ (i := 0) (N := some 81) (v := ?_) (a' := ?_) #[true, false, false, false, false, false, false, false, false, false, false] rfl rfl (any_of HT_.out (by kernel_rfl)) (fun _ _ _ h => h) (Or.inl ⟨by rfl, ?_⟩) ?_ ?_
              rotate_left
              ·intro w'
               go_simp
               with_reducible rfl
              rotate_left
              ·simp only [Act.put, List.setIfInBounds_toArray, List.set_cons_zero, List.set_cons_succ, i64_w, i32_w]
               rfl
              refine pure_ (i := 1) (N := some 82) (v := ?_) (a' := ?_) #[true, true, false, false, false, false, false, false, false, false, false] rfl rfl (any_of HT_.out (by kernel_rfl)) (fun _ _ _ h => h) (Or.inl ⟨by rfl, ?_⟩) ?_ ?_
              rotate_left
              ·intro w'
               go_simp
               with_reducible rfl
              rotate_left
              ·simp only [Act.put, List.setIfInBounds_toArray, List.set_cons_zero, List.set_cons_succ, i64_w, i32_w]
               rfl
              refine pure_ (i := 3) (N := some 84) (v := ?_) (a' := ?_) #[true, true, false, true, false, false, false, false, false, false, false] rfl rfl (any_of HT_.out (by kernel_rfl)) (fun _ _ _ h => h) (Or.inl ⟨by rfl, ?_⟩) ?_ ?_
              rotate_left
              ·intro w'
               go_simp
               with_reducible rfl
              rotate_left
              ·simp only [Act.put, List.setIfInBounds_toArray, List.set_cons_zero, List.set_cons_succ, i64_w, i32_w]
               rfl
              refine pure_ (i := 4) (N := some 85) (v := ?_) (a' := ?_) #[true, true, false, true, true, false, false, false, false, false, false] rfl rfl (any_of HT_.out (by kernel_rfl)) (fun _ _ _ h => h) (Or.inl ⟨by rfl, ?_⟩) ?_ ?_
              rotate_left
              ·intro w'
               go_simp
               with_reducible rfl
              rotate_left
              ·simp only [Act.put, List.setIfInBounds_toArray, List.set_cons_zero, List.set_cons_succ, i64_w, i32_w]
               rfl
              refine pure_ (i := 5) (N := some 86) (v := ?_) (a' := ?_) #[true, true, false, true, true, true, false, false, false, false, false] rfl rfl (any_of HT_.out (by kernel_rfl)) (fun _ _ _ h => h) (Or.inl ⟨by rfl, ?_⟩) ?_ ?_
              rotate_left
              ·intro w'
               go_simp
               with_reducible rfl
              rotate_left
              ·simp only [Act.put, List.setIfInBounds_toArray, List.set_cons_zero, List.set_cons_succ, i64_w, i32_w]
               rfl
              refine pure_ (i := 6) (N := some 87) (v := ?_) (a' := ?_) #[true, true, false, true, true, true, true, false, false, false, false] rfl rfl (any_of HT_.out (by kernel_rfl)) (fun _ _ _ h => h) (Or.inl ⟨by rfl, ?_⟩) ?_ ?_
              rotate_left
              ·intro w'
               go_simp
               with_reducible rfl
              rotate_left
              ·simp only [Act.put, List.setIfInBounds_toArray, List.set_cons_zero, List.set_cons_succ, i64_w, i32_w]
               rfl
              refine pure_ (i := 7) (N := some 88) (v := ?_) (a' := ?_) #[true, true, false, true, true, true, true, true, false, false, false] rfl rfl (any_of HT_.out (by kernel_rfl)) (fun _ _ _ h => h) (Or.inl ⟨by rfl, ?_⟩) ?_ ?_
              rotate_left
              ·intro w'
               go_simp
               with_reducible rfl
              rotate_left
              ·simp only [Act.put, List.setIfInBounds_toArray, List.set_cons_zero, List.set_cons_succ, i64_w, i32_w]
               rfl
              refine take_ (i := 2) (N := some 83) (v := ?_) (a' := ?_) #[true, true, true, true, true, true, true, true, false, false, false] rfl rfl (take_ofW HT_.out HW_.out (by kernel_rfl)) (fun _ _ _ h => h) (Or.inl ⟨by rfl, ?_⟩) hHeld ?_ ?_
              rotate_left
              ·rintro w' ⟨s0, s1, s2⟩
               go_simp
               with_reducible rfl
              rotate_left
              ·simp only [Act.put, List.setIfInBounds_toArray, List.set_cons_zero, List.set_cons_succ, i64_w, i32_w]
               rfl
              refine take_ (i := 8) (N := some 89) (v := ?_) (a' := ?_) #[true, true, true, true, true, true, true, true, true, false, false] rfl rfl (take_ofW HT_.out HW_.out (by kernel_rfl)) (fun _ _ _ h => h) (Or.inl ⟨by rfl, ?_⟩) hHeld ?_ ?_
              rotate_left
              ·rintro w' ⟨s0, s1, s2⟩
               go_simp
               with_reducible rfl
              rotate_left
              ·simp only [Act.put, List.setIfInBounds_toArray, List.set_cons_zero, List.set_cons_succ, i64_w, i32_w]
               rfl
              refine pure_ (i := 9) (N := some 90) (v := ?_) (a' := ?_) #[true, true, true, true, true, true, true, true, true, true, false] rfl rfl (any_of HT_.out (by kernel_rfl)) (fun _ _ _ h => h) (Or.inl ⟨by rfl, ?_⟩) ?_ ?_
              rotate_left
              ·intro w'
               go_simp
               with_reducible rfl
              rotate_left
              ·simp only [Act.put, List.setIfInBounds_toArray, List.set_cons_zero, List.set_cons_succ, i64_w, i32_w]
               rfl
              refine pure_ (i := 10) (N := some 91) (v := ?_) (a' := ?_) #[true, true, true, true, true, true, true, true, true, true, true] rfl rfl (any_of HT_.out (by kernel_rfl)) (fun _ _ _ h => h) (Or.inl ⟨by rfl, ?_⟩) ?_ ?_
              rotate_left
              ·intro w'
               go_simp
               with_reducible rfl
              rotate_left
              ·simp only [Act.put, List.setIfInBounds_toArray, List.set_cons_zero, List.set_cons_succ, i64_w, i32_w]
               rfl
              refine done_ (done_of HT_.out (by kernel_rfl)) ?_
              try go_wp2
              go_ret
              exact ⟨by first | rfl | (simp [errW_none, errW_some] <;> rfl) | (simp only [← hji54]; first | rfl | (simp [errW_none, errW_some] <;> rfl)) | (simp [*, errW_none, errW_some] <;> rfl), by repeat (first | (with_reducible first | exact HB.out | apply below_alloc | apply pw_below_drewN | apply below_drew1 | refine below_set ?_ GE106.out) | exact HB.out)⟩
            ·rw [if_neg c56] at H
             exact absurd H (by simp)
           ·rw [if_neg c55] at H
            exact absurd H (by simp)
      ·rw [if_neg c14] at H
       exact absurd H (by simp)
     ·rw [if_neg c13] at H
      exact absurd H (by simp)
 ·rw [if_neg c4] at H
  have c4b0 : (t107 == 0) = false := beq_eq_false_iff_ne.mpr c4
  have c4b1 : (t107 != 0) = true := bne_iff_ne.mpr c4
  obtain rfl := Option.some.inj H
  go_enter Tryd.func17, Tryd.ntmps17
  go_wp2_with (first | ((with_reducible refine gate_dst (N := 3) rfl ?_); (try (refine gate_guard (by rfl) ?_; dsimp only)); refine box_event ?hg (N := 3) ?hd (cs := #[.int .i64 a1_0, .slice A1_1 l1_1.length c1_1]) (t := 25) ?hr ?_; (case hd => rfl); (case hg => rfl); (case hr => first | (go_simp; done) | (go_simp; rfl)); intro gb106 hg w66 hbox hb; have n0_ := Aside0.mk (below_step (by repeat (first | (with_reducible first | exact HB.out | apply below_alloc | apply pw_below_drewN | apply below_drew1) | exact HB.out)) hb); have n1_ := Aside0.mk (hbox); have n2_ := Aside0.mk ((by rw [hg]; exact (below_size (by repeat (first | (with_reducible first | exact HB.out | apply below_alloc | apply pw_below_drewN | apply below_drew1) | exact HB.out))) : w.heap.size ≤ gb106)); have n3_ := Aside0.mk ((by rw [hg]; exact (below_size (by repeat (first | (with_reducible first | exact HB.out | apply below_alloc | apply pw_below_drewN | apply below_drew1) | exact HB.out))) : w.heap.size ≤ gb106)); clear HB; have HB := n0_; have BK106 := n1_; have GW106 := n2_; have GE106 := n3_; clear n0_ n1_ n2_ n3_; clear hb hbox hg) | ((with_reducible refine gate_callee (f := 42) rfl ?_); refine goesL_ (some 12) rfl rfl Tryd.func42 (by kernel_rfl) rfl #[.slice A0 l0.length c0] rfl (by (try simp only [List.map_toArray, List.map_cons, List.map_nil]); first | done | rfl | (simp only [List.length_drop, List.length_take]; rfl)) ?_; (with_reducible refine (purse_Validate.calls _ _ l0 t107 _ ?side1 ?side2 A3.out).mono ?_); (case side1 => repeat (first | exact (Kd.C_below HR0.out HB.out) | (with_reducible refine Kd.C_alloc ?_ _) | (with_reducible refine Kd.C_drewN ?_ _) | (with_reducible refine Kd.C_drew ?_))); (case side2 => exact HC0.out); rintro e w' ⟨rfl, ⟨nd, rfl⟩⟩; refine ⟨_, rfl, ?_⟩))
  go_ret
  exact ⟨by first | rfl | (simp [errW_none, errW_some] <;> rfl) | (simp [*, errW_none, errW_some] <;> rfl), by repeat (first | (with_reducible first | exact HB.out | apply below_alloc | apply pw_below_drewN | apply below_drew1 | refine below_set ?_ GE106.out) | exact HB.out)⟩

end Go.Proofs.YtjphklemnhgkiaaDoor.Q
