-- Written by a program of this session (wip/tools/gprint.py, over the kit's print); Lean checks it.
import Derived.Test.YtlbhighbhchdmaaQx0
import Derived.Test.YtlbhighbhchdmaaQx15
namespace Go.Proofs.Ytlbhighbhchdmaa.Q
open Go.RowKit Go.Proofs.YtlbhighbhchdmaaW.PrintWords Go.Proofs.YtlbhighbhchdmaaW.PrintLast Go.Proofs.YtlbhighbhchdmaaW.PrintMore
attribute [local go_sem] max2_int min2_int max_two min_two max_three min_three max_four min_four   -- for this text's walks alone
set_option linter.unusedVariables false
set_option linter.unusedSimpArgs false

/-! ### ring_ValidateBlocks: function 46 -/
mutual
def ring_ValidateBlocks.l0 : Nat → List (S79) → List (S79) → Int → Int → Option (Int)
 | 0, _, _, _, _ => none
 | k + 1, x0, x12, x13, x14 => if x14 < x13 then (if 0 ≤ x14 then (if x14 < (x12.length : Int) then ((ring_series.f ((rd_T79 x12 x14).f0)).bind fun t346 => (if t346 = true then (if ((rd_T79 x12 x14).f1) < 0 then (some 1) else (if ((rd_T79 x12 x14).f1) > ((rd_T79 x12 x14).f2) then (some 1) else (if ((rd_T79 x12 x14).f2) > 99999 then (some 1) else (ring_ValidateBlocks.l0 k x0 x12 x13 (wrap64 (x14 + 1)))))) else (some 2))) else (none)) else (none)) else (ring_ValidateBlocks.l1 k x0 x0 (x0.length : Int) 0)
def ring_ValidateBlocks.l1 : Nat → List (S79) → List (S79) → Int → Int → Option (Int)
 | 0, _, _, _, _ => none
 | k + 1, x0, x40, x41, x42 => if x42 < x41 then (if 0 ≤ x42 then (if x42 < (x40.length : Int) then (if x42 ≤ (x0.length : Int) then ((some (x0.take (x42 : Int).toNat : List (S79))).bind fun y349 => (ring_ValidateBlocks.l2 k x0 x40 x41 x42 y349 (y349.length : Int) 0 ((rd_T79 x40 x42).f0) ((rd_T79 x40 x42).f1) ((rd_T79 x40 x42).f2))) else (none)) else (none)) else (none)) else (some 0)
def ring_ValidateBlocks.l2 : Nat → List (S79) → List (S79) → Int → Int → List (S79) → Int → Int → ByteArray → Int → Int → Option (Int)
 | 0, _, _, _, _, _, _, _, _, _, _ => none
 | k + 1, x0, x40, x41, x42, x49, x50, x51, x349000, x349001, x349002 => if x51 < x50 then (if 0 ≤ x51 then (if x51 < (x49.length : Int) then (if x349000.toList = ((rd_T79 x49 x51).f0).toList then (if x349001 ≤ ((rd_T79 x49 x51).f2) then (if ((rd_T79 x49 x51).f1) ≤ x349002 then (some 5) else (ring_ValidateBlocks.l2 k x0 x40 x41 x42 x49 x50 (wrap64 (x51 + 1)) x349000 x349001 x349002)) else (ring_ValidateBlocks.l2 k x0 x40 x41 x42 x49 x50 (wrap64 (x51 + 1)) x349000 x349001 x349002)) else (ring_ValidateBlocks.l2 k x0 x40 x41 x42 x49 x50 (wrap64 (x51 + 1)) x349000 x349001 x349002)) else (none)) else (none)) else (ring_ValidateBlocks.l1 k x0 x40 x41 (wrap64 (x42 + 1)))
end
def ring_ValidateBlocks.f (k : Nat) (l0 : List (S79)) : Option (Int) := if (l0.length : Int) > 8 then (some 3) else (ring_ValidateBlocks.l0 k l0 l0 (l0.length : Int) 0)
theorem ring_ValidateBlocks.mono_l : ∀ k, (∀ y0 y1 y2 y3, LeO (ring_ValidateBlocks.l0 k y0 y1 y2 y3) (ring_ValidateBlocks.l0 (k + 1) y0 y1 y2 y3)) ∧ (∀ y0 y1 y2 y3, LeO (ring_ValidateBlocks.l1 k y0 y1 y2 y3) (ring_ValidateBlocks.l1 (k + 1) y0 y1 y2 y3)) ∧ (∀ y0 y1 y2 y3 y4 y5 y6 y7 y8 y9, LeO (ring_ValidateBlocks.l2 k y0 y1 y2 y3 y4 y5 y6 y7 y8 y9) (ring_ValidateBlocks.l2 (k + 1) y0 y1 y2 y3 y4 y5 y6 y7 y8 y9))
 | 0 => ⟨fun _ _ _ _ r h => by simp [ring_ValidateBlocks.l0] at h, fun _ _ _ _ r h => by simp [ring_ValidateBlocks.l1] at h, fun _ _ _ _ _ _ _ _ _ _ r h => by simp [ring_ValidateBlocks.l2] at h⟩
 | k + 1 => by
  obtain ⟨ih0, ih1, ih2⟩ := ring_ValidateBlocks.mono_l k
  refine ⟨?_, ?_, ?_⟩
  ·intro y0 y1 y2 y3
   unfold ring_ValidateBlocks.l0
   repeat' first
   | (with_reducible exact ih0 _ _ _ _)
   | (with_reducible exact ih1 _ _ _ _)
   | (with_reducible exact ih2 _ _ _ _ _ _ _ _ _ _)
   | (with_reducible exact LeO.refl _)
   | (with_reducible exact LeO.none _)
   | (with_reducible refine LeO.ite ?_ ?_)
   | (with_reducible refine LeO.bind ?_ (fun _ => ?_))
   | exact ih0 _ _ _ _
   | exact ih1 _ _ _ _
   | exact ih2 _ _ _ _ _ _ _ _ _ _
   | exact LeO.none _
   | refine LeO.ite ?_ ?_
   | refine LeO.bind ?_ (fun _ => ?_)
  ·intro y0 y1 y2 y3
   unfold ring_ValidateBlocks.l1
   repeat' first
   | (with_reducible exact ih0 _ _ _ _)
   | (with_reducible exact ih1 _ _ _ _)
   | (with_reducible exact ih2 _ _ _ _ _ _ _ _ _ _)
   | (with_reducible exact LeO.refl _)
   | (with_reducible exact LeO.none _)
   | (with_reducible refine LeO.ite ?_ ?_)
   | (with_reducible refine LeO.bind ?_ (fun _ => ?_))
   | exact ih0 _ _ _ _
   | exact ih1 _ _ _ _
   | exact ih2 _ _ _ _ _ _ _ _ _ _
   | exact LeO.none _
   | refine LeO.ite ?_ ?_
   | refine LeO.bind ?_ (fun _ => ?_)
  ·intro y0 y1 y2 y3 y4 y5 y6 y7 y8 y9
   unfold ring_ValidateBlocks.l2
   repeat' first
   | (with_reducible exact ih0 _ _ _ _)
   | (with_reducible exact ih1 _ _ _ _)
   | (with_reducible exact ih2 _ _ _ _ _ _ _ _ _ _)
   | (with_reducible exact LeO.refl _)
   | (with_reducible exact LeO.none _)
   | (with_reducible refine LeO.ite ?_ ?_)
   | (with_reducible refine LeO.bind ?_ (fun _ => ?_))
   | exact ih0 _ _ _ _
   | exact ih1 _ _ _ _
   | exact ih2 _ _ _ _ _ _ _ _ _ _
   | exact LeO.none _
   | refine LeO.ite ?_ ?_
   | refine LeO.bind ?_ (fun _ => ?_)
theorem ring_ValidateBlocks.mono : ∀ a0 k, LeO (ring_ValidateBlocks.f k a0) (ring_ValidateBlocks.f (k + 1) a0) := by
 intro a0 k
 obtain ⟨ih0, ih1, ih2⟩ := ring_ValidateBlocks.mono_l k
 unfold ring_ValidateBlocks.f
 repeat' first
   | (with_reducible exact ih0 _ _ _ _)
   | (with_reducible exact ih1 _ _ _ _)
   | (with_reducible exact ih2 _ _ _ _ _ _ _ _ _ _)
   | (with_reducible exact LeO.refl _)
   | (with_reducible exact LeO.none _)
   | (with_reducible refine LeO.ite ?_ ?_)
   | (with_reducible refine LeO.bind ?_ (fun _ => ?_))
   | exact ih0 _ _ _ _
   | exact ih1 _ _ _ _
   | exact ih2 _ _ _ _ _ _ _ _ _ _
   | exact LeO.none _
   | refine LeO.ite ?_ ?_
   | refine LeO.bind ?_ (fun _ => ?_)
set_option maxHeartbeats 8000000 in
set_option maxRecDepth 100000 in
theorem ring_ValidateBlocks.calls (k : Nat) (A0 : Option Addr) (c0 : Nat) (l0 : List (S79)) (r : Int) (w : World) (hr0 : Kd.C k79 w A0 l0.length l0) (hc0 : l0.length ≤ c0) (h : ring_ValidateBlocks.f k l0 = some r) :
  Calls Try.prog 46 #[.slice A0 l0.length c0] w fun e w' => e = .returned (.int .i64 r) ∧ Below w.heap.size w w' := by
 have hu79 := Try.underlying79
 have HR0 := Aside0.mk hr0
 have HC0 := Aside0.mk hc0
 clear hr0 hc0
 have HB := Aside0.mk (Below.refl w.heap.size w)
 have H : (if (l0.length : Int) > 8 then (some 3) else (ring_ValidateBlocks.l0 k l0 l0 (l0.length : Int) 0)) = some r := h
 clear h
 by_cases c2 : (l0.length : Int) > 8
 ·rw [if_pos c2] at H
  have c2b0 : decide (8 < (l0.length : Int)) = true := decide_eq_true c2
  have c2b1 : decide (8 < l0.length) = true := decide_eq_true (by omega)
  clear c2
  obtain rfl := Option.some.inj H
  go_enter Try.func46, Try.ntmps46
  go_wp2
  go_ret
  exact ⟨by first | rfl | (simp [errW_none, errW_some] <;> rfl) | (simp [*, errW_none, errW_some] <;> rfl), by repeat (first | (with_reducible first | exact HB.out | apply below_alloc | apply pw_below_drewN | apply below_drew1) | exact HB.out)⟩
 ·rw [if_neg c2] at H
  have c2b0 : decide (8 < (l0.length : Int)) = false := decide_eq_false c2
  have c2b1 : decide (8 < l0.length) = false := decide_eq_false (by omega)
  clear c2
  have H' := Aside0.mk H
  clear H
  go_enter Try.func46, Try.ntmps46
  go_wp2
  go_loopg [14] k (fun kq v14 w' => ∃ (x14_1 : Int), v14 = .int .i64 x14_1 ∧ Aside0 (ring_ValidateBlocks.l0 kq l0 l0 (l0.length : Int) x14_1 = some r) ∧ Aside0 (kq ≤ k) ∧ Aside0 (Below w.heap.size w w'))
  case atStart => exact ⟨(0), (by first | rfl | (simp; done) | (simp [*]; done)), H', ⟨Nat.le_refl _⟩, ⟨by repeat (first | (with_reducible first | exact HB.out | apply below_alloc | apply pw_below_drewN | apply below_drew1) | exact HB.out)⟩⟩
  case round =>
   clear H'
   try clear c2
   try clear c2b0
   try clear c2b1
   try clear p2
   obtain ⟨x14_1, rfl, HA, HK1, HB⟩ := hrel
   cases gk with
   | zero => exact absurd HA.out (by simp [ring_ValidateBlocks.l0])
   | succ k1 =>
    have H := HA.out
    clear HA
    simp only [ring_ValidateBlocks.l0] at H
    by_cases c3 : x14_1 < (l0.length : Int)
    ·rw [if_pos c3] at H
     have c3b0 : decide (x14_1 < (l0.length : Int)) = true := decide_eq_true c3
     clear c3
     by_cases c4 : 0 ≤ x14_1
     ·rw [if_pos c4] at H
      have c4b0 : decide (0 ≤ x14_1) = true := decide_eq_true c4
      clear c4
      by_cases c5 : x14_1 < (l0.length : Int)
      ·rw [if_pos c5] at H
       have c5b0 : decide (x14_1 < (l0.length : Int)) = true := decide_eq_true c5
       clear c5
       replace H := Option.bind_eq_some_iff.mp H
       obtain ⟨t346, A60, H⟩ := H
       replace H : (if t346 = true then (if ((rd_T79 l0 x14_1).f1) < 0 then (some 1) else (if ((rd_T79 l0 x14_1).f1) > ((rd_T79 l0 x14_1).f2) then (some 1) else (if ((rd_T79 l0 x14_1).f2) > 99999 then (some 1) else (ring_ValidateBlocks.l0 k1 l0 l0 (l0.length : Int) (wrap64 (x14_1 + 1)))))) else (some 2)) = some r := H
       have A6 := Aside0.mk A60
       clear A60
       by_cases c7 : t346 = true
       ·subst c7
        have H1 : (if ((rd_T79 l0 x14_1).f1) < 0 then (some 1) else (if ((rd_T79 l0 x14_1).f1) > ((rd_T79 l0 x14_1).f2) then (some 1) else (if ((rd_T79 l0 x14_1).f2) > 99999 then (some 1) else (ring_ValidateBlocks.l0 k1 l0 l0 (l0.length : Int) (wrap64 (x14_1 + 1)))))) = some r := by rw [if_pos rfl] at H; exact H
        clear H
        have H := H1
        clear H1
        by_cases c8 : ((rd_T79 l0 x14_1).f1) < 0
        ·rw [if_pos c8] at H
         have c8b0 : decide (((rd_T79 l0 x14_1).f1) < 0) = true := decide_eq_true c8
         clear c8
         obtain rfl := Option.some.inj H
         have p344 : 0 ≤ (x14_1 : Int) := of_decide_eq_true (by first | (with_reducible assumption) | assumption)
         have q344 : x14_1 < (l0.length : Int) := of_decide_eq_true (by first | (with_reducible assumption) | assumption)
         obtain ⟨ad344, e344, hx344_0, hx344_1, hx344_2⟩ := at_T79 HR0.out x14_1 p344 q344
         cases e344
         replace hx344_0 := (HB.out.cell (World.block_lt_of_cell? w _ hx344_0)).trans hx344_0
         replace hx344_1 := (HB.out.cell (World.block_lt_of_cell? w _ hx344_1)).trans hx344_1
         replace hx344_2 := (HB.out.cell (World.block_lt_of_cell? w _ hx344_2)).trans hx344_2
         replace p344 := eq_true p344
         replace q344 := eq_true q344
         go_wp2_with (first | ((with_reducible refine gate_dst (N := 4) rfl ?_); refine box_event ?hg (N := 4) ?hd (cs := #[.string (⟨#[]⟩ : ByteArray), .int .i64 0, .int .i64 0]) (t := 79) ?hr ?_; (case hd => rfl); (case hg => rfl); (case hr => first | (go_simp; done) | (go_simp; rfl)); intro gb345 hg w9 hbox hb; have n0_ := Aside0.mk (below_step (by repeat (first | (with_reducible first | exact HB.out | apply below_alloc | apply pw_below_drewN | apply below_drew1) | exact HB.out)) hb); have n1_ := Aside0.mk (hbox); have n2_ := Aside0.mk ((by rw [hg]; exact (below_size (by repeat (first | (with_reducible first | exact HB.out | apply below_alloc | apply pw_below_drewN | apply below_drew1) | exact HB.out))) : w.heap.size ≤ gb345)); have n3_ := Aside0.mk ((by rw [hg]; exact (below_size (by repeat (first | (with_reducible first | exact HB.out | apply below_alloc | apply pw_below_drewN | apply below_drew1) | exact HB.out))) : w.heap.size ≤ gb345)); clear HB; have HB := n0_; have BK345 := n1_; have GW345 := n2_; have GE345 := n3_; clear n0_ n1_ n2_ n3_; clear hb hbox hg; have hcz10_0 : w9.cell? ⟨gb345, 0, none⟩ = some (.string (⟨#[]⟩ : ByteArray)) := (blk_cell BK345.out 0).trans rfl; have hcz10_1 : w9.cell? ⟨gb345, 1, none⟩ = some (.int .i64 0) := (blk_cell BK345.out 1).trans rfl; have hcz10_2 : w9.cell? ⟨gb345, 2, none⟩ = some (.int .i64 0) := (blk_cell BK345.out 2).trans rfl; have hfz10_0 := blk_frozen BK345.out 0; have hfz10_1 := blk_frozen BK345.out 1; have hfz10_2 := blk_frozen BK345.out 2) | ((with_reducible refine gate_callee (f := 78) rfl ?_); refine goesL_ (some 21) rfl rfl Try.func78 (by kernel_rfl) rfl #[.string ((rd_T79 l0 x14_1).f0)] rfl (by (try simp only [List.map_toArray, List.map_cons, List.map_nil]); first | done | rfl | (simp only [List.length_drop, List.length_take]; rfl)) ?_; (with_reducible refine (ring_series.calls ((rd_T79 l0 x14_1).f0) true _ A6.out).mono ?_); rintro e w11 ⟨rfl, hb⟩; refine ⟨_, rfl, ?_⟩; have n0_ := Aside0.mk (blk_below (g := gb345) (o := .cells #[.string ((rd_T79 l0 x14_1).f0), .int .i64 ((rd_T79 l0 x14_1).f1), .int .i64 ((rd_T79 l0 x14_1).f2)] 79 (0, 0)) (by (with_reducible repeat (first | refine blk_drewN ?_ _ | refine blk_drew ?_ | refine blk_alloc ?_ _)); refine blk_put (cs := #[.string ((rd_T79 l0 x14_1).f0), .int .i64 ((rd_T79 l0 x14_1).f1), .int .i64 0]) ?_ 2 _ rfl; (with_reducible repeat (first | refine blk_drewN ?_ _ | refine blk_drew ?_ | refine blk_alloc ?_ _)); refine blk_put (cs := #[.string ((rd_T79 l0 x14_1).f0), .int .i64 0, .int .i64 0]) ?_ 1 _ rfl; (with_reducible repeat (first | refine blk_drewN ?_ _ | refine blk_drew ?_ | refine blk_alloc ?_ _)); refine blk_put (cs := #[.string (⟨#[]⟩ : ByteArray), .int .i64 0, .int .i64 0]) ?_ 0 _ rfl; (with_reducible repeat (first | refine blk_drewN ?_ _ | refine blk_drew ?_ | refine blk_alloc ?_ _)); exact BK345.out) hb); have n1_ := Aside0.mk (below_step (by repeat (first | (with_reducible first | exact HB.out | apply below_alloc | apply pw_below_drewN | apply below_drew1 | refine below_set ?_ GE345.out) | exact HB.out)) hb); clear BK345; clear HB; have BK345 := n0_; have HB := n1_; clear n0_ n1_; (try clear hb); (try clear hb2); (try clear hk); (try clear hi); have hcz12_0 : w11.cell? ⟨gb345, 0, none⟩ = some (.string ((rd_T79 l0 x14_1).f0)) := (blk_cell BK345.out 0).trans rfl; have hcz12_1 : w11.cell? ⟨gb345, 1, none⟩ = some (.int .i64 ((rd_T79 l0 x14_1).f1)) := (blk_cell BK345.out 1).trans rfl; have hcz12_2 : w11.cell? ⟨gb345, 2, none⟩ = some (.int .i64 ((rd_T79 l0 x14_1).f2)) := (blk_cell BK345.out 2).trans rfl; have hfz12_0 := blk_frozen BK345.out 0; have hfz12_1 := blk_frozen BK345.out 1; have hfz12_2 := blk_frozen BK345.out 2))
         go_ret
         exact ⟨by first | rfl | (simp [errW_none, errW_some] <;> rfl) | (simp [*, errW_none, errW_some] <;> rfl), by repeat (first | (with_reducible first | exact HB.out | apply below_alloc | apply pw_below_drewN | apply below_drew1 | refine below_set ?_ GE345.out) | exact HB.out)⟩
        ·rw [if_neg c8] at H
         have c8b0 : decide (((rd_T79 l0 x14_1).f1) < 0) = false := decide_eq_false c8
         clear c8
         by_cases c13 : ((rd_T79 l0 x14_1).f1) > ((rd_T79 l0 x14_1).f2)
         ·rw [if_pos c13] at H
          have c13b0 : decide (((rd_T79 l0 x14_1).f2) < ((rd_T79 l0 x14_1).f1)) = true := decide_eq_true c13
          clear c13
          obtain rfl := Option.some.inj H
          have p344 : 0 ≤ (x14_1 : Int) := of_decide_eq_true (by first | (with_reducible assumption) | assumption)
          have q344 : x14_1 < (l0.length : Int) := of_decide_eq_true (by first | (with_reducible assumption) | assumption)
          obtain ⟨ad344, e344, hx344_0, hx344_1, hx344_2⟩ := at_T79 HR0.out x14_1 p344 q344
          cases e344
          replace hx344_0 := (HB.out.cell (World.block_lt_of_cell? w _ hx344_0)).trans hx344_0
          replace hx344_1 := (HB.out.cell (World.block_lt_of_cell? w _ hx344_1)).trans hx344_1
          replace hx344_2 := (HB.out.cell (World.block_lt_of_cell? w _ hx344_2)).trans hx344_2
          replace p344 := eq_true p344
          replace q344 := eq_true q344
          go_wp2_with (first | ((with_reducible refine gate_dst (N := 4) rfl ?_); refine box_event ?hg (N := 4) ?hd (cs := #[.string (⟨#[]⟩ : ByteArray), .int .i64 0, .int .i64 0]) (t := 79) ?hr ?_; (case hd => rfl); (case hg => rfl); (case hr => first | (go_simp; done) | (go_simp; rfl)); intro gb345 hg w14 hbox hb; have n0_ := Aside0.mk (below_step (by repeat (first | (with_reducible first | exact HB.out | apply below_alloc | apply pw_below_drewN | apply below_drew1) | exact HB.out)) hb); have n1_ := Aside0.mk (hbox); have n2_ := Aside0.mk ((by rw [hg]; exact (below_size (by repeat (first | (with_reducible first | exact HB.out | apply below_alloc | apply pw_below_drewN | apply below_drew1) | exact HB.out))) : w.heap.size ≤ gb345)); have n3_ := Aside0.mk ((by rw [hg]; exact (below_size (by repeat (first | (with_reducible first | exact HB.out | apply below_alloc | apply pw_below_drewN | apply below_drew1) | exact HB.out))) : w.heap.size ≤ gb345)); clear HB; have HB := n0_; have BK345 := n1_; have GW345 := n2_; have GE345 := n3_; clear n0_ n1_ n2_ n3_; clear hb hbox hg; have hcz15_0 : w14.cell? ⟨gb345, 0, none⟩ = some (.string (⟨#[]⟩ : ByteArray)) := (blk_cell BK345.out 0).trans rfl; have hcz15_1 : w14.cell? ⟨gb345, 1, none⟩ = some (.int .i64 0) := (blk_cell BK345.out 1).trans rfl; have hcz15_2 : w14.cell? ⟨gb345, 2, none⟩ = some (.int .i64 0) := (blk_cell BK345.out 2).trans rfl; have hfz15_0 := blk_frozen BK345.out 0; have hfz15_1 := blk_frozen BK345.out 1; have hfz15_2 := blk_frozen BK345.out 2) | ((with_reducible refine gate_callee (f := 78) rfl ?_); refine goesL_ (some 21) rfl rfl Try.func78 (by kernel_rfl) rfl #[.string ((rd_T79 l0 x14_1).f0)] rfl (by (try simp only [List.map_toArray, List.map_cons, List.map_nil]); first | done | rfl | (simp only [List.length_drop, List.length_take]; rfl)) ?_; (with_reducible refine (ring_series.calls ((rd_T79 l0 x14_1).f0) true _ A6.out).mono ?_); rintro e w16 ⟨rfl, hb⟩; refine ⟨_, rfl, ?_⟩; have n0_ := Aside0.mk (blk_below (g := gb345) (o := .cells #[.string ((rd_T79 l0 x14_1).f0), .int .i64 ((rd_T79 l0 x14_1).f1), .int .i64 ((rd_T79 l0 x14_1).f2)] 79 (0, 0)) (by (with_reducible repeat (first | refine blk_drewN ?_ _ | refine blk_drew ?_ | refine blk_alloc ?_ _)); refine blk_put (cs := #[.string ((rd_T79 l0 x14_1).f0), .int .i64 ((rd_T79 l0 x14_1).f1), .int .i64 0]) ?_ 2 _ rfl; (with_reducible repeat (first | refine blk_drewN ?_ _ | refine blk_drew ?_ | refine blk_alloc ?_ _)); refine blk_put (cs := #[.string ((rd_T79 l0 x14_1).f0), .int .i64 0, .int .i64 0]) ?_ 1 _ rfl; (with_reducible repeat (first | refine blk_drewN ?_ _ | refine blk_drew ?_ | refine blk_alloc ?_ _)); refine blk_put (cs := #[.string (⟨#[]⟩ : ByteArray), .int .i64 0, .int .i64 0]) ?_ 0 _ rfl; (with_reducible repeat (first | refine blk_drewN ?_ _ | refine blk_drew ?_ | refine blk_alloc ?_ _)); exact BK345.out) hb); have n1_ := Aside0.mk (below_step (by repeat (first | (with_reducible first | exact HB.out | apply below_alloc | apply pw_below_drewN | apply below_drew1 | refine below_set ?_ GE345.out) | exact HB.out)) hb); clear BK345; clear HB; have BK345 := n0_; have HB := n1_; clear n0_ n1_; (try clear hb); (try clear hb2); (try clear hk); (try clear hi); have hcz17_0 : w16.cell? ⟨gb345, 0, none⟩ = some (.string ((rd_T79 l0 x14_1).f0)) := (blk_cell BK345.out 0).trans rfl; have hcz17_1 : w16.cell? ⟨gb345, 1, none⟩ = some (.int .i64 ((rd_T79 l0 x14_1).f1)) := (blk_cell BK345.out 1).trans rfl; have hcz17_2 : w16.cell? ⟨gb345, 2, none⟩ = some (.int .i64 ((rd_T79 l0 x14_1).f2)) := (blk_cell BK345.out 2).trans rfl; have hfz17_0 := blk_frozen BK345.out 0; have hfz17_1 := blk_frozen BK345.out 1; have hfz17_2 := blk_frozen BK345.out 2))
          go_ret
          exact ⟨by first | rfl | (simp [errW_none, errW_some] <;> rfl) | (simp [*, errW_none, errW_some] <;> rfl), by repeat (first | (with_reducible first | exact HB.out | apply below_alloc | apply pw_below_drewN | apply below_drew1 | refine below_set ?_ GE345.out) | exact HB.out)⟩
         ·rw [if_neg c13] at H
          have c13b0 : decide (((rd_T79 l0 x14_1).f2) < ((rd_T79 l0 x14_1).f1)) = false := decide_eq_false c13
          clear c13
          by_cases c18 : ((rd_T79 l0 x14_1).f2) > 99999
          ·rw [if_pos c18] at H
           have c18b0 : decide (99999 < ((rd_T79 l0 x14_1).f2)) = true := decide_eq_true c18
           clear c18
           obtain rfl := Option.some.inj H
           have p344 : 0 ≤ (x14_1 : Int) := of_decide_eq_true (by first | (with_reducible assumption) | assumption)
           have q344 : x14_1 < (l0.length : Int) := of_decide_eq_true (by first | (with_reducible assumption) | assumption)
           obtain ⟨ad344, e344, hx344_0, hx344_1, hx344_2⟩ := at_T79 HR0.out x14_1 p344 q344
           cases e344
           replace hx344_0 := (HB.out.cell (World.block_lt_of_cell? w _ hx344_0)).trans hx344_0
           replace hx344_1 := (HB.out.cell (World.block_lt_of_cell? w _ hx344_1)).trans hx344_1
           replace hx344_2 := (HB.out.cell (World.block_lt_of_cell? w _ hx344_2)).trans hx344_2
           replace p344 := eq_true p344
           replace q344 := eq_true q344
           go_wp2_with (first | ((with_reducible refine gate_dst (N := 4) rfl ?_); refine box_event ?hg (N := 4) ?hd (cs := #[.string (⟨#[]⟩ : ByteArray), .int .i64 0, .int .i64 0]) (t := 79) ?hr ?_; (case hd => rfl); (case hg => rfl); (case hr => first | (go_simp; done) | (go_simp; rfl)); intro gb345 hg w19 hbox hb; have n0_ := Aside0.mk (below_step (by repeat (first | (with_reducible first | exact HB.out | apply below_alloc | apply pw_below_drewN | apply below_drew1) | exact HB.out)) hb); have n1_ := Aside0.mk (hbox); have n2_ := Aside0.mk ((by rw [hg]; exact (below_size (by repeat (first | (with_reducible first | exact HB.out | apply below_alloc | apply pw_below_drewN | apply below_drew1) | exact HB.out))) : w.heap.size ≤ gb345)); have n3_ := Aside0.mk ((by rw [hg]; exact (below_size (by repeat (first | (with_reducible first | exact HB.out | apply below_alloc | apply pw_below_drewN | apply below_drew1) | exact HB.out))) : w.heap.size ≤ gb345)); clear HB; have HB := n0_; have BK345 := n1_; have GW345 := n2_; have GE345 := n3_; clear n0_ n1_ n2_ n3_; clear hb hbox hg; have hcz20_0 : w19.cell? ⟨gb345, 0, none⟩ = some (.string (⟨#[]⟩ : ByteArray)) := (blk_cell BK345.out 0).trans rfl; have hcz20_1 : w19.cell? ⟨gb345, 1, none⟩ = some (.int .i64 0) := (blk_cell BK345.out 1).trans rfl; have hcz20_2 : w19.cell? ⟨gb345, 2, none⟩ = some (.int .i64 0) := (blk_cell BK345.out 2).trans rfl; have hfz20_0 := blk_frozen BK345.out 0; have hfz20_1 := blk_frozen BK345.out 1; have hfz20_2 := blk_frozen BK345.out 2) | ((with_reducible refine gate_callee (f := 78) rfl ?_); refine goesL_ (some 21) rfl rfl Try.func78 (by kernel_rfl) rfl #[.string ((rd_T79 l0 x14_1).f0)] rfl (by (try simp only [List.map_toArray, List.map_cons, List.map_nil]); first | done | rfl | (simp only [List.length_drop, List.length_take]; rfl)) ?_; (with_reducible refine (ring_series.calls ((rd_T79 l0 x14_1).f0) true _ A6.out).mono ?_); rintro e w21 ⟨rfl, hb⟩; refine ⟨_, rfl, ?_⟩; have n0_ := Aside0.mk (blk_below (g := gb345) (o := .cells #[.string ((rd_T79 l0 x14_1).f0), .int .i64 ((rd_T79 l0 x14_1).f1), .int .i64 ((rd_T79 l0 x14_1).f2)] 79 (0, 0)) (by (with_reducible repeat (first | refine blk_drewN ?_ _ | refine blk_drew ?_ | refine blk_alloc ?_ _)); refine blk_put (cs := #[.string ((rd_T79 l0 x14_1).f0), .int .i64 ((rd_T79 l0 x14_1).f1), .int .i64 0]) ?_ 2 _ rfl; (with_reducible repeat (first | refine blk_drewN ?_ _ | refine blk_drew ?_ | refine blk_alloc ?_ _)); refine blk_put (cs := #[.string ((rd_T79 l0 x14_1).f0), .int .i64 0, .int .i64 0]) ?_ 1 _ rfl; (with_reducible repeat (first | refine blk_drewN ?_ _ | refine blk_drew ?_ | refine blk_alloc ?_ _)); refine blk_put (cs := #[.string (⟨#[]⟩ : ByteArray), .int .i64 0, .int .i64 0]) ?_ 0 _ rfl; (with_reducible repeat (first | refine blk_drewN ?_ _ | refine blk_drew ?_ | refine blk_alloc ?_ _)); exact BK345.out) hb); have n1_ := Aside0.mk (below_step (by repeat (first | (with_reducible first | exact HB.out | apply below_alloc | apply pw_below_drewN | apply below_drew1 | refine below_set ?_ GE345.out) | exact HB.out)) hb); clear BK345; clear HB; have BK345 := n0_; have HB := n1_; clear n0_ n1_; (try clear hb); (try clear hb2); (try clear hk); (try clear hi); have hcz22_0 : w21.cell? ⟨gb345, 0, none⟩ = some (.string ((rd_T79 l0 x14_1).f0)) := (blk_cell BK345.out 0).trans rfl; have hcz22_1 : w21.cell? ⟨gb345, 1, none⟩ = some (.int .i64 ((rd_T79 l0 x14_1).f1)) := (blk_cell BK345.out 1).trans rfl; have hcz22_2 : w21.cell? ⟨gb345, 2, none⟩ = some (.int .i64 ((rd_T79 l0 x14_1).f2)) := (blk_cell BK345.out 2).trans rfl; have hfz22_0 := blk_frozen BK345.out 0; have hfz22_1 := blk_frozen BK345.out 1; have hfz22_2 := blk_frozen BK345.out 2))
           go_ret
           exact ⟨by first | rfl | (simp [errW_none, errW_some] <;> rfl) | (simp [*, errW_none, errW_some] <;> rfl), by repeat (first | (with_reducible first | exact HB.out | apply below_alloc | apply pw_below_drewN | apply below_drew1 | refine below_set ?_ GE345.out) | exact HB.out)⟩
          ·rw [if_neg c18] at H
           have c18b0 : decide (99999 < ((rd_T79 l0 x14_1).f2)) = false := decide_eq_false c18
           clear c18
           have H' := Aside0.mk H
           clear H
           have p344 : 0 ≤ (x14_1 : Int) := of_decide_eq_true (by first | (with_reducible assumption) | assumption)
           have q344 : x14_1 < (l0.length : Int) := of_decide_eq_true (by first | (with_reducible assumption) | assumption)
           obtain ⟨ad344, e344, hx344_0, hx344_1, hx344_2⟩ := at_T79 HR0.out x14_1 p344 q344
           cases e344
           replace hx344_0 := (HB.out.cell (World.block_lt_of_cell? w _ hx344_0)).trans hx344_0
           replace hx344_1 := (HB.out.cell (World.block_lt_of_cell? w _ hx344_1)).trans hx344_1
           replace hx344_2 := (HB.out.cell (World.block_lt_of_cell? w _ hx344_2)).trans hx344_2
           replace p344 := eq_true p344
           replace q344 := eq_true q344
           go_wp2_with (first | ((with_reducible refine gate_dst (N := 4) rfl ?_); refine box_event ?hg (N := 4) ?hd (cs := #[.string (⟨#[]⟩ : ByteArray), .int .i64 0, .int .i64 0]) (t := 79) ?hr ?_; (case hd => rfl); (case hg => rfl); (case hr => first | (go_simp; done) | (go_simp; rfl)); intro gb345 hg w23 hbox hb; have n0_ := Aside0.mk (below_step (by repeat (first | (with_reducible first | exact HB.out | apply below_alloc | apply pw_below_drewN | apply below_drew1) | exact HB.out)) hb); have n1_ := Aside0.mk (hbox); have n2_ := Aside0.mk ((by rw [hg]; exact (below_size (by repeat (first | (with_reducible first | exact HB.out | apply below_alloc | apply pw_below_drewN | apply below_drew1) | exact HB.out))) : w.heap.size ≤ gb345)); have n3_ := Aside0.mk ((by rw [hg]; exact (below_size (by repeat (first | (with_reducible first | exact HB.out | apply below_alloc | apply pw_below_drewN | apply below_drew1) | exact HB.out))) : w.heap.size ≤ gb345)); clear HB; have HB := n0_; have BK345 := n1_; have GW345 := n2_; have GE345 := n3_; clear n0_ n1_ n2_ n3_; clear hb hbox hg; have hcz24_0 : w23.cell? ⟨gb345, 0, none⟩ = some (.string (⟨#[]⟩ : ByteArray)) := (blk_cell BK345.out 0).trans rfl; have hcz24_1 : w23.cell? ⟨gb345, 1, none⟩ = some (.int .i64 0) := (blk_cell BK345.out 1).trans rfl; have hcz24_2 : w23.cell? ⟨gb345, 2, none⟩ = some (.int .i64 0) := (blk_cell BK345.out 2).trans rfl; have hfz24_0 := blk_frozen BK345.out 0; have hfz24_1 := blk_frozen BK345.out 1; have hfz24_2 := blk_frozen BK345.out 2) | ((with_reducible refine gate_callee (f := 78) rfl ?_); refine goesL_ (some 21) rfl rfl Try.func78 (by kernel_rfl) rfl #[.string ((rd_T79 l0 x14_1).f0)] rfl (by (try simp only [List.map_toArray, List.map_cons, List.map_nil]); first | done | rfl | (simp only [List.length_drop, List.length_take]; rfl)) ?_; (with_reducible refine (ring_series.calls ((rd_T79 l0 x14_1).f0) true _ A6.out).mono ?_); rintro e w25 ⟨rfl, hb⟩; refine ⟨_, rfl, ?_⟩; have n0_ := Aside0.mk (blk_below (g := gb345) (o := .cells #[.string ((rd_T79 l0 x14_1).f0), .int .i64 ((rd_T79 l0 x14_1).f1), .int .i64 ((rd_T79 l0 x14_1).f2)] 79 (0, 0)) (by (with_reducible repeat (first | refine blk_drewN ?_ _ | refine blk_drew ?_ | refine blk_alloc ?_ _)); refine blk_put (cs := #[.string ((rd_T79 l0 x14_1).f0), .int .i64 ((rd_T79 l0 x14_1).f1), .int .i64 0]) ?_ 2 _ rfl; (with_reducible repeat (first | refine blk_drewN ?_ _ | refine blk_drew ?_ | refine blk_alloc ?_ _)); refine blk_put (cs := #[.string ((rd_T79 l0 x14_1).f0), .int .i64 0, .int .i64 0]) ?_ 1 _ rfl; (with_reducible repeat (first | refine blk_drewN ?_ _ | refine blk_drew ?_ | refine blk_alloc ?_ _)); refine blk_put (cs := #[.string (⟨#[]⟩ : ByteArray), .int .i64 0, .int .i64 0]) ?_ 0 _ rfl; (with_reducible repeat (first | refine blk_drewN ?_ _ | refine blk_drew ?_ | refine blk_alloc ?_ _)); exact BK345.out) hb); have n1_ := Aside0.mk (below_step (by repeat (first | (with_reducible first | exact HB.out | apply below_alloc | apply pw_below_drewN | apply below_drew1 | refine below_set ?_ GE345.out) | exact HB.out)) hb); clear BK345; clear HB; have BK345 := n0_; have HB := n1_; clear n0_ n1_; (try clear hb); (try clear hb2); (try clear hk); (try clear hi); have hcz26_0 : w25.cell? ⟨gb345, 0, none⟩ = some (.string ((rd_T79 l0 x14_1).f0)) := (blk_cell BK345.out 0).trans rfl; have hcz26_1 : w25.cell? ⟨gb345, 1, none⟩ = some (.int .i64 ((rd_T79 l0 x14_1).f1)) := (blk_cell BK345.out 1).trans rfl; have hcz26_2 : w25.cell? ⟨gb345, 2, none⟩ = some (.int .i64 ((rd_T79 l0 x14_1).f2)) := (blk_cell BK345.out 2).trans rfl; have hfz26_0 := blk_frozen BK345.out 0; have hfz26_1 := blk_frozen BK345.out 1; have hfz26_2 := blk_frozen BK345.out 2))
           go_roundg k1
           case measure => have := HK1.out; omega
           case rel => exact ⟨(wrap64 (x14_1 + 1)), (by first | rfl | (simp; done) | (simp [*]; done)), H', ⟨by have := HK1.out; omega⟩, ⟨by repeat (first | (with_reducible first | exact HB.out | apply below_alloc | apply pw_below_drewN | apply below_drew1 | refine below_set ?_ GE345.out) | exact HB.out)⟩⟩
       ·replace c7 := Bool.eq_false_iff.mpr c7
        subst c7
        have H1 : (some 2) = some r := by rw [if_neg (show ¬ (false = true) by decide)] at H; exact H
        clear H
        have H := H1
        clear H1
        obtain rfl := Option.some.inj H
        have p344 : 0 ≤ (x14_1 : Int) := of_decide_eq_true (by first | (with_reducible assumption) | assumption)
        have q344 : x14_1 < (l0.length : Int) := of_decide_eq_true (by first | (with_reducible assumption) | assumption)
        obtain ⟨ad344, e344, hx344_0, hx344_1, hx344_2⟩ := at_T79 HR0.out x14_1 p344 q344
        cases e344
        replace hx344_0 := (HB.out.cell (World.block_lt_of_cell? w _ hx344_0)).trans hx344_0
        replace hx344_1 := (HB.out.cell (World.block_lt_of_cell? w _ hx344_1)).trans hx344_1
        replace hx344_2 := (HB.out.cell (World.block_lt_of_cell? w _ hx344_2)).trans hx344_2
        replace p344 := eq_true p344
        replace q344 := eq_true q344
        go_wp2_with (first | ((with_reducible refine gate_dst (N := 4) rfl ?_); refine box_event ?hg (N := 4) ?hd (cs := #[.string (⟨#[]⟩ : ByteArray), .int .i64 0, .int .i64 0]) (t := 79) ?hr ?_; (case hd => rfl); (case hg => rfl); (case hr => first | (go_simp; done) | (go_simp; rfl)); intro gb345 hg w27 hbox hb; have n0_ := Aside0.mk (below_step (by repeat (first | (with_reducible first | exact HB.out | apply below_alloc | apply pw_below_drewN | apply below_drew1) | exact HB.out)) hb); have n1_ := Aside0.mk (hbox); have n2_ := Aside0.mk ((by rw [hg]; exact (below_size (by repeat (first | (with_reducible first | exact HB.out | apply below_alloc | apply pw_below_drewN | apply below_drew1) | exact HB.out))) : w.heap.size ≤ gb345)); have n3_ := Aside0.mk ((by rw [hg]; exact (below_size (by repeat (first | (with_reducible first | exact HB.out | apply below_alloc | apply pw_below_drewN | apply below_drew1) | exact HB.out))) : w.heap.size ≤ gb345)); clear HB; have HB := n0_; have BK345 := n1_; have GW345 := n2_; have GE345 := n3_; clear n0_ n1_ n2_ n3_; clear hb hbox hg; have hcz28_0 : w27.cell? ⟨gb345, 0, none⟩ = some (.string (⟨#[]⟩ : ByteArray)) := (blk_cell BK345.out 0).trans rfl; have hcz28_1 : w27.cell? ⟨gb345, 1, none⟩ = some (.int .i64 0) := (blk_cell BK345.out 1).trans rfl; have hcz28_2 : w27.cell? ⟨gb345, 2, none⟩ = some (.int .i64 0) := (blk_cell BK345.out 2).trans rfl; have hfz28_0 := blk_frozen BK345.out 0; have hfz28_1 := blk_frozen BK345.out 1; have hfz28_2 := blk_frozen BK345.out 2) | ((with_reducible refine gate_callee (f := 78) rfl ?_); refine goesL_ (some 21) rfl rfl Try.func78 (by kernel_rfl) rfl #[.string ((rd_T79 l0 x14_1).f0)] rfl (by (try simp only [List.map_toArray, List.map_cons, List.map_nil]); first | done | rfl | (simp only [List.length_drop, List.length_take]; rfl)) ?_; (with_reducible refine (ring_series.calls ((rd_T79 l0 x14_1).f0) false _ A6.out).mono ?_); rintro e w29 ⟨rfl, hb⟩; refine ⟨_, rfl, ?_⟩; have n0_ := Aside0.mk (blk_below (g := gb345) (o := .cells #[.string ((rd_T79 l0 x14_1).f0), .int .i64 ((rd_T79 l0 x14_1).f1), .int .i64 ((rd_T79 l0 x14_1).f2)] 79 (0, 0)) (by (with_reducible repeat (first | refine blk_drewN ?_ _ | refine blk_drew ?_ | refine blk_alloc ?_ _)); refine blk_put (cs := #[.string ((rd_T79 l0 x14_1).f0), .int .i64 ((rd_T79 l0 x14_1).f1), .int .i64 0]) ?_ 2 _ rfl; (with_reducible repeat (first | refine blk_drewN ?_ _ | refine blk_drew ?_ | refine blk_alloc ?_ _)); refine blk_put (cs := #[.string ((rd_T79 l0 x14_1).f0), .int .i64 0, .int .i64 0]) ?_ 1 _ rfl; (with_reducible repeat (first | refine blk_drewN ?_ _ | refine blk_drew ?_ | refine blk_alloc ?_ _)); refine blk_put (cs := #[.string (⟨#[]⟩ : ByteArray), .int .i64 0, .int .i64 0]) ?_ 0 _ rfl; (with_reducible repeat (first | refine blk_drewN ?_ _ | refine blk_drew ?_ | refine blk_alloc ?_ _)); exact BK345.out) hb); have n1_ := Aside0.mk (below_step (by repeat (first | (with_reducible first | exact HB.out | apply below_alloc | apply pw_below_drewN | apply below_drew1 | refine below_set ?_ GE345.out) | exact HB.out)) hb); clear BK345; clear HB; have BK345 := n0_; have HB := n1_; clear n0_ n1_; (try clear hb); (try clear hb2); (try clear hk); (try clear hi)))
        go_ret
        exact ⟨by first | rfl | (simp [errW_none, errW_some] <;> rfl) | (simp [*, errW_none, errW_some] <;> rfl), by repeat (first | (with_reducible first | exact HB.out | apply below_alloc | apply pw_below_drewN | apply below_drew1 | refine below_set ?_ GE345.out) | exact HB.out)⟩
      ·rw [if_neg c5] at H
       exact absurd H (by simp)
     ·rw [if_neg c4] at H
      exact absurd H (by simp)
    ·rw [if_neg c3] at H
     have c3b0 : decide (x14_1 < (l0.length : Int)) = false := decide_eq_false c3
     clear c3
     have H' := Aside0.mk H
     clear H
     go_wp2
     go_loopg [42] k1 (fun kq v42 w' => ∃ (x42_2 : Int), v42 = .int .i64 x42_2 ∧ Aside0 (ring_ValidateBlocks.l1 kq l0 l0 (l0.length : Int) x42_2 = some r) ∧ Aside0 (kq ≤ k1) ∧ Aside0 (Below w.heap.size w w'))
     case atStart => exact ⟨(0), (by first | rfl | (simp; done) | (simp [*]; done)), H', ⟨Nat.le_refl _⟩, ⟨by repeat (first | (with_reducible first | exact HB.out | apply below_alloc | apply pw_below_drewN | apply below_drew1) | exact HB.out)⟩⟩
     case round =>
      clear H'
      try clear c1
      try clear c2
      try clear c2b0
      try clear c2b1
      try clear p2
      try clear c3
      try clear c3b0
      try clear p3
      try clear q3
      try clear hx3
      try clear c4
      try clear c4b0
      try clear c5
      try clear c5b0
      try clear p6
      try clear c7
      try clear c8
      try clear c8b0
      try clear c13
      try clear c13b0
      try clear c18
      try clear c18b0
      try clear hcz10_0
      try clear hcz10_1
      try clear hcz10_2
      try clear hcz12_0
      try clear hcz12_1
      try clear hcz12_2
      try clear hcz15_0
      try clear hcz15_1
      try clear hcz15_2
      try clear hcz17_0
      try clear hcz17_1
      try clear hcz17_2
      try clear hcz20_0
      try clear hcz20_1
      try clear hcz20_2
      try clear hcz22_0
      try clear hcz22_1
      try clear hcz22_2
      try clear hcz24_0
      try clear hcz24_1
      try clear hcz24_2
      try clear hcz26_0
      try clear hcz26_1
      try clear hcz26_2
      try clear hcz28_0
      try clear hcz28_1
      try clear hcz28_2
      try clear hfz10_0
      try clear hfz10_1
      try clear hfz10_2
      try clear hfz12_0
      try clear hfz12_1
      try clear hfz12_2
      try clear hfz15_0
      try clear hfz15_1
      try clear hfz15_2
      try clear hfz17_0
      try clear hfz17_1
      try clear hfz17_2
      try clear hfz20_0
      try clear hfz20_1
      try clear hfz20_2
      try clear hfz22_0
      try clear hfz22_1
      try clear hfz22_2
      try clear hfz24_0
      try clear hfz24_1
      try clear hfz24_2
      try clear hfz26_0
      try clear hfz26_1
      try clear hfz26_2
      try clear hfz28_0
      try clear hfz28_1
      try clear hfz28_2
      try clear hx344_0
      try clear hx344_1
      try clear hx344_2
      try clear p2
      try clear p344
      try clear q344
      obtain ⟨x42_2, rfl, HA, HK2, HB⟩ := hrel
      cases gk with
      | zero => exact absurd HA.out (by simp [ring_ValidateBlocks.l1])
      | succ k2 =>
       have H := HA.out
       clear HA
       simp only [ring_ValidateBlocks.l1] at H
       by_cases c30 : x42_2 < (l0.length : Int)
       ·rw [if_pos c30] at H
        have c30b0 : decide (x42_2 < (l0.length : Int)) = true := decide_eq_true c30
        clear c30
        by_cases c31 : 0 ≤ x42_2
        ·rw [if_pos c31] at H
         have c31b0 : decide (0 ≤ x42_2) = true := decide_eq_true c31
         clear c31
         by_cases c32 : x42_2 < (l0.length : Int)
         ·rw [if_pos c32] at H
          have c32b0 : decide (x42_2 < (l0.length : Int)) = true := decide_eq_true c32
          clear c32
          have c33b0 := eq_true (of_decide_eq_true (by first | (with_reducible assumption) | assumption) : 0 ≤ x42_2)
          by_cases c34 : x42_2 ≤ (l0.length : Int)
          ·rw [if_pos c34] at H
           have c34b0 := eq_true c34
           have c34b1 : decide (x42_2 ≤ (l0.length : Int)) = true := decide_eq_true c34
           clear c34
           obtain ⟨y349, hy349⟩ : ∃ y_ : List (S79), y_ = (l0.take (x42_2 : Int).toNat) := ⟨_, rfl⟩
           replace H : (ring_ValidateBlocks.l2 k2 l0 l0 (l0.length : Int) x42_2 y349 (y349.length : Int) 0 ((rd_T79 l0 x42_2).f0) ((rd_T79 l0 x42_2).f1) ((rd_T79 l0 x42_2).f2)) = some r := by first | (rw [hy349]; with_reducible exact H) | (have H2_ := (Option.bind_some _ _).symm.trans H; rw [hy349]; with_reducible exact H2_) | (have H2_ := (Option.bind_some _ _).symm.trans H; with_reducible exact H2_) | with_reducible exact H | (rw [hy349]; exact H) | exact H
           have Ny349 := Aside0.mk hy349
           clear hy349
           have H' := Aside0.mk H
           clear H
           have p347 : 0 ≤ (x42_2 : Int) := of_decide_eq_true (by first | (with_reducible assumption) | assumption)
           have q347 : x42_2 < (l0.length : Int) := of_decide_eq_true (by first | (with_reducible assumption) | assumption)
           obtain ⟨ad347, e347, hx347_0, hx347_1, hx347_2⟩ := at_T79 HR0.out x42_2 p347 q347
           cases e347
           replace hx347_0 := (HB.out.cell (World.block_lt_of_cell? w _ hx347_0)).trans hx347_0
           replace hx347_1 := (HB.out.cell (World.block_lt_of_cell? w _ hx347_1)).trans hx347_1
           replace hx347_2 := (HB.out.cell (World.block_lt_of_cell? w _ hx347_2)).trans hx347_2
           replace p347 := eq_true p347
           replace q347 := eq_true q347
           go_wp2_with (first | ((with_reducible refine gate_dst (N := 6) rfl ?_); refine box_event ?hg (N := 6) ?hd (cs := #[.string (⟨#[]⟩ : ByteArray), .int .i64 0, .int .i64 0]) (t := 79) ?hr ?_; (case hd => rfl); (case hg => rfl); (case hr => first | (go_simp; done) | (go_simp; rfl)); intro gb348 hg w35 hbox hb; have n0_ := Aside0.mk (below_step (by repeat (first | (with_reducible first | exact HB.out | apply below_alloc | apply pw_below_drewN | apply below_drew1) | exact HB.out)) hb); have n1_ := Aside0.mk (hbox); have n2_ := Aside0.mk ((by rw [hg]; exact (below_size (by repeat (first | (with_reducible first | exact HB.out | apply below_alloc | apply pw_below_drewN | apply below_drew1) | exact HB.out))) : w.heap.size ≤ gb348)); have n3_ := Aside0.mk ((by rw [hg]; exact (below_size (by repeat (first | (with_reducible first | exact HB.out | apply below_alloc | apply pw_below_drewN | apply below_drew1) | exact HB.out))) : w.heap.size ≤ gb348)); clear HB; have HB := n0_; have BK348 := n1_; have GW348 := n2_; have GE348 := n3_; clear n0_ n1_ n2_ n3_; clear hb hbox hg; have hcz36_0 : w35.cell? ⟨gb348, 0, none⟩ = some (.string (⟨#[]⟩ : ByteArray)) := (blk_cell BK348.out 0).trans rfl; have hcz36_1 : w35.cell? ⟨gb348, 1, none⟩ = some (.int .i64 0) := (blk_cell BK348.out 1).trans rfl; have hcz36_2 : w35.cell? ⟨gb348, 2, none⟩ = some (.int .i64 0) := (blk_cell BK348.out 2).trans rfl; have hfz36_0 := blk_frozen BK348.out 0; have hfz36_1 := blk_frozen BK348.out 1; have hfz36_2 := blk_frozen BK348.out 2) | ((with_reducible refine gate_store (t := 79) (p := 6) rfl ?_); refine store_event (t := 79) (p := 6) (v := ?vo_w37) (w1 := (((w35.setCell ⟨gb348, 0, none⟩ (.string ((rd_T79 l0 x42_2).f0))).setCell ⟨gb348, 1, none⟩ (.int .i64 ((rd_T79 l0 x42_2).f1))).setCell ⟨gb348, 2, none⟩ (.int .i64 ((rd_T79 l0 x42_2).f2)))) ?hg ?ho ?hn ?hr ?_; (case ho => rfl); (case hg => rfl); (case hn => rfl); (case hr => first | (go_simp; done) | (go_simp; rfl)); intro w37 hw; have n0_ : Aside0 (w37.heap[gb348]? = some (.cells #[.string ((rd_T79 l0 x42_2).f0), .int .i64 ((rd_T79 l0 x42_2).f1), .int .i64 ((rd_T79 l0 x42_2).f2)] 79 (0, 0))) := ⟨(by rw [hw]; exact (by (with_reducible repeat (first | refine blk_drewN ?_ _ | refine blk_drew ?_ | refine blk_alloc ?_ _)); refine blk_put (cs := #[.string ((rd_T79 l0 x42_2).f0), .int .i64 ((rd_T79 l0 x42_2).f1), .int .i64 0]) ?_ 2 _ rfl; (with_reducible repeat (first | refine blk_drewN ?_ _ | refine blk_drew ?_ | refine blk_alloc ?_ _)); refine blk_put (cs := #[.string ((rd_T79 l0 x42_2).f0), .int .i64 0, .int .i64 0]) ?_ 1 _ rfl; (with_reducible repeat (first | refine blk_drewN ?_ _ | refine blk_drew ?_ | refine blk_alloc ?_ _)); refine blk_put (cs := #[.string (⟨#[]⟩ : ByteArray), .int .i64 0, .int .i64 0]) ?_ 0 _ rfl; (with_reducible repeat (first | refine blk_drewN ?_ _ | refine blk_drew ?_ | refine blk_alloc ?_ _)); exact BK348.out))⟩; have n1_ : Aside0 (Below w.heap.size w w37) := ⟨(by rw [hw]; exact (by repeat (first | (with_reducible first | exact HB.out | apply below_alloc | apply pw_below_drewN | apply below_drew1 | refine below_set ?_ GE348.out) | exact HB.out)))⟩; clear hw; clear BK348; clear HB; have BK348 := n0_; have HB := n1_; clear n0_ n1_; have q38 : (x42_2 : Int) ≤ ((l0.length : Int) : Int) := of_decide_eq_true (by first | (with_reducible assumption) | assumption); obtain ⟨i038, hi038, _, hsz38, _⟩ := info_parts info79; have hroom38 : l0.length ≤ c0 := HC0.out; have hC38 : Kd.C k79 _ (some ad347) l0.length l0 := HR0.out; have hcut38 := cut_to (P := Try.prog) 48 79 .i64 Try.underlying48 hi038 (some ad347) l0.length c0 x42_2 (of_decide_eq_true (by first | (with_reducible assumption) | assumption)) q38 hroom38; have hr38 := Kd.C_take (m := (x42_2 : Int).toNat) hC38 (by omega); have hy38 : y349.length = (x42_2 : Int).toNat := (by rw [Ny349.out, List.length_take]; omega); rw [← Ny349.out] at hr38; rw [← hy38] at hcut38; have HR352 := Aside0.mk hr38; have HC352 := Aside0.mk (show y349.length ≤ c0 from by omega); clear hr38 hC38 hroom38 hi038 hsz38; have KY38 := Aside0.mk hy38; clear hy38; replace q38 := eq_true q38))
           go_loopg [51] k2 (fun kq v51 w' => ∃ (x51_3 : Int), v51 = .int .i64 x51_3 ∧ Aside0 (ring_ValidateBlocks.l2 kq l0 l0 (l0.length : Int) x42_2 y349 (y349.length : Int) x51_3 ((rd_T79 l0 x42_2).f0) ((rd_T79 l0 x42_2).f1) ((rd_T79 l0 x42_2).f2) = some r) ∧ Aside0 (kq ≤ k2) ∧ Aside0 (w'.heap[gb348]? = some (.cells #[.string ((rd_T79 l0 x42_2).f0), .int .i64 ((rd_T79 l0 x42_2).f1), .int .i64 ((rd_T79 l0 x42_2).f2)] 79 (0, 0))) ∧ Aside0 (Below w.heap.size w w'))
           case atStart => exact ⟨(0), (by first | rfl | (simp; done) | (simp [*]; done)), H', ⟨Nat.le_refl _⟩, ⟨by (with_reducible repeat (first | refine blk_drewN ?_ _ | refine blk_drew ?_ | refine blk_alloc ?_ _)); exact BK348.out⟩, ⟨by repeat (first | (with_reducible first | exact HB.out | apply below_alloc | apply pw_below_drewN | apply below_drew1 | refine below_set ?_ GE348.out) | exact HB.out)⟩⟩
           case round =>
            clear H'
            try clear c1
            try clear c2
            try clear c2b0
            try clear c2b1
            try clear p2
            try clear c3
            try clear c3b0
            try clear p3
            try clear q3
            try clear hx3
            try clear c4
            try clear c4b0
            try clear c5
            try clear c5b0
            try clear p6
            try clear c7
            try clear c8
            try clear c8b0
            try clear c13
            try clear c13b0
            try clear c18
            try clear c18b0
            try clear c30
            try clear c30b0
            try clear c31
            try clear c31b0
            try clear c32
            try clear c32b0
            try clear c33
            try clear c33b0
            try clear c34
            try clear c34b0
            try clear c34b1
            try clear p34
            try clear q34
            try clear hx34
            try clear q38
            try clear hcz10_0
            try clear hcz10_1
            try clear hcz10_2
            try clear hcz12_0
            try clear hcz12_1
            try clear hcz12_2
            try clear hcz15_0
            try clear hcz15_1
            try clear hcz15_2
            try clear hcz17_0
            try clear hcz17_1
            try clear hcz17_2
            try clear hcz20_0
            try clear hcz20_1
            try clear hcz20_2
            try clear hcz22_0
            try clear hcz22_1
            try clear hcz22_2
            try clear hcz24_0
            try clear hcz24_1
            try clear hcz24_2
            try clear hcz26_0
            try clear hcz26_1
            try clear hcz26_2
            try clear hcz28_0
            try clear hcz28_1
            try clear hcz28_2
            try clear hcz36_0
            try clear hcz36_1
            try clear hcz36_2
            try clear hfz10_0
            try clear hfz10_1
            try clear hfz10_2
            try clear hfz12_0
            try clear hfz12_1
            try clear hfz12_2
            try clear hfz15_0
            try clear hfz15_1
            try clear hfz15_2
            try clear hfz17_0
            try clear hfz17_1
            try clear hfz17_2
            try clear hfz20_0
            try clear hfz20_1
            try clear hfz20_2
            try clear hfz22_0
            try clear hfz22_1
            try clear hfz22_2
            try clear hfz24_0
            try clear hfz24_1
            try clear hfz24_2
            try clear hfz26_0
            try clear hfz26_1
            try clear hfz26_2
            try clear hfz28_0
            try clear hfz28_1
            try clear hfz28_2
            try clear hfz36_0
            try clear hfz36_1
            try clear hfz36_2
            try clear hx344_0
            try clear hx344_1
            try clear hx344_2
            try clear hx347_0
            try clear hx347_1
            try clear hx347_2
            try clear p2
            try clear p3
            try clear p344
            try clear p347
            try clear p6
            try clear q3
            try clear q344
            try clear q347
            try clear q38
            obtain ⟨x51_3, rfl, HA, HK3, BK348, HB⟩ := hrel
            cases gk with
            | zero => exact absurd HA.out (by simp [ring_ValidateBlocks.l2])
            | succ k3 =>
             have H := HA.out
             clear HA
             simp only [ring_ValidateBlocks.l2] at H
             by_cases c39 : x51_3 < (y349.length : Int)
             ·rw [if_pos c39] at H
              have c39b0 : decide (x51_3 < (y349.length : Int)) = true := decide_eq_true c39
              clear c39
              by_cases c40 : 0 ≤ x51_3
              ·rw [if_pos c40] at H
               have c40b0 : decide (0 ≤ x51_3) = true := decide_eq_true c40
               clear c40
               by_cases c41 : x51_3 < (y349.length : Int)
               ·rw [if_pos c41] at H
                have c41b0 : decide (x51_3 < (y349.length : Int)) = true := decide_eq_true c41
                clear c41
                by_cases c42 : ((rd_T79 l0 x42_2).f0).toList = ((rd_T79 y349 x51_3).f0).toList
                ·rw [if_pos c42] at H
                 have c42b0 : (((rd_T79 l0 x42_2).f0).toList == ((rd_T79 y349 x51_3).f0).toList) = true := beq_iff_eq.mpr c42
                 have c42b1 : (((rd_T79 l0 x42_2).f0).toList != ((rd_T79 y349 x51_3).f0).toList) = false := bne_eq_false_iff_eq.mpr c42
                 clear c42
                 by_cases c43 : ((rd_T79 l0 x42_2).f1) ≤ ((rd_T79 y349 x51_3).f2)
                 ·rw [if_pos c43] at H
                  have c43b0 : decide (((rd_T79 l0 x42_2).f1) ≤ ((rd_T79 y349 x51_3).f2)) = true := decide_eq_true c43
                  clear c43
                  by_cases c44 : ((rd_T79 y349 x51_3).f1) ≤ ((rd_T79 l0 x42_2).f2)
                  ·rw [if_pos c44] at H
                   have c44b0 : decide (((rd_T79 y349 x51_3).f1) ≤ ((rd_T79 l0 x42_2).f2)) = true := decide_eq_true c44
                   clear c44
                   obtain rfl := Option.some.inj H
                   have p353 : 0 ≤ (x51_3 : Int) := of_decide_eq_true (by first | (with_reducible assumption) | assumption)
                   have q353 : x51_3 < (y349.length : Int) := of_decide_eq_true (by first | (with_reducible assumption) | assumption)
                   obtain ⟨ad353, e353, hx353_0, hx353_1, hx353_2⟩ := at_T79 HR352.out x51_3 p353 q353
                   obtain rfl : ad347 = ad353 := (by injection e353)
                   replace hx353_0 := (HB.out.cell (World.block_lt_of_cell? w _ hx353_0)).trans hx353_0
                   replace hx353_1 := (HB.out.cell (World.block_lt_of_cell? w _ hx353_1)).trans hx353_1
                   replace hx353_2 := (HB.out.cell (World.block_lt_of_cell? w _ hx353_2)).trans hx353_2
                   replace p353 := eq_true p353
                   replace q353 := eq_true q353
                   go_wp2_with (first | ((with_reducible refine gate_dst (N := 8) rfl ?_); refine box_event ?hg (N := 8) ?hd (cs := #[.string (⟨#[]⟩ : ByteArray), .int .i64 0, .int .i64 0]) (t := 79) ?hr ?_; (case hd => rfl); (case hg => rfl); (case hr => first | (go_simp; done) | (go_simp; rfl)); intro gb354 hg w45 hbox hb; have n0_ := Aside0.mk (blk_below (g := gb348) (o := .cells #[.string ((rd_T79 l0 x42_2).f0), .int .i64 ((rd_T79 l0 x42_2).f1), .int .i64 ((rd_T79 l0 x42_2).f2)] 79 (0, 0)) (by (with_reducible repeat (first | refine blk_drewN ?_ _ | refine blk_drew ?_ | refine blk_alloc ?_ _)); exact BK348.out) hb); have n1_ := Aside0.mk (below_step (by repeat (first | (with_reducible first | exact HB.out | apply below_alloc | apply pw_below_drewN | apply below_drew1 | refine below_set ?_ GE348.out) | exact HB.out)) hb); have n2_ := Aside0.mk (hbox); have n3_ := Aside0.mk ((by rw [hg]; exact (below_size (by repeat (first | (with_reducible first | exact HB.out | apply below_alloc | apply pw_below_drewN | apply below_drew1 | refine below_set ?_ GE348.out) | exact HB.out))) : w.heap.size ≤ gb354)); have n4_ := Aside0.mk ((by rw [hg]; exact (below_size (by repeat (first | (with_reducible first | exact HB.out | apply below_alloc | apply pw_below_drewN | apply below_drew1 | refine below_set ?_ GE348.out) | exact HB.out))) : w.heap.size ≤ gb354)); have n5_ := Aside0.mk ((by rw [hg]; exact Nat.ne_of_lt (blk_lt (g := gb348) (o := .cells #[.string ((rd_T79 l0 x42_2).f0), .int .i64 ((rd_T79 l0 x42_2).f1), .int .i64 ((rd_T79 l0 x42_2).f2)] 79 (0, 0)) (by (with_reducible repeat (first | refine blk_drewN ?_ _ | refine blk_drew ?_ | refine blk_alloc ?_ _)); exact BK348.out)) : gb348 ≠ gb354)); have n6_ := Aside0.mk ((by rw [hg]; exact Nat.ne_of_gt (blk_lt (g := gb348) (o := .cells #[.string ((rd_T79 l0 x42_2).f0), .int .i64 ((rd_T79 l0 x42_2).f1), .int .i64 ((rd_T79 l0 x42_2).f2)] 79 (0, 0)) (by (with_reducible repeat (first | refine blk_drewN ?_ _ | refine blk_drew ?_ | refine blk_alloc ?_ _)); exact BK348.out)) : gb354 ≠ gb348)); clear BK348; clear HB; have BK348 := n0_; have HB := n1_; have BK354 := n2_; have GW354 := n3_; have GE354 := n4_; have NB348_354 := n5_; have NB354_348 := n6_; clear n0_ n1_ n2_ n3_ n4_ n5_ n6_; clear hb hbox hg; have hnb46 := NB354_348.out; have hnc46 := NB348_354.out; have hcz47_0 : w45.cell? ⟨gb354, 0, none⟩ = some (.string (⟨#[]⟩ : ByteArray)) := (blk_cell BK354.out 0).trans rfl; have hcz47_1 : w45.cell? ⟨gb354, 1, none⟩ = some (.int .i64 0) := (blk_cell BK354.out 1).trans rfl; have hcz47_2 : w45.cell? ⟨gb354, 2, none⟩ = some (.int .i64 0) := (blk_cell BK354.out 2).trans rfl; have hfz47_0 := blk_frozen BK354.out 0; have hfz47_1 := blk_frozen BK354.out 1; have hfz47_2 := blk_frozen BK354.out 2; have hcz48_0 : w45.cell? ⟨gb348, 0, none⟩ = some (.string ((rd_T79 l0 x42_2).f0)) := (blk_cell BK348.out 0).trans rfl; have hcz48_1 : w45.cell? ⟨gb348, 1, none⟩ = some (.int .i64 ((rd_T79 l0 x42_2).f1)) := (blk_cell BK348.out 1).trans rfl; have hcz48_2 : w45.cell? ⟨gb348, 2, none⟩ = some (.int .i64 ((rd_T79 l0 x42_2).f2)) := (blk_cell BK348.out 2).trans rfl; have hfz48_0 := blk_frozen BK348.out 0; have hfz48_1 := blk_frozen BK348.out 1; have hfz48_2 := blk_frozen BK348.out 2))
                   go_ret
                   exact ⟨by first | rfl | (simp [errW_none, errW_some] <;> rfl) | (simp [*, errW_none, errW_some] <;> rfl), by repeat (first | (with_reducible first | exact HB.out | apply below_alloc | apply pw_below_drewN | apply below_drew1 | refine below_set ?_ GE348.out | refine below_set ?_ GE354.out) | exact HB.out)⟩
                  ·rw [if_neg c44] at H
                   have c44b0 : decide (((rd_T79 y349 x51_3).f1) ≤ ((rd_T79 l0 x42_2).f2)) = false := decide_eq_false c44
                   clear c44
                   have H' := Aside0.mk H
                   clear H
                   have p353 : 0 ≤ (x51_3 : Int) := of_decide_eq_true (by first | (with_reducible assumption) | assumption)
                   have q353 : x51_3 < (y349.length : Int) := of_decide_eq_true (by first | (with_reducible assumption) | assumption)
                   obtain ⟨ad353, e353, hx353_0, hx353_1, hx353_2⟩ := at_T79 HR352.out x51_3 p353 q353
                   obtain rfl : ad347 = ad353 := (by injection e353)
                   replace hx353_0 := (HB.out.cell (World.block_lt_of_cell? w _ hx353_0)).trans hx353_0
                   replace hx353_1 := (HB.out.cell (World.block_lt_of_cell? w _ hx353_1)).trans hx353_1
                   replace hx353_2 := (HB.out.cell (World.block_lt_of_cell? w _ hx353_2)).trans hx353_2
                   replace p353 := eq_true p353
                   replace q353 := eq_true q353
                   go_wp2_with (first | ((with_reducible refine gate_dst (N := 8) rfl ?_); refine box_event ?hg (N := 8) ?hd (cs := #[.string (⟨#[]⟩ : ByteArray), .int .i64 0, .int .i64 0]) (t := 79) ?hr ?_; (case hd => rfl); (case hg => rfl); (case hr => first | (go_simp; done) | (go_simp; rfl)); intro gb354 hg w49 hbox hb; have n0_ := Aside0.mk (blk_below (g := gb348) (o := .cells #[.string ((rd_T79 l0 x42_2).f0), .int .i64 ((rd_T79 l0 x42_2).f1), .int .i64 ((rd_T79 l0 x42_2).f2)] 79 (0, 0)) (by (with_reducible repeat (first | refine blk_drewN ?_ _ | refine blk_drew ?_ | refine blk_alloc ?_ _)); exact BK348.out) hb); have n1_ := Aside0.mk (below_step (by repeat (first | (with_reducible first | exact HB.out | apply below_alloc | apply pw_below_drewN | apply below_drew1 | refine below_set ?_ GE348.out) | exact HB.out)) hb); have n2_ := Aside0.mk (hbox); have n3_ := Aside0.mk ((by rw [hg]; exact (below_size (by repeat (first | (with_reducible first | exact HB.out | apply below_alloc | apply pw_below_drewN | apply below_drew1 | refine below_set ?_ GE348.out) | exact HB.out))) : w.heap.size ≤ gb354)); have n4_ := Aside0.mk ((by rw [hg]; exact (below_size (by repeat (first | (with_reducible first | exact HB.out | apply below_alloc | apply pw_below_drewN | apply below_drew1 | refine below_set ?_ GE348.out) | exact HB.out))) : w.heap.size ≤ gb354)); have n5_ := Aside0.mk ((by rw [hg]; exact Nat.ne_of_lt (blk_lt (g := gb348) (o := .cells #[.string ((rd_T79 l0 x42_2).f0), .int .i64 ((rd_T79 l0 x42_2).f1), .int .i64 ((rd_T79 l0 x42_2).f2)] 79 (0, 0)) (by (with_reducible repeat (first | refine blk_drewN ?_ _ | refine blk_drew ?_ | refine blk_alloc ?_ _)); exact BK348.out)) : gb348 ≠ gb354)); have n6_ := Aside0.mk ((by rw [hg]; exact Nat.ne_of_gt (blk_lt (g := gb348) (o := .cells #[.string ((rd_T79 l0 x42_2).f0), .int .i64 ((rd_T79 l0 x42_2).f1), .int .i64 ((rd_T79 l0 x42_2).f2)] 79 (0, 0)) (by (with_reducible repeat (first | refine blk_drewN ?_ _ | refine blk_drew ?_ | refine blk_alloc ?_ _)); exact BK348.out)) : gb354 ≠ gb348)); clear BK348; clear HB; have BK348 := n0_; have HB := n1_; have BK354 := n2_; have GW354 := n3_; have GE354 := n4_; have NB348_354 := n5_; have NB354_348 := n6_; clear n0_ n1_ n2_ n3_ n4_ n5_ n6_; clear hb hbox hg; have hnb50 := NB354_348.out; have hnc50 := NB348_354.out; have hcz51_0 : w49.cell? ⟨gb354, 0, none⟩ = some (.string (⟨#[]⟩ : ByteArray)) := (blk_cell BK354.out 0).trans rfl; have hcz51_1 : w49.cell? ⟨gb354, 1, none⟩ = some (.int .i64 0) := (blk_cell BK354.out 1).trans rfl; have hcz51_2 : w49.cell? ⟨gb354, 2, none⟩ = some (.int .i64 0) := (blk_cell BK354.out 2).trans rfl; have hfz51_0 := blk_frozen BK354.out 0; have hfz51_1 := blk_frozen BK354.out 1; have hfz51_2 := blk_frozen BK354.out 2; have hcz52_0 : w49.cell? ⟨gb348, 0, none⟩ = some (.string ((rd_T79 l0 x42_2).f0)) := (blk_cell BK348.out 0).trans rfl; have hcz52_1 : w49.cell? ⟨gb348, 1, none⟩ = some (.int .i64 ((rd_T79 l0 x42_2).f1)) := (blk_cell BK348.out 1).trans rfl; have hcz52_2 : w49.cell? ⟨gb348, 2, none⟩ = some (.int .i64 ((rd_T79 l0 x42_2).f2)) := (blk_cell BK348.out 2).trans rfl; have hfz52_0 := blk_frozen BK348.out 0; have hfz52_1 := blk_frozen BK348.out 1; have hfz52_2 := blk_frozen BK348.out 2))
                   go_roundg k3
                   case measure => have := HK1.out; have := HK2.out; have := HK3.out; omega
                   case rel => exact ⟨(wrap64 (x51_3 + 1)), (by first | rfl | (simp; done) | (simp [*]; done)), H', ⟨by have := HK1.out; have := HK2.out; have := HK3.out; omega⟩, ⟨by (with_reducible repeat (first | refine blk_drewN ?_ _ | refine blk_drew ?_ | refine blk_alloc ?_ _)); refine blk_far ?_ NB348_354.out _; (with_reducible repeat (first | refine blk_drewN ?_ _ | refine blk_drew ?_ | refine blk_alloc ?_ _)); refine blk_far ?_ NB348_354.out _; (with_reducible repeat (first | refine blk_drewN ?_ _ | refine blk_drew ?_ | refine blk_alloc ?_ _)); refine blk_far ?_ NB348_354.out _; (with_reducible repeat (first | refine blk_drewN ?_ _ | refine blk_drew ?_ | refine blk_alloc ?_ _)); exact BK348.out⟩, ⟨by repeat (first | (with_reducible first | exact HB.out | apply below_alloc | apply pw_below_drewN | apply below_drew1 | refine below_set ?_ GE348.out | refine below_set ?_ GE354.out) | exact HB.out)⟩⟩
                 ·rw [if_neg c43] at H
                  have c43b0 : decide (((rd_T79 l0 x42_2).f1) ≤ ((rd_T79 y349 x51_3).f2)) = false := decide_eq_false c43
                  clear c43
                  have H' := Aside0.mk H
                  clear H
                  have p353 : 0 ≤ (x51_3 : Int) := of_decide_eq_true (by first | (with_reducible assumption) | assumption)
                  have q353 : x51_3 < (y349.length : Int) := of_decide_eq_true (by first | (with_reducible assumption) | assumption)
                  obtain ⟨ad353, e353, hx353_0, hx353_1, hx353_2⟩ := at_T79 HR352.out x51_3 p353 q353
                  obtain rfl : ad347 = ad353 := (by injection e353)
                  replace hx353_0 := (HB.out.cell (World.block_lt_of_cell? w _ hx353_0)).trans hx353_0
                  replace hx353_1 := (HB.out.cell (World.block_lt_of_cell? w _ hx353_1)).trans hx353_1
                  replace hx353_2 := (HB.out.cell (World.block_lt_of_cell? w _ hx353_2)).trans hx353_2
                  replace p353 := eq_true p353
                  replace q353 := eq_true q353
                  go_wp2_with (first | ((with_reducible refine gate_dst (N := 8) rfl ?_); refine box_event ?hg (N := 8) ?hd (cs := #[.string (⟨#[]⟩ : ByteArray), .int .i64 0, .int .i64 0]) (t := 79) ?hr ?_; (case hd => rfl); (case hg => rfl); (case hr => first | (go_simp; done) | (go_simp; rfl)); intro gb354 hg w53 hbox hb; have n0_ := Aside0.mk (blk_below (g := gb348) (o := .cells #[.string ((rd_T79 l0 x42_2).f0), .int .i64 ((rd_T79 l0 x42_2).f1), .int .i64 ((rd_T79 l0 x42_2).f2)] 79 (0, 0)) (by (with_reducible repeat (first | refine blk_drewN ?_ _ | refine blk_drew ?_ | refine blk_alloc ?_ _)); exact BK348.out) hb); have n1_ := Aside0.mk (below_step (by repeat (first | (with_reducible first | exact HB.out | apply below_alloc | apply pw_below_drewN | apply below_drew1 | refine below_set ?_ GE348.out) | exact HB.out)) hb); have n2_ := Aside0.mk (hbox); have n3_ := Aside0.mk ((by rw [hg]; exact (below_size (by repeat (first | (with_reducible first | exact HB.out | apply below_alloc | apply pw_below_drewN | apply below_drew1 | refine below_set ?_ GE348.out) | exact HB.out))) : w.heap.size ≤ gb354)); have n4_ := Aside0.mk ((by rw [hg]; exact (below_size (by repeat (first | (with_reducible first | exact HB.out | apply below_alloc | apply pw_below_drewN | apply below_drew1 | refine below_set ?_ GE348.out) | exact HB.out))) : w.heap.size ≤ gb354)); have n5_ := Aside0.mk ((by rw [hg]; exact Nat.ne_of_lt (blk_lt (g := gb348) (o := .cells #[.string ((rd_T79 l0 x42_2).f0), .int .i64 ((rd_T79 l0 x42_2).f1), .int .i64 ((rd_T79 l0 x42_2).f2)] 79 (0, 0)) (by (with_reducible repeat (first | refine blk_drewN ?_ _ | refine blk_drew ?_ | refine blk_alloc ?_ _)); exact BK348.out)) : gb348 ≠ gb354)); have n6_ := Aside0.mk ((by rw [hg]; exact Nat.ne_of_gt (blk_lt (g := gb348) (o := .cells #[.string ((rd_T79 l0 x42_2).f0), .int .i64 ((rd_T79 l0 x42_2).f1), .int .i64 ((rd_T79 l0 x42_2).f2)] 79 (0, 0)) (by (with_reducible repeat (first | refine blk_drewN ?_ _ | refine blk_drew ?_ | refine blk_alloc ?_ _)); exact BK348.out)) : gb354 ≠ gb348)); clear BK348; clear HB; have BK348 := n0_; have HB := n1_; have BK354 := n2_; have GW354 := n3_; have GE354 := n4_; have NB348_354 := n5_; have NB354_348 := n6_; clear n0_ n1_ n2_ n3_ n4_ n5_ n6_; clear hb hbox hg; have hnb54 := NB354_348.out; have hnc54 := NB348_354.out; have hcz55_0 : w53.cell? ⟨gb354, 0, none⟩ = some (.string (⟨#[]⟩ : ByteArray)) := (blk_cell BK354.out 0).trans rfl; have hcz55_1 : w53.cell? ⟨gb354, 1, none⟩ = some (.int .i64 0) := (blk_cell BK354.out 1).trans rfl; have hcz55_2 : w53.cell? ⟨gb354, 2, none⟩ = some (.int .i64 0) := (blk_cell BK354.out 2).trans rfl; have hfz55_0 := blk_frozen BK354.out 0; have hfz55_1 := blk_frozen BK354.out 1; have hfz55_2 := blk_frozen BK354.out 2; have hcz56_0 : w53.cell? ⟨gb348, 0, none⟩ = some (.string ((rd_T79 l0 x42_2).f0)) := (blk_cell BK348.out 0).trans rfl; have hcz56_1 : w53.cell? ⟨gb348, 1, none⟩ = some (.int .i64 ((rd_T79 l0 x42_2).f1)) := (blk_cell BK348.out 1).trans rfl; have hcz56_2 : w53.cell? ⟨gb348, 2, none⟩ = some (.int .i64 ((rd_T79 l0 x42_2).f2)) := (blk_cell BK348.out 2).trans rfl; have hfz56_0 := blk_frozen BK348.out 0; have hfz56_1 := blk_frozen BK348.out 1; have hfz56_2 := blk_frozen BK348.out 2))
                  go_roundg k3
                  case measure => have := HK1.out; have := HK2.out; have := HK3.out; omega
                  case rel => exact ⟨(wrap64 (x51_3 + 1)), (by first | rfl | (simp; done) | (simp [*]; done)), H', ⟨by have := HK1.out; have := HK2.out; have := HK3.out; omega⟩, ⟨by (with_reducible repeat (first | refine blk_drewN ?_ _ | refine blk_drew ?_ | refine blk_alloc ?_ _)); refine blk_far ?_ NB348_354.out _; (with_reducible repeat (first | refine blk_drewN ?_ _ | refine blk_drew ?_ | refine blk_alloc ?_ _)); refine blk_far ?_ NB348_354.out _; (with_reducible repeat (first | refine blk_drewN ?_ _ | refine blk_drew ?_ | refine blk_alloc ?_ _)); refine blk_far ?_ NB348_354.out _; (with_reducible repeat (first | refine blk_drewN ?_ _ | refine blk_drew ?_ | refine blk_alloc ?_ _)); exact BK348.out⟩, ⟨by repeat (first | (with_reducible first | exact HB.out | apply below_alloc | apply pw_below_drewN | apply below_drew1 | refine below_set ?_ GE348.out | refine below_set ?_ GE354.out) | exact HB.out)⟩⟩
                ·rw [if_neg c42] at H
                 have c42b0 : (((rd_T79 l0 x42_2).f0).toList == ((rd_T79 y349 x51_3).f0).toList) = false := beq_eq_false_iff_ne.mpr c42
                 have c42b1 : (((rd_T79 l0 x42_2).f0).toList != ((rd_T79 y349 x51_3).f0).toList) = true := bne_iff_ne.mpr c42
                 have H' := Aside0.mk H
                 clear H
                 have p353 : 0 ≤ (x51_3 : Int) := of_decide_eq_true (by first | (with_reducible assumption) | assumption)
                 have q353 : x51_3 < (y349.length : Int) := of_decide_eq_true (by first | (with_reducible assumption) | assumption)
                 obtain ⟨ad353, e353, hx353_0, hx353_1, hx353_2⟩ := at_T79 HR352.out x51_3 p353 q353
                 obtain rfl : ad347 = ad353 := (by injection e353)
                 replace hx353_0 := (HB.out.cell (World.block_lt_of_cell? w _ hx353_0)).trans hx353_0
                 replace hx353_1 := (HB.out.cell (World.block_lt_of_cell? w _ hx353_1)).trans hx353_1
                 replace hx353_2 := (HB.out.cell (World.block_lt_of_cell? w _ hx353_2)).trans hx353_2
                 replace p353 := eq_true p353
                 replace q353 := eq_true q353
                 go_wp2_with (first | ((with_reducible refine gate_dst (N := 8) rfl ?_); refine box_event ?hg (N := 8) ?hd (cs := #[.string (⟨#[]⟩ : ByteArray), .int .i64 0, .int .i64 0]) (t := 79) ?hr ?_; (case hd => rfl); (case hg => rfl); (case hr => first | (go_simp; done) | (go_simp; rfl)); intro gb354 hg w57 hbox hb; have n0_ := Aside0.mk (blk_below (g := gb348) (o := .cells #[.string ((rd_T79 l0 x42_2).f0), .int .i64 ((rd_T79 l0 x42_2).f1), .int .i64 ((rd_T79 l0 x42_2).f2)] 79 (0, 0)) (by (with_reducible repeat (first | refine blk_drewN ?_ _ | refine blk_drew ?_ | refine blk_alloc ?_ _)); exact BK348.out) hb); have n1_ := Aside0.mk (below_step (by repeat (first | (with_reducible first | exact HB.out | apply below_alloc | apply pw_below_drewN | apply below_drew1 | refine below_set ?_ GE348.out) | exact HB.out)) hb); have n2_ := Aside0.mk (hbox); have n3_ := Aside0.mk ((by rw [hg]; exact (below_size (by repeat (first | (with_reducible first | exact HB.out | apply below_alloc | apply pw_below_drewN | apply below_drew1 | refine below_set ?_ GE348.out) | exact HB.out))) : w.heap.size ≤ gb354)); have n4_ := Aside0.mk ((by rw [hg]; exact (below_size (by repeat (first | (with_reducible first | exact HB.out | apply below_alloc | apply pw_below_drewN | apply below_drew1 | refine below_set ?_ GE348.out) | exact HB.out))) : w.heap.size ≤ gb354)); have n5_ := Aside0.mk ((by rw [hg]; exact Nat.ne_of_lt (blk_lt (g := gb348) (o := .cells #[.string ((rd_T79 l0 x42_2).f0), .int .i64 ((rd_T79 l0 x42_2).f1), .int .i64 ((rd_T79 l0 x42_2).f2)] 79 (0, 0)) (by (with_reducible repeat (first | refine blk_drewN ?_ _ | refine blk_drew ?_ | refine blk_alloc ?_ _)); exact BK348.out)) : gb348 ≠ gb354)); have n6_ := Aside0.mk ((by rw [hg]; exact Nat.ne_of_gt (blk_lt (g := gb348) (o := .cells #[.string ((rd_T79 l0 x42_2).f0), .int .i64 ((rd_T79 l0 x42_2).f1), .int .i64 ((rd_T79 l0 x42_2).f2)] 79 (0, 0)) (by (with_reducible repeat (first | refine blk_drewN ?_ _ | refine blk_drew ?_ | refine blk_alloc ?_ _)); exact BK348.out)) : gb354 ≠ gb348)); clear BK348; clear HB; have BK348 := n0_; have HB := n1_; have BK354 := n2_; have GW354 := n3_; have GE354 := n4_; have NB348_354 := n5_; have NB354_348 := n6_; clear n0_ n1_ n2_ n3_ n4_ n5_ n6_; clear hb hbox hg; have hnb58 := NB354_348.out; have hnc58 := NB348_354.out; have hcz59_0 : w57.cell? ⟨gb354, 0, none⟩ = some (.string (⟨#[]⟩ : ByteArray)) := (blk_cell BK354.out 0).trans rfl; have hcz59_1 : w57.cell? ⟨gb354, 1, none⟩ = some (.int .i64 0) := (blk_cell BK354.out 1).trans rfl; have hcz59_2 : w57.cell? ⟨gb354, 2, none⟩ = some (.int .i64 0) := (blk_cell BK354.out 2).trans rfl; have hfz59_0 := blk_frozen BK354.out 0; have hfz59_1 := blk_frozen BK354.out 1; have hfz59_2 := blk_frozen BK354.out 2; have hcz60_0 : w57.cell? ⟨gb348, 0, none⟩ = some (.string ((rd_T79 l0 x42_2).f0)) := (blk_cell BK348.out 0).trans rfl; have hcz60_1 : w57.cell? ⟨gb348, 1, none⟩ = some (.int .i64 ((rd_T79 l0 x42_2).f1)) := (blk_cell BK348.out 1).trans rfl; have hcz60_2 : w57.cell? ⟨gb348, 2, none⟩ = some (.int .i64 ((rd_T79 l0 x42_2).f2)) := (blk_cell BK348.out 2).trans rfl; have hfz60_0 := blk_frozen BK348.out 0; have hfz60_1 := blk_frozen BK348.out 1; have hfz60_2 := blk_frozen BK348.out 2))
                 go_roundg k3
                 case measure => have := HK1.out; have := HK2.out; have := HK3.out; omega
                 case rel => exact ⟨(wrap64 (x51_3 + 1)), (by first | rfl | (simp; done) | (simp [*]; done)), H', ⟨by have := HK1.out; have := HK2.out; have := HK3.out; omega⟩, ⟨by (with_reducible repeat (first | refine blk_drewN ?_ _ | refine blk_drew ?_ | refine blk_alloc ?_ _)); refine blk_far ?_ NB348_354.out _; (with_reducible repeat (first | refine blk_drewN ?_ _ | refine blk_drew ?_ | refine blk_alloc ?_ _)); refine blk_far ?_ NB348_354.out _; (with_reducible repeat (first | refine blk_drewN ?_ _ | refine blk_drew ?_ | refine blk_alloc ?_ _)); refine blk_far ?_ NB348_354.out _; (with_reducible repeat (first | refine blk_drewN ?_ _ | refine blk_drew ?_ | refine blk_alloc ?_ _)); exact BK348.out⟩, ⟨by repeat (first | (with_reducible first | exact HB.out | apply below_alloc | apply pw_below_drewN | apply below_drew1 | refine below_set ?_ GE348.out | refine below_set ?_ GE354.out) | exact HB.out)⟩⟩
               ·rw [if_neg c41] at H
                exact absurd H (by simp)
              ·rw [if_neg c40] at H
               exact absurd H (by simp)
             ·rw [if_neg c39] at H
              have c39b0 : decide (x51_3 < (y349.length : Int)) = false := decide_eq_false c39
              clear c39
              have H' := Aside0.mk H
              clear H
              go_wp2
              go_roundg k3
              case measure => have := HK1.out; have := HK2.out; have := HK3.out; omega
              case rel => exact ⟨(wrap64 (x42_2 + 1)), (by first | rfl | (simp; done) | (simp [*]; done)), H', ⟨by have := HK1.out; have := HK2.out; have := HK3.out; omega⟩, ⟨by repeat (first | (with_reducible first | exact HB.out | apply below_alloc | apply pw_below_drewN | apply below_drew1 | refine below_set ?_ GE348.out) | exact HB.out)⟩⟩
          ·rw [if_neg c34] at H
           exact absurd H (by simp)
         ·rw [if_neg c32] at H
          exact absurd H (by simp)
        ·rw [if_neg c31] at H
         exact absurd H (by simp)
       ·rw [if_neg c30] at H
        have c30b0 : decide (x42_2 < (l0.length : Int)) = false := decide_eq_false c30
        clear c30
        obtain rfl := Option.some.inj H
        go_wp2
        go_ret
        exact ⟨by first | rfl | (simp [errW_none, errW_some] <;> rfl) | (simp [*, errW_none, errW_some] <;> rfl), by repeat (first | (with_reducible first | exact HB.out | apply below_alloc | apply pw_below_drewN | apply below_drew1) | exact HB.out)⟩

/-! ### ring_Total: function 42 -/
def ring_Total.l0 : Nat → Int → List (S79) → Int → Int → Option (Int × Int)
 | 0, _, _, _, _ => none
 | k + 1, x5, x13, x14, x15 => if x15 < x14 then (if 0 ≤ x15 then (if x15 < (x13.length : Int) then (ring_Total.l0 k (wrap64 (x5 + (wrap64 ((wrap64 (((rd_T79 x13 x15).f2) - ((rd_T79 x13 x15).f1))) + 1)))) x13 x14 (wrap64 (x15 + 1))) else (none)) else (none)) else (some (x5, 0))
def ring_Total.f (k : Nat) (l0 : List (S79)) : Option (Int × Int) := (ring_ValidateBlocks.f k l0).bind fun t355 => (if t355 = 0 then (ring_Total.l0 k 0 l0 (l0.length : Int) 0) else (some (0, t355)))
theorem ring_Total.mono_l : ∀ k, (∀ y0 y1 y2 y3, LeO (ring_Total.l0 k y0 y1 y2 y3) (ring_Total.l0 (k + 1) y0 y1 y2 y3))
 | 0 => fun _ _ _ _ r h => by simp [ring_Total.l0] at h
 | k + 1 => by
  have ih0 := ring_Total.mono_l k
  ·intro y0 y1 y2 y3
   unfold ring_Total.l0
   repeat' first
   | (with_reducible exact ih0 _ _ _ _)
   | (with_reducible exact ring_ValidateBlocks.mono _ _)
   | (with_reducible exact LeO.refl _)
   | (with_reducible exact LeO.none _)
   | (with_reducible refine LeO.ite ?_ ?_)
   | (with_reducible refine LeO.bind ?_ (fun _ => ?_))
   | exact ih0 _ _ _ _
   | exact ring_ValidateBlocks.mono _ _
   | exact LeO.none _
   | refine LeO.ite ?_ ?_
   | refine LeO.bind ?_ (fun _ => ?_)
theorem ring_Total.mono : ∀ a0 k, LeO (ring_Total.f k a0) (ring_Total.f (k + 1) a0) := by
 intro a0 k
 have ih0 := ring_Total.mono_l k
 unfold ring_Total.f
 repeat' first
   | (with_reducible exact ih0 _ _ _ _)
   | (with_reducible exact ring_ValidateBlocks.mono _ _)
   | (with_reducible exact LeO.refl _)
   | (with_reducible exact LeO.none _)
   | (with_reducible refine LeO.ite ?_ ?_)
   | (with_reducible refine LeO.bind ?_ (fun _ => ?_))
   | exact ih0 _ _ _ _
   | exact ring_ValidateBlocks.mono _ _
   | exact LeO.none _
   | refine LeO.ite ?_ ?_
   | refine LeO.bind ?_ (fun _ => ?_)
set_option maxHeartbeats 8000000 in
set_option maxRecDepth 100000 in
theorem ring_Total.calls (k : Nat) (A0 : Option Addr) (c0 : Nat) (l0 : List (S79)) (r1 : Int) (r2 : Int) (w : World) (hr0 : Kd.C k79 w A0 l0.length l0) (hc0 : l0.length ≤ c0) (h : ring_Total.f k l0 = some (r1, r2)) :
  Calls Try.prog 42 #[.slice A0 l0.length c0] w fun e w' => e = .returned (.tuple #[.int .i64 r1, .int .i64 r2]) ∧ Below w.heap.size w w' := by
 have hu79 := Try.underlying79
 have HR0 := Aside0.mk hr0
 have HC0 := Aside0.mk hc0
 clear hr0 hc0
 have HB := Aside0.mk (Below.refl w.heap.size w)
 have H : ((ring_ValidateBlocks.f k l0).bind fun t355 => (if t355 = 0 then (ring_Total.l0 k 0 l0 (l0.length : Int) 0) else (some (0, t355)))) = some (r1, r2) := h
 clear h
 replace H := Option.bind_eq_some_iff.mp H
 obtain ⟨t355, A20, H⟩ := H
 replace H : (if t355 = 0 then (ring_Total.l0 k 0 l0 (l0.length : Int) 0) else (some (0, t355))) = some (r1, r2) := H
 have A2 := Aside0.mk A20
 clear A20
 by_cases c3 : t355 = 0
 ·rw [if_pos c3] at H
  have c3b0 : (t355 == 0) = true := beq_iff_eq.mpr c3
  have c3b1 : (t355 != 0) = false := bne_eq_false_iff_eq.mpr c3
  clear c3
  have H' := Aside0.mk H
  clear H
  go_enter Try.func42, Try.ntmps42
  go_wp2_with (first | ((with_reducible refine gate_callee (f := 46) rfl ?_); refine goesL_ (some 9) rfl rfl Try.func46 (by kernel_rfl) rfl #[.slice A0 l0.length c0] rfl (by (try simp only [List.map_toArray, List.map_cons, List.map_nil]); first | done | rfl | (simp only [List.length_drop, List.length_take]; rfl)) ?_; (with_reducible refine (ring_ValidateBlocks.calls k _ _ l0 t355 _ ?side1 ?side2 A2.out).mono ?_); (case side1 => repeat (first | exact HR0.out | (with_reducible refine Kd.C_alloc ?_ _) | (with_reducible refine Kd.C_drewN ?_ _) | (with_reducible refine Kd.C_drew ?_))); (case side2 => exact HC0.out); rintro e w4 ⟨rfl, hb⟩; refine ⟨_, rfl, ?_⟩; have n0_ := Aside0.mk (below_step (by repeat (first | (with_reducible first | exact HB.out | apply below_alloc | apply pw_below_drewN | apply below_drew1) | exact HB.out)) hb); clear HB; have HB := n0_; clear n0_; (try clear hb); (try clear hb2); (try clear hk); (try clear hi)))
  go_loopg [5, 15] k (fun kq v5 v15 w' => ∃ (x5_1 : Int) (x15_1 : Int), v5 = .int .i64 x5_1 ∧ v15 = .int .i64 x15_1 ∧ Aside0 (ring_Total.l0 kq x5_1 l0 (l0.length : Int) x15_1 = some (r1, r2)) ∧ Aside0 (kq ≤ k) ∧ Aside0 (Below w.heap.size w w'))
  case atStart => exact ⟨(0), (0), (by first | rfl | (simp; done) | (simp [*]; done)), (by first | rfl | (simp; done) | (simp [*]; done)), H', ⟨Nat.le_refl _⟩, ⟨by repeat (first | (with_reducible first | exact HB.out | apply below_alloc | apply pw_below_drewN | apply below_drew1) | exact HB.out)⟩⟩
  case round =>
   clear H'
   try clear p2
   try clear c3
   try clear c3b0
   try clear c3b1
   try clear c4
   obtain ⟨x5_1, x15_1, rfl, rfl, HA, HK1, HB⟩ := hrel
   cases gk with
   | zero => exact absurd HA.out (by simp [ring_Total.l0])
   | succ k1 =>
    have H := HA.out
    clear HA
    simp only [ring_Total.l0] at H
    by_cases c5 : x15_1 < (l0.length : Int)
    ·rw [if_pos c5] at H
     have c5b0 : decide (x15_1 < (l0.length : Int)) = true := decide_eq_true c5
     clear c5
     by_cases c6 : 0 ≤ x15_1
     ·rw [if_pos c6] at H
      have c6b0 : decide (0 ≤ x15_1) = true := decide_eq_true c6
      clear c6
      by_cases c7 : x15_1 < (l0.length : Int)
      ·rw [if_pos c7] at H
       have c7b0 : decide (x15_1 < (l0.length : Int)) = true := decide_eq_true c7
       clear c7
       have H' := Aside0.mk H
       clear H
       have p356 : 0 ≤ (x15_1 : Int) := of_decide_eq_true (by first | (with_reducible assumption) | assumption)
       have q356 : x15_1 < (l0.length : Int) := of_decide_eq_true (by first | (with_reducible assumption) | assumption)
       obtain ⟨ad356, e356, hx356_0, hx356_1, hx356_2⟩ := at_T79 HR0.out x15_1 p356 q356
       cases e356
       replace hx356_0 := (HB.out.cell (World.block_lt_of_cell? w _ hx356_0)).trans hx356_0
       replace hx356_1 := (HB.out.cell (World.block_lt_of_cell? w _ hx356_1)).trans hx356_1
       replace hx356_2 := (HB.out.cell (World.block_lt_of_cell? w _ hx356_2)).trans hx356_2
       replace p356 := eq_true p356
       replace q356 := eq_true q356
       go_wp2_with (first | ((with_reducible refine gate_dst (N := 7) rfl ?_); refine box_event ?hg (N := 7) ?hd (cs := #[.string (⟨#[]⟩ : ByteArray), .int .i64 0, .int .i64 0]) (t := 79) ?hr ?_; (case hd => rfl); (case hg => rfl); (case hr => first | (go_simp; done) | (go_simp; rfl)); intro gb357 hg w8 hbox hb; have n0_ := Aside0.mk (below_step (by repeat (first | (with_reducible first | exact HB.out | apply below_alloc | apply pw_below_drewN | apply below_drew1) | exact HB.out)) hb); have n1_ := Aside0.mk (hbox); have n2_ := Aside0.mk ((by rw [hg]; exact (below_size (by repeat (first | (with_reducible first | exact HB.out | apply below_alloc | apply pw_below_drewN | apply below_drew1) | exact HB.out))) : w.heap.size ≤ gb357)); have n3_ := Aside0.mk ((by rw [hg]; exact (below_size (by repeat (first | (with_reducible first | exact HB.out | apply below_alloc | apply pw_below_drewN | apply below_drew1) | exact HB.out))) : w.heap.size ≤ gb357)); clear HB; have HB := n0_; have BK357 := n1_; have GW357 := n2_; have GE357 := n3_; clear n0_ n1_ n2_ n3_; clear hb hbox hg; have hcz9_0 : w8.cell? ⟨gb357, 0, none⟩ = some (.string (⟨#[]⟩ : ByteArray)) := (blk_cell BK357.out 0).trans rfl; have hcz9_1 : w8.cell? ⟨gb357, 1, none⟩ = some (.int .i64 0) := (blk_cell BK357.out 1).trans rfl; have hcz9_2 : w8.cell? ⟨gb357, 2, none⟩ = some (.int .i64 0) := (blk_cell BK357.out 2).trans rfl; have hfz9_0 := blk_frozen BK357.out 0; have hfz9_1 := blk_frozen BK357.out 1; have hfz9_2 := blk_frozen BK357.out 2))
       go_roundg k1
       case measure => have := HK1.out; omega
       case rel => exact ⟨(wrap64 (x5_1 + (wrap64 ((wrap64 (((rd_T79 l0 x15_1).f2) - ((rd_T79 l0 x15_1).f1))) + 1)))), (wrap64 (x15_1 + 1)), (by first | rfl | (simp; done) | (simp [*]; done)), (by first | rfl | (simp; done) | (simp [*]; done)), H', ⟨by have := HK1.out; omega⟩, ⟨by repeat (first | (with_reducible first | exact HB.out | apply below_alloc | apply pw_below_drewN | apply below_drew1 | refine below_set ?_ GE357.out) | exact HB.out)⟩⟩
      ·rw [if_neg c7] at H
       exact absurd H (by simp)
     ·rw [if_neg c6] at H
      exact absurd H (by simp)
    ·rw [if_neg c5] at H
     have c5b0 : decide (x15_1 < (l0.length : Int)) = false := decide_eq_false c5
     clear c5
     simp only [Option.some.injEq, Prod.mk.injEq] at H
     obtain ⟨rfl, rfl⟩ := H
     go_wp2
     go_ret2
     exact ⟨by first | rfl | (simp [errW_none, errW_some] <;> rfl) | (simp [*, errW_none, errW_some] <;> rfl), by repeat (first | (with_reducible first | exact HB.out | apply below_alloc | apply pw_below_drewN | apply below_drew1) | exact HB.out)⟩
 ·rw [if_neg c3] at H
  have c3b0 : (t355 == 0) = false := beq_eq_false_iff_ne.mpr c3
  have c3b1 : (t355 != 0) = true := bne_iff_ne.mpr c3
  simp only [Option.some.injEq, Prod.mk.injEq] at H
  obtain ⟨rfl, rfl⟩ := H
  go_enter Try.func42, Try.ntmps42
  go_wp2_with (first | ((with_reducible refine gate_callee (f := 46) rfl ?_); refine goesL_ (some 9) rfl rfl Try.func46 (by kernel_rfl) rfl #[.slice A0 l0.length c0] rfl (by (try simp only [List.map_toArray, List.map_cons, List.map_nil]); first | done | rfl | (simp only [List.length_drop, List.length_take]; rfl)) ?_; (with_reducible refine (ring_ValidateBlocks.calls k _ _ l0 t355 _ ?side1 ?side2 A2.out).mono ?_); (case side1 => repeat (first | exact HR0.out | (with_reducible refine Kd.C_alloc ?_ _) | (with_reducible refine Kd.C_drewN ?_ _) | (with_reducible refine Kd.C_drew ?_))); (case side2 => exact HC0.out); rintro e w10 ⟨rfl, hb⟩; refine ⟨_, rfl, ?_⟩; have n0_ := Aside0.mk (below_step (by repeat (first | (with_reducible first | exact HB.out | apply below_alloc | apply pw_below_drewN | apply below_drew1) | exact HB.out)) hb); clear HB; have HB := n0_; clear n0_; (try clear hb); (try clear hb2); (try clear hk); (try clear hi)))
  go_ret2
  exact ⟨by first | rfl | (simp [errW_none, errW_some] <;> rfl) | (simp [*, errW_none, errW_some] <;> rfl), by repeat (first | (with_reducible first | exact HB.out | apply below_alloc | apply pw_below_drewN | apply below_drew1) | exact HB.out)⟩

end Go.Proofs.Ytlbhighbhchdmaa.Q
