-- Written by a program of this session (wip/tools/gprint.py, over the kit's print); Lean checks it.
import Derived.Test.YtlbhighbhchdmaaQx0
import Derived.Test.YtlbhighbhchdmaaQx12
import Derived.Test.YtlbhighbhchdmaaQx17
namespace Go.Proofs.Ytlbhighbhchdmaa.Q
open Go.RowKit Go.Proofs.YtlbhighbhchdmaaW.PrintWords Go.Proofs.YtlbhighbhchdmaaW.PrintLast Go.Proofs.YtlbhighbhchdmaaW.PrintMore
attribute [local go_sem] max2_int min2_int max_two min_two max_three min_three max_four min_four   -- for this text's walks alone
set_option linter.unusedVariables false
set_option linter.unusedSimpArgs false

/-! ### ring_Owner: function 44 -/
def ring_Owner.l0 : Nat → ByteArray → Int → List (S79) → Int → Int → Option (Int × Bool × Int)
  | 0, _, _, _, _, _ => none
  | k + 1, x8, x9, x27, x28, x29 => if x29 < x28 then (if 0 ≤ x29 then (if x29 < (x27.length : Int) then (if ((rd_T79 x27 x29).f0).toList = x8.toList then (if ((rd_T79 x27 x29).f1) ≤ x9 then (if x9 ≤ ((rd_T79 x27 x29).f2) then (some (x29, true, 0)) else (ring_Owner.l0 k x8 x9 x27 x28 (wrap64 (x29 + 1)))) else (ring_Owner.l0 k x8 x9 x27 x28 (wrap64 (x29 + 1)))) else (ring_Owner.l0 k x8 x9 x27 x28 (wrap64 (x29 + 1)))) else (none)) else (none)) else (some (0, false, 0))
def ring_Owner.f (k : Nat) (l0 : List (S79)) (a1 : ByteArray) : Option (Int × Bool × Int) := (ring_ValidateBlocks.f k l0).bind fun t373 => (if t373 = 0 then ((ring_Split.f k a1).bind fun bt374 => (if bt374.2.2 = 0 then (ring_Owner.l0 k bt374.1 bt374.2.1 l0 (l0.length : Int) 0) else (some (0, false, bt374.2.2)))) else (some (0, false, t373)))
theorem ring_Owner.mono_l : ∀ k, (∀ y0 y1 y2 y3 y4, LeO (ring_Owner.l0 k y0 y1 y2 y3 y4) (ring_Owner.l0 (k + 1) y0 y1 y2 y3 y4))
  | 0 => fun _ _ _ _ _ r h => by simp [ring_Owner.l0] at h
  | k + 1 => by
    have ih0 := ring_Owner.mono_l k
    · intro y0 y1 y2 y3 y4
      unfold ring_Owner.l0
      repeat' first
      | (with_reducible exact ih0 _ _ _ _ _)
      | (with_reducible exact ring_Split.mono _ _)
      | (with_reducible exact ring_ValidateBlocks.mono _ _)
      | (with_reducible exact LeO.refl _)
      | (with_reducible exact LeO.none _)
      | (with_reducible refine LeO.ite ?_ ?_)
      | (with_reducible refine LeO.bind ?_ (fun _ => ?_))
      | exact ih0 _ _ _ _ _
      | exact ring_Split.mono _ _
      | exact ring_ValidateBlocks.mono _ _
      | exact LeO.none _
      | refine LeO.ite ?_ ?_
      | refine LeO.bind ?_ (fun _ => ?_)
theorem ring_Owner.mono : ∀ a0 a1 k, LeO (ring_Owner.f k a0 a1) (ring_Owner.f (k + 1) a0 a1) := by
  intro a0 a1 k
  have ih0 := ring_Owner.mono_l k
  unfold ring_Owner.f
  repeat' first
      | (with_reducible exact ih0 _ _ _ _ _)
      | (with_reducible exact ring_Split.mono _ _)
      | (with_reducible exact ring_ValidateBlocks.mono _ _)
      | (with_reducible exact LeO.refl _)
      | (with_reducible exact LeO.none _)
      | (with_reducible refine LeO.ite ?_ ?_)
      | (with_reducible refine LeO.bind ?_ (fun _ => ?_))
      | exact ih0 _ _ _ _ _
      | exact ring_Split.mono _ _
      | exact ring_ValidateBlocks.mono _ _
      | exact LeO.none _
      | refine LeO.ite ?_ ?_
      | refine LeO.bind ?_ (fun _ => ?_)
set_option maxHeartbeats 8000000 in
set_option maxRecDepth 100000 in
theorem ring_Owner.calls (k : Nat) (A0 : Option Addr) (c0 : Nat) (l0 : List (S79)) (a1 : ByteArray) (r1 : Int) (r2 : Bool) (r3 : Int) (w : World) (hr0 : Kd.C k79 w A0 l0.length l0) (hc0 : l0.length ≤ c0) (h : ring_Owner.f k l0 a1 = some (r1, r2, r3)) :
    Calls Try.prog 44 #[.slice A0 l0.length c0, .string a1] w fun e w' => e = .returned (.tuple #[.int .i64 r1, .bool r2, .int .i64 r3]) ∧ Below w.heap.size w w' := by
  have hu79 := Try.underlying79
  have HR0 := Aside0.mk hr0
  have HC0 := Aside0.mk hc0
  clear hr0 hc0
  have HB := Aside0.mk (Below.refl w.heap.size w)
  have H : ((ring_ValidateBlocks.f k l0).bind fun t373 => (if t373 = 0 then ((ring_Split.f k a1).bind fun bt374 => (if bt374.2.2 = 0 then (ring_Owner.l0 k bt374.1 bt374.2.1 l0 (l0.length : Int) 0) else (some (0, false, bt374.2.2)))) else (some (0, false, t373)))) = some (r1, r2, r3) := h
  clear h
  replace H := Option.bind_eq_some_iff.mp H
  obtain ⟨t373, A30, H⟩ := H
  replace H : (if t373 = 0 then ((ring_Split.f k a1).bind fun bt374 => (if bt374.2.2 = 0 then (ring_Owner.l0 k bt374.1 bt374.2.1 l0 (l0.length : Int) 0) else (some (0, false, bt374.2.2)))) else (some (0, false, t373))) = some (r1, r2, r3) := H
  have A3 := Aside0.mk A30
  clear A30
  by_cases c4 : t373 = 0
  · rw [if_pos c4] at H
    have c4b0 : (t373 == 0) = true := beq_iff_eq.mpr c4
    have c4b1 : (t373 != 0) = false := bne_eq_false_iff_eq.mpr c4
    clear c4
    replace H := Option.bind_eq_some_iff.mp H
    obtain ⟨⟨t374, t375, t376⟩, A50, H⟩ := H
    replace H : (if t376 = 0 then (ring_Owner.l0 k t374 t375 l0 (l0.length : Int) 0) else (some (0, false, t376))) = some (r1, r2, r3) := H
    have A5 := Aside0.mk A50
    clear A50
    by_cases c6 : t376 = 0
    · rw [if_pos c6] at H
      have c6b0 : (t376 == 0) = true := beq_iff_eq.mpr c6
      have c6b1 : (t376 != 0) = false := bne_eq_false_iff_eq.mpr c6
      clear c6
      have H' := Aside0.mk H
      clear H
      go_enter Try.func44, Try.ntmps44
      go_wp2_with (first | ((with_reducible refine gate_callee (f := 46) rfl ?_); refine goesL_ (some 14) rfl rfl Try.func46 (by kernel_rfl) rfl #[.slice A0 l0.length c0] rfl (by (try simp only [List.map_toArray, List.map_cons, List.map_nil]); first | done | rfl | (simp only [List.length_drop, List.length_take]; rfl)) ?_; (with_reducible refine (ring_ValidateBlocks.calls k _ _ l0 t373 _ ?side1 ?side2 A3.out).mono ?_); (case side1 => repeat (first | exact HR0.out | (with_reducible refine Kd.C_alloc ?_ _) | (with_reducible refine Kd.C_drewN ?_ _) | (with_reducible refine Kd.C_drew ?_))); (case side2 => exact HC0.out); rintro e w7 ⟨rfl, hb⟩; refine ⟨_, rfl, ?_⟩; have n0_ := Aside0.mk (below_step (by repeat (first | (with_reducible first | exact HB.out | apply below_alloc | apply pw_below_drewN | apply below_drew1) | exact HB.out)) hb); clear HB; have HB := n0_; clear n0_; (try clear hb); (try clear hb2); (try clear hk); (try clear hi)) | ((with_reducible refine gate_callee (f := 32) rfl ?_); refine goesL_ (some 20) rfl rfl Try.func32 (by kernel_rfl) rfl #[.string a1] rfl (by (try simp only [List.map_toArray, List.map_cons, List.map_nil]); first | done | rfl | (simp only [List.length_drop, List.length_take]; rfl)) ?_; (with_reducible refine (ring_Split.calls k a1 t374 t375 t376 _ A5.out).mono ?_); rintro e w8 ⟨rfl, hb⟩; refine ⟨_, rfl, ?_⟩; have n0_ := Aside0.mk (below_step (by repeat (first | (with_reducible first | exact HB.out | apply below_alloc | apply pw_below_drewN | apply below_drew1) | exact HB.out)) hb); clear HB; have HB := n0_; clear n0_; (try clear hb); (try clear hb2); (try clear hk); (try clear hi)))
      go_loopg [29] k (fun kq v29 w' => ∃ (x29_1 : Int), v29 = .int .i64 x29_1 ∧ Aside0 (ring_Owner.l0 kq t374 t375 l0 (l0.length : Int) x29_1 = some (r1, r2, r3)) ∧ Aside0 (kq ≤ k) ∧ Aside0 (Below w.heap.size w w'))
      case atStart => exact ⟨(0), (by first | rfl | (simp; done) | (simp [*]; done)), H', ⟨Nat.le_refl _⟩, ⟨by repeat (first | (with_reducible first | exact HB.out | apply below_alloc | apply pw_below_drewN | apply below_drew1) | exact HB.out)⟩⟩
      case round =>
        clear H'
        try clear p2
        try clear c3
        try clear c4
        try clear c4b0
        try clear c4b1
        try clear c6
        try clear c6b0
        try clear c6b1
        obtain ⟨x29_1, rfl, HA, HK1, HB⟩ := hrel
        cases gk with
        | zero => exact absurd HA.out (by simp [ring_Owner.l0])
        | succ k1 =>
          have H := HA.out
          clear HA
          simp only [ring_Owner.l0] at H
          by_cases c9 : x29_1 < (l0.length : Int)
          · rw [if_pos c9] at H
            have c9b0 : decide (x29_1 < (l0.length : Int)) = true := decide_eq_true c9
            clear c9
            by_cases c10 : 0 ≤ x29_1
            · rw [if_pos c10] at H
              have c10b0 : decide (0 ≤ x29_1) = true := decide_eq_true c10
              clear c10
              by_cases c11 : x29_1 < (l0.length : Int)
              · rw [if_pos c11] at H
                have c11b0 : decide (x29_1 < (l0.length : Int)) = true := decide_eq_true c11
                clear c11
                by_cases c12 : ((rd_T79 l0 x29_1).f0).toList = t374.toList
                · rw [if_pos c12] at H
                  have c12b0 : (((rd_T79 l0 x29_1).f0).toList == t374.toList) = true := beq_iff_eq.mpr c12
                  have c12b1 : (((rd_T79 l0 x29_1).f0).toList != t374.toList) = false := bne_eq_false_iff_eq.mpr c12
                  clear c12
                  by_cases c13 : ((rd_T79 l0 x29_1).f1) ≤ t375
                  · rw [if_pos c13] at H
                    have c13b0 : decide (((rd_T79 l0 x29_1).f1) ≤ t375) = true := decide_eq_true c13
                    clear c13
                    by_cases c14 : t375 ≤ ((rd_T79 l0 x29_1).f2)
                    · rw [if_pos c14] at H
                      have c14b0 : decide (t375 ≤ ((rd_T79 l0 x29_1).f2)) = true := decide_eq_true c14
                      clear c14
                      simp only [Option.some.injEq, Prod.mk.injEq] at H
                      obtain ⟨rfl, rfl, rfl⟩ := H
                      have p377 : 0 ≤ (x29_1 : Int) := of_decide_eq_true (by first | (with_reducible assumption) | assumption)
                      have q377 : x29_1 < (l0.length : Int) := of_decide_eq_true (by first | (with_reducible assumption) | assumption)
                      obtain ⟨ad377, e377, hx377_0, hx377_1, hx377_2⟩ := at_T79 HR0.out x29_1 p377 q377
                      cases e377
                      replace hx377_0 := (HB.out.cell (World.block_lt_of_cell? w _ hx377_0)).trans hx377_0
                      replace hx377_1 := (HB.out.cell (World.block_lt_of_cell? w _ hx377_1)).trans hx377_1
                      replace hx377_2 := (HB.out.cell (World.block_lt_of_cell? w _ hx377_2)).trans hx377_2
                      replace p377 := eq_true p377
                      replace q377 := eq_true q377
                      go_wp2_with (first | ((with_reducible refine gate_dst (N := 12) rfl ?_); refine box_event ?hg (N := 12) ?hd (cs := #[.string (⟨#[]⟩ : ByteArray), .int .i64 0, .int .i64 0]) (t := 79) ?hr ?_; (case hd => rfl); (case hg => rfl); (case hr => first | (go_simp; done) | (go_simp; rfl)); intro gb378 hg w15 hbox hb; have n0_ := Aside0.mk (below_step (by repeat (first | (with_reducible first | exact HB.out | apply below_alloc | apply pw_below_drewN | apply below_drew1) | exact HB.out)) hb); have n1_ := Aside0.mk (hbox); have n2_ := Aside0.mk ((by rw [hg]; exact (below_size (by repeat (first | (with_reducible first | exact HB.out | apply below_alloc | apply pw_below_drewN | apply below_drew1) | exact HB.out))) : w.heap.size ≤ gb378)); have n3_ := Aside0.mk ((by rw [hg]; exact (below_size (by repeat (first | (with_reducible first | exact HB.out | apply below_alloc | apply pw_below_drewN | apply below_drew1) | exact HB.out))) : w.heap.size ≤ gb378)); clear HB; have HB := n0_; have BK378 := n1_; have GW378 := n2_; have GE378 := n3_; clear n0_ n1_ n2_ n3_; clear hb hbox hg; have hcz16_0 : w15.cell? ⟨gb378, 0, none⟩ = some (.string (⟨#[]⟩ : ByteArray)) := (blk_cell BK378.out 0).trans rfl; have hcz16_1 : w15.cell? ⟨gb378, 1, none⟩ = some (.int .i64 0) := (blk_cell BK378.out 1).trans rfl; have hcz16_2 : w15.cell? ⟨gb378, 2, none⟩ = some (.int .i64 0) := (blk_cell BK378.out 2).trans rfl; have hfz16_0 := blk_frozen BK378.out 0; have hfz16_1 := blk_frozen BK378.out 1; have hfz16_2 := blk_frozen BK378.out 2))
                      go_ret3
                      exact ⟨by first | rfl | (simp [errW_none, errW_some] <;> rfl) | (simp [*, errW_none, errW_some] <;> rfl), by repeat (first | (with_reducible first | exact HB.out | apply below_alloc | apply pw_below_drewN | apply below_drew1 | refine below_set ?_ GE378.out) | exact HB.out)⟩
                    · rw [if_neg c14] at H
                      have c14b0 : decide (t375 ≤ ((rd_T79 l0 x29_1).f2)) = false := decide_eq_false c14
                      clear c14
                      have H' := Aside0.mk H
                      clear H
                      have p377 : 0 ≤ (x29_1 : Int) := of_decide_eq_true (by first | (with_reducible assumption) | assumption)
                      have q377 : x29_1 < (l0.length : Int) := of_decide_eq_true (by first | (with_reducible assumption) | assumption)
                      obtain ⟨ad377, e377, hx377_0, hx377_1, hx377_2⟩ := at_T79 HR0.out x29_1 p377 q377
                      cases e377
                      replace hx377_0 := (HB.out.cell (World.block_lt_of_cell? w _ hx377_0)).trans hx377_0
                      replace hx377_1 := (HB.out.cell (World.block_lt_of_cell? w _ hx377_1)).trans hx377_1
                      replace hx377_2 := (HB.out.cell (World.block_lt_of_cell? w _ hx377_2)).trans hx377_2
                      replace p377 := eq_true p377
                      replace q377 := eq_true q377
                      go_wp2_with (first | ((with_reducible refine gate_dst (N := 12) rfl ?_); refine box_event ?hg (N := 12) ?hd (cs := #[.string (⟨#[]⟩ : ByteArray), .int .i64 0, .int .i64 0]) (t := 79) ?hr ?_; (case hd => rfl); (case hg => rfl); (case hr => first | (go_simp; done) | (go_simp; rfl)); intro gb378 hg w17 hbox hb; have n0_ := Aside0.mk (below_step (by repeat (first | (with_reducible first | exact HB.out | apply below_alloc | apply pw_below_drewN | apply below_drew1) | exact HB.out)) hb); have n1_ := Aside0.mk (hbox); have n2_ := Aside0.mk ((by rw [hg]; exact (below_size (by repeat (first | (with_reducible first | exact HB.out | apply below_alloc | apply pw_below_drewN | apply below_drew1) | exact HB.out))) : w.heap.size ≤ gb378)); have n3_ := Aside0.mk ((by rw [hg]; exact (below_size (by repeat (first | (with_reducible first | exact HB.out | apply below_alloc | apply pw_below_drewN | apply below_drew1) | exact HB.out))) : w.heap.size ≤ gb378)); clear HB; have HB := n0_; have BK378 := n1_; have GW378 := n2_; have GE378 := n3_; clear n0_ n1_ n2_ n3_; clear hb hbox hg; have hcz18_0 : w17.cell? ⟨gb378, 0, none⟩ = some (.string (⟨#[]⟩ : ByteArray)) := (blk_cell BK378.out 0).trans rfl; have hcz18_1 : w17.cell? ⟨gb378, 1, none⟩ = some (.int .i64 0) := (blk_cell BK378.out 1).trans rfl; have hcz18_2 : w17.cell? ⟨gb378, 2, none⟩ = some (.int .i64 0) := (blk_cell BK378.out 2).trans rfl; have hfz18_0 := blk_frozen BK378.out 0; have hfz18_1 := blk_frozen BK378.out 1; have hfz18_2 := blk_frozen BK378.out 2))
                      go_roundg k1
                      case measure => have := HK1.out; omega
                      case rel => exact ⟨(wrap64 (x29_1 + 1)), (by first | rfl | (simp; done) | (simp [*]; done)), H', ⟨by have := HK1.out; omega⟩, ⟨by repeat (first | (with_reducible first | exact HB.out | apply below_alloc | apply pw_below_drewN | apply below_drew1 | refine below_set ?_ GE378.out) | exact HB.out)⟩⟩
                  · rw [if_neg c13] at H
                    have c13b0 : decide (((rd_T79 l0 x29_1).f1) ≤ t375) = false := decide_eq_false c13
                    clear c13
                    have H' := Aside0.mk H
                    clear H
                    have p377 : 0 ≤ (x29_1 : Int) := of_decide_eq_true (by first | (with_reducible assumption) | assumption)
                    have q377 : x29_1 < (l0.length : Int) := of_decide_eq_true (by first | (with_reducible assumption) | assumption)
                    obtain ⟨ad377, e377, hx377_0, hx377_1, hx377_2⟩ := at_T79 HR0.out x29_1 p377 q377
                    cases e377
                    replace hx377_0 := (HB.out.cell (World.block_lt_of_cell? w _ hx377_0)).trans hx377_0
                    replace hx377_1 := (HB.out.cell (World.block_lt_of_cell? w _ hx377_1)).trans hx377_1
                    replace hx377_2 := (HB.out.cell (World.block_lt_of_cell? w _ hx377_2)).trans hx377_2
                    replace p377 := eq_true p377
                    replace q377 := eq_true q377
                    go_wp2_with (first | ((with_reducible refine gate_dst (N := 12) rfl ?_); refine box_event ?hg (N := 12) ?hd (cs := #[.string (⟨#[]⟩ : ByteArray), .int .i64 0, .int .i64 0]) (t := 79) ?hr ?_; (case hd => rfl); (case hg => rfl); (case hr => first | (go_simp; done) | (go_simp; rfl)); intro gb378 hg w19 hbox hb; have n0_ := Aside0.mk (below_step (by repeat (first | (with_reducible first | exact HB.out | apply below_alloc | apply pw_below_drewN | apply below_drew1) | exact HB.out)) hb); have n1_ := Aside0.mk (hbox); have n2_ := Aside0.mk ((by rw [hg]; exact (below_size (by repeat (first | (with_reducible first | exact HB.out | apply below_alloc | apply pw_below_drewN | apply below_drew1) | exact HB.out))) : w.heap.size ≤ gb378)); have n3_ := Aside0.mk ((by rw [hg]; exact (below_size (by repeat (first | (with_reducible first | exact HB.out | apply below_alloc | apply pw_below_drewN | apply below_drew1) | exact HB.out))) : w.heap.size ≤ gb378)); clear HB; have HB := n0_; have BK378 := n1_; have GW378 := n2_; have GE378 := n3_; clear n0_ n1_ n2_ n3_; clear hb hbox hg; have hcz20_0 : w19.cell? ⟨gb378, 0, none⟩ = some (.string (⟨#[]⟩ : ByteArray)) := (blk_cell BK378.out 0).trans rfl; have hcz20_1 : w19.cell? ⟨gb378, 1, none⟩ = some (.int .i64 0) := (blk_cell BK378.out 1).trans rfl; have hcz20_2 : w19.cell? ⟨gb378, 2, none⟩ = some (.int .i64 0) := (blk_cell BK378.out 2).trans rfl; have hfz20_0 := blk_frozen BK378.out 0; have hfz20_1 := blk_frozen BK378.out 1; have hfz20_2 := blk_frozen BK378.out 2))
                    go_roundg k1
                    case measure => have := HK1.out; omega
                    case rel => exact ⟨(wrap64 (x29_1 + 1)), (by first | rfl | (simp; done) | (simp [*]; done)), H', ⟨by have := HK1.out; omega⟩, ⟨by repeat (first | (with_reducible first | exact HB.out | apply below_alloc | apply pw_below_drewN | apply below_drew1 | refine below_set ?_ GE378.out) | exact HB.out)⟩⟩
                · rw [if_neg c12] at H
                  have c12b0 : (((rd_T79 l0 x29_1).f0).toList == t374.toList) = false := beq_eq_false_iff_ne.mpr c12
                  have c12b1 : (((rd_T79 l0 x29_1).f0).toList != t374.toList) = true := bne_iff_ne.mpr c12
                  have H' := Aside0.mk H
                  clear H
                  have p377 : 0 ≤ (x29_1 : Int) := of_decide_eq_true (by first | (with_reducible assumption) | assumption)
                  have q377 : x29_1 < (l0.length : Int) := of_decide_eq_true (by first | (with_reducible assumption) | assumption)
                  obtain ⟨ad377, e377, hx377_0, hx377_1, hx377_2⟩ := at_T79 HR0.out x29_1 p377 q377
                  cases e377
                  replace hx377_0 := (HB.out.cell (World.block_lt_of_cell? w _ hx377_0)).trans hx377_0
                  replace hx377_1 := (HB.out.cell (World.block_lt_of_cell? w _ hx377_1)).trans hx377_1
                  replace hx377_2 := (HB.out.cell (World.block_lt_of_cell? w _ hx377_2)).trans hx377_2
                  replace p377 := eq_true p377
                  replace q377 := eq_true q377
                  go_wp2_with (first | ((with_reducible refine gate_dst (N := 12) rfl ?_); refine box_event ?hg (N := 12) ?hd (cs := #[.string (⟨#[]⟩ : ByteArray), .int .i64 0, .int .i64 0]) (t := 79) ?hr ?_; (case hd => rfl); (case hg => rfl); (case hr => first | (go_simp; done) | (go_simp; rfl)); intro gb378 hg w21 hbox hb; have n0_ := Aside0.mk (below_step (by repeat (first | (with_reducible first | exact HB.out | apply below_alloc | apply pw_below_drewN | apply below_drew1) | exact HB.out)) hb); have n1_ := Aside0.mk (hbox); have n2_ := Aside0.mk ((by rw [hg]; exact (below_size (by repeat (first | (with_reducible first | exact HB.out | apply below_alloc | apply pw_below_drewN | apply below_drew1) | exact HB.out))) : w.heap.size ≤ gb378)); have n3_ := Aside0.mk ((by rw [hg]; exact (below_size (by repeat (first | (with_reducible first | exact HB.out | apply below_alloc | apply pw_below_drewN | apply below_drew1) | exact HB.out))) : w.heap.size ≤ gb378)); clear HB; have HB := n0_; have BK378 := n1_; have GW378 := n2_; have GE378 := n3_; clear n0_ n1_ n2_ n3_; clear hb hbox hg; have hcz22_0 : w21.cell? ⟨gb378, 0, none⟩ = some (.string (⟨#[]⟩ : ByteArray)) := (blk_cell BK378.out 0).trans rfl; have hcz22_1 : w21.cell? ⟨gb378, 1, none⟩ = some (.int .i64 0) := (blk_cell BK378.out 1).trans rfl; have hcz22_2 : w21.cell? ⟨gb378, 2, none⟩ = some (.int .i64 0) := (blk_cell BK378.out 2).trans rfl; have hfz22_0 := blk_frozen BK378.out 0; have hfz22_1 := blk_frozen BK378.out 1; have hfz22_2 := blk_frozen BK378.out 2))
                  go_roundg k1
                  case measure => have := HK1.out; omega
                  case rel => exact ⟨(wrap64 (x29_1 + 1)), (by first | rfl | (simp; done) | (simp [*]; done)), H', ⟨by have := HK1.out; omega⟩, ⟨by repeat (first | (with_reducible first | exact HB.out | apply below_alloc | apply pw_below_drewN | apply below_drew1 | refine below_set ?_ GE378.out) | exact HB.out)⟩⟩
              · rw [if_neg c11] at H
                exact absurd H (by simp)
            · rw [if_neg c10] at H
              exact absurd H (by simp)
          · rw [if_neg c9] at H
            have c9b0 : decide (x29_1 < (l0.length : Int)) = false := decide_eq_false c9
            clear c9
            simp only [Option.some.injEq, Prod.mk.injEq] at H
            obtain ⟨rfl, rfl, rfl⟩ := H
            go_wp2
            go_ret3
            exact ⟨by first | rfl | (simp [errW_none, errW_some] <;> rfl) | (simp [*, errW_none, errW_some] <;> rfl), by repeat (first | (with_reducible first | exact HB.out | apply below_alloc | apply pw_below_drewN | apply below_drew1) | exact HB.out)⟩
    · rw [if_neg c6] at H
      have c6b0 : (t376 == 0) = false := beq_eq_false_iff_ne.mpr c6
      have c6b1 : (t376 != 0) = true := bne_iff_ne.mpr c6
      simp only [Option.some.injEq, Prod.mk.injEq] at H
      obtain ⟨rfl, rfl, rfl⟩ := H
      go_enter Try.func44, Try.ntmps44
      go_wp2_with (first | ((with_reducible refine gate_callee (f := 46) rfl ?_); refine goesL_ (some 14) rfl rfl Try.func46 (by kernel_rfl) rfl #[.slice A0 l0.length c0] rfl (by (try simp only [List.map_toArray, List.map_cons, List.map_nil]); first | done | rfl | (simp only [List.length_drop, List.length_take]; rfl)) ?_; (with_reducible refine (ring_ValidateBlocks.calls k _ _ l0 t373 _ ?side1 ?side2 A3.out).mono ?_); (case side1 => repeat (first | exact HR0.out | (with_reducible refine Kd.C_alloc ?_ _) | (with_reducible refine Kd.C_drewN ?_ _) | (with_reducible refine Kd.C_drew ?_))); (case side2 => exact HC0.out); rintro e w23 ⟨rfl, hb⟩; refine ⟨_, rfl, ?_⟩; have n0_ := Aside0.mk (below_step (by repeat (first | (with_reducible first | exact HB.out | apply below_alloc | apply pw_below_drewN | apply below_drew1) | exact HB.out)) hb); clear HB; have HB := n0_; clear n0_; (try clear hb); (try clear hb2); (try clear hk); (try clear hi)) | ((with_reducible refine gate_callee (f := 32) rfl ?_); refine goesL_ (some 20) rfl rfl Try.func32 (by kernel_rfl) rfl #[.string a1] rfl (by (try simp only [List.map_toArray, List.map_cons, List.map_nil]); first | done | rfl | (simp only [List.length_drop, List.length_take]; rfl)) ?_; (with_reducible refine (ring_Split.calls k a1 t374 t375 t376 _ A5.out).mono ?_); rintro e w24 ⟨rfl, hb⟩; refine ⟨_, rfl, ?_⟩; have n0_ := Aside0.mk (below_step (by repeat (first | (with_reducible first | exact HB.out | apply below_alloc | apply pw_below_drewN | apply below_drew1) | exact HB.out)) hb); clear HB; have HB := n0_; clear n0_; (try clear hb); (try clear hb2); (try clear hk); (try clear hi)))
      go_ret3
      exact ⟨by first | rfl | (simp [errW_none, errW_some] <;> rfl) | (simp [*, errW_none, errW_some] <;> rfl), by repeat (first | (with_reducible first | exact HB.out | apply below_alloc | apply pw_below_drewN | apply below_drew1) | exact HB.out)⟩
  · rw [if_neg c4] at H
    have c4b0 : (t373 == 0) = false := beq_eq_false_iff_ne.mpr c4
    have c4b1 : (t373 != 0) = true := bne_iff_ne.mpr c4
    simp only [Option.some.injEq, Prod.mk.injEq] at H
    obtain ⟨rfl, rfl, rfl⟩ := H
    go_enter Try.func44, Try.ntmps44
    go_wp2_with (first | ((with_reducible refine gate_callee (f := 46) rfl ?_); refine goesL_ (some 14) rfl rfl Try.func46 (by kernel_rfl) rfl #[.slice A0 l0.length c0] rfl (by (try simp only [List.map_toArray, List.map_cons, List.map_nil]); first | done | rfl | (simp only [List.length_drop, List.length_take]; rfl)) ?_; (with_reducible refine (ring_ValidateBlocks.calls k _ _ l0 t373 _ ?side1 ?side2 A3.out).mono ?_); (case side1 => repeat (first | exact HR0.out | (with_reducible refine Kd.C_alloc ?_ _) | (with_reducible refine Kd.C_drewN ?_ _) | (with_reducible refine Kd.C_drew ?_))); (case side2 => exact HC0.out); rintro e w25 ⟨rfl, hb⟩; refine ⟨_, rfl, ?_⟩; have n0_ := Aside0.mk (below_step (by repeat (first | (with_reducible first | exact HB.out | apply below_alloc | apply pw_below_drewN | apply below_drew1) | exact HB.out)) hb); clear HB; have HB := n0_; clear n0_; (try clear hb); (try clear hb2); (try clear hk); (try clear hi)))
    go_ret3
    exact ⟨by first | rfl | (simp [errW_none, errW_some] <;> rfl) | (simp [*, errW_none, errW_some] <;> rfl), by repeat (first | (with_reducible first | exact HB.out | apply below_alloc | apply pw_below_drewN | apply below_drew1) | exact HB.out)⟩

end Go.Proofs.Ytlbhighbhchdmaa.Q
