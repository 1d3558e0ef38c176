-- Written by a program of this session (wip/tools/gprint.py, over the kit's print); Lean checks it.
import Derived.Test.YtlbhighbhchdmaaQx0
import Derived.Test.YtlbhighbhchdmaaQx18
import Derived.Test.YtlbhighbhchdmaaQx36
namespace Go.Proofs.Ytlbhighbhchdmaa.Q
open Go.RowKit Go.Proofs.YtlbhighbhchdmaaW.PrintWords Go.Proofs.YtlbhighbhchdmaaW.PrintLast Go.Proofs.YtlbhighbhchdmaaW.PrintMore
attribute [local go_sem] max2_int min2_int max_two min_two max_three min_three max_four min_four   -- for this text's walks alone
set_option linter.unusedVariables false
set_option linter.unusedSimpArgs false

/-! ### wigeonref01_Join: function 54 -/
mutual
def wigeonref01_Join.l0 : Nat → List (S79) → List (S79) → Option ((List (S79)) × Int)
 | 0, _, _ => none
 | k + 1, x5, x6 => if (x5.length : Int) > 0 then (wigeonref01_Join.l1 k x5 x6 0 1) else (some (x6, 0))
def wigeonref01_Join.l1 : Nat → List (S79) → List (S79) → Int → Int → Option ((List (S79)) × Int)
 | 0, _, _, _, _ => none
 | k + 1, x5, x6, x7, x8 => if x8 < (x5.length : Int) then (if 0 ≤ x8 then (if 0 ≤ x7 then (if x7 < (x5.length : Int) then ((wigeonref01_before.f ((rd_T79 x5 x8).f0) ((rd_T79 x5 x8).f1) ((rd_T79 x5 x8).f2) ((rd_T79 x5 x7).f0) ((rd_T79 x5 x7).f1) ((rd_T79 x5 x7).f2)).bind fun t652 => (if t652 = true then (wigeonref01_Join.l1 k x5 x6 x8 (wrap64 (x8 + 1))) else (wigeonref01_Join.l1 k x5 x6 x7 (wrap64 (x8 + 1))))) else (none)) else (none)) else (none)) else (if 0 ≤ x7 then (if x7 < (x5.length : Int) then (if x7 ≤ (x5.length : Int) then ((some (x5.take (x7 : Int).toNat : List (S79))).bind fun y655 => (if ([] : List (S79)).length + y655.length < 4398046511104 then ((some (([] : List (S79)) ++ y655 : List (S79))).bind fun y659 => (if 0 ≤ (wrap64 (x7 + 1)) then (if (wrap64 (x7 + 1)) ≤ (x5.length : Int) then ((some (x5.drop ((wrap64 (x7 + 1)) : Int).toNat : List (S79))).bind fun y662 => (if y659.length + y662.length < 4398046511104 then ((some (y659 ++ y662 : List (S79))).bind fun y666 => (if (x6.length : Int) > 0 then (if 0 ≤ (wrap64 ((x6.length : Int) - 1)) then (if (wrap64 ((x6.length : Int) - 1)) < (x6.length : Int) then (if ((rd_T79 x6 (wrap64 ((x6.length : Int) - 1))).f0).toList = ((rd_T79 x5 x7).f0).toList then (if (wrap64 (((rd_T79 x6 (wrap64 ((x6.length : Int) - 1))).f2) + 1)) = ((rd_T79 x5 x7).f1) then (wigeonref01_Join.l0 k y666 (x6.set ((wrap64 ((x6.length : Int) - 1)) : Int).toNat (⟨(rd_T79 x6 (wrap64 ((x6.length : Int) - 1))).f0, (rd_T79 x6 (wrap64 ((x6.length : Int) - 1))).f1, (rd_T79 x5 x7).f2⟩ : S79))) else (if x6.length < 4398046511104 then (wigeonref01_Join.l0 k y666 (x6 ++ [(⟨(rd_T79 x5 x7).f0, (rd_T79 x5 x7).f1, (rd_T79 x5 x7).f2⟩ : S79)])) else (none))) else (if x6.length < 4398046511104 then (wigeonref01_Join.l0 k y666 (x6 ++ [(⟨(rd_T79 x5 x7).f0, (rd_T79 x5 x7).f1, (rd_T79 x5 x7).f2⟩ : S79)])) else (none))) else (none)) else (none)) else (if x6.length < 4398046511104 then (wigeonref01_Join.l0 k y666 (x6 ++ [(⟨(rd_T79 x5 x7).f0, (rd_T79 x5 x7).f1, (rd_T79 x5 x7).f2⟩ : S79)])) else (none)))) else (none))) else (none)) else (none))) else (none))) else (none)) else (none)) else (none))
end
def wigeonref01_Join.f (k : Nat) (l0 : List (S79)) : Option ((List (S79)) × Int) := (wigeonref01_ValidateBlocks.f k l0).bind fun t643 => (if t643 = 0 then ((some (([] : List (S79)) : List (S79))).bind fun y644 => (if y644.length + l0.length < 4398046511104 then (wigeonref01_Join.l0 k (y644 ++ l0) ([] : List (S79))) else (none))) else (some (([] : List (S79)), t643)))
theorem wigeonref01_Join.mono_l : ∀ k, (∀ y0 y1, LeO (wigeonref01_Join.l0 k y0 y1) (wigeonref01_Join.l0 (k + 1) y0 y1)) ∧ (∀ y0 y1 y2 y3, LeO (wigeonref01_Join.l1 k y0 y1 y2 y3) (wigeonref01_Join.l1 (k + 1) y0 y1 y2 y3))
 | 0 => ⟨fun _ _ r h => by simp [wigeonref01_Join.l0] at h, fun _ _ _ _ r h => by simp [wigeonref01_Join.l1] at h⟩
 | k + 1 => by
  obtain ⟨ih0, ih1⟩ := wigeonref01_Join.mono_l k
  refine ⟨?_, ?_⟩
  ·intro y0 y1
   unfold wigeonref01_Join.l0
   repeat' first
   | (with_reducible exact ih0 _ _)
   | (with_reducible exact ih1 _ _ _ _)
   | (with_reducible exact wigeonref01_ValidateBlocks.mono _ _)
   | (with_reducible exact LeO.refl _)
   | (with_reducible exact LeO.none _)
   | (with_reducible refine LeO.ite ?_ ?_)
   | (with_reducible refine LeO.bind ?_ (fun _ => ?_))
   | exact ih0 _ _
   | exact ih1 _ _ _ _
   | exact wigeonref01_ValidateBlocks.mono _ _
   | exact LeO.none _
   | refine LeO.ite ?_ ?_
   | refine LeO.bind ?_ (fun _ => ?_)
  ·intro y0 y1 y2 y3
   unfold wigeonref01_Join.l1
   repeat' first
   | (with_reducible exact ih0 _ _)
   | (with_reducible exact ih1 _ _ _ _)
   | (with_reducible exact wigeonref01_ValidateBlocks.mono _ _)
   | (with_reducible exact LeO.refl _)
   | (with_reducible exact LeO.none _)
   | (with_reducible refine LeO.ite ?_ ?_)
   | (with_reducible refine LeO.bind ?_ (fun _ => ?_))
   | exact ih0 _ _
   | exact ih1 _ _ _ _
   | exact wigeonref01_ValidateBlocks.mono _ _
   | exact LeO.none _
   | refine LeO.ite ?_ ?_
   | refine LeO.bind ?_ (fun _ => ?_)
theorem wigeonref01_Join.mono : ∀ a0 k, LeO (wigeonref01_Join.f k a0) (wigeonref01_Join.f (k + 1) a0) := by
 intro a0 k
 obtain ⟨ih0, ih1⟩ := wigeonref01_Join.mono_l k
 unfold wigeonref01_Join.f
 repeat' first
   | (with_reducible exact ih0 _ _)
   | (with_reducible exact ih1 _ _ _ _)
   | (with_reducible exact wigeonref01_ValidateBlocks.mono _ _)
   | (with_reducible exact LeO.refl _)
   | (with_reducible exact LeO.none _)
   | (with_reducible refine LeO.ite ?_ ?_)
   | (with_reducible refine LeO.bind ?_ (fun _ => ?_))
   | exact ih0 _ _
   | exact ih1 _ _ _ _
   | exact wigeonref01_ValidateBlocks.mono _ _
   | exact LeO.none _
   | refine LeO.ite ?_ ?_
   | refine LeO.bind ?_ (fun _ => ?_)
def wigeonref01_Join.T11 : Bool × List (List Nat × List Nat) := (true, [([], []), ([], []), ([0, 1], [0, 1]), ([2], [2]), ([], []), ([], []), ([4, 5], [4, 5]), ([6], [6]), ([3, 7], [3, 7])])
def wigeonref01_Join.B11 : List Nat := [0, 0, 3, 7, 0, 0, 48, 112, 255]
theorem wigeonref01_Join.tab11 : rtab .any (opsOf Try.f54 11) = wigeonref01_Join.T11 := by kernel_rfl
theorem wigeonref01_Join.bits11 : waitsOk wigeonref01_Join.T11.2 wigeonref01_Join.B11 = true := by kernel_rfl
def wigeonref01_Join.T19 : Bool × List (List Nat × List Nat) := (true, [([], []), ([0], [0]), ([1], [1]), ([2], [2]), ([2], [2]), ([4, 2], [2, 4]), ([3, 5, 2], [2, 3, 5]), ([6, 2], [2, 6]), ([7, 2], [2, 7]), ([2], [2]), ([9, 2], [2, 9]), ([8, 10, 2], [2, 8, 10]), ([2, 11], [2, 11]), ([12, 2], [12]), ([13], [13]), ([13], [13]), ([15, 13], [13, 15]), ([14, 16, 13], [13, 14, 16]), ([17, 13], [13, 17]), ([18, 13], [13, 18]), ([19, 13], [13, 19]), ([13], [13]), ([21, 13], [13, 21]), ([20, 22, 13], [13, 20, 22]), ([13, 23], [13, 23])])
def wigeonref01_Join.B19 : List Nat := [0, 1, 3, 7, 7, 23, 63, 127, 255, 7, 519, 2047, 4095, 8191, 16383, 16383, 49151, 131071, 262143, 524287, 1048575, 16383, 2113535, 8388607, 16777215]
theorem wigeonref01_Join.tab19 : rtab .any (opsOf Try.f54 19) = wigeonref01_Join.T19 := by kernel_rfl
theorem wigeonref01_Join.bits19 : waitsOk wigeonref01_Join.T19.2 wigeonref01_Join.B19 = true := by kernel_rfl
set_option maxHeartbeats 8000000 in
set_option maxRecDepth 100000 in
theorem wigeonref01_Join.calls (k : Nat) (A0 : Option Addr) (c0 : Nat) (l0 : List (S79)) (r1 : List (S79)) (r2 : Int) (w : World) (hr0 : Kd.C k79 w A0 l0.length l0) (hc0 : l0.length ≤ c0) (h : wigeonref01_Join.f k l0 = some (r1, r2)) :
  Calls Try.prog 54 #[.slice A0 l0.length c0] w fun e w' => ∃ v0_ : Value, e = .returned (.tuple #[v0_, .int .i64 r2]) ∧ Kd.R k79 79 w' w.heap.size (fun _ => True) v0_ r1 ∧ Below w.heap.size w w' := by
 have hu79 := Try.underlying79
 have HR0 := Aside0.mk hr0
 have HC0 := Aside0.mk hc0
 clear hr0 hc0
 have HB := Aside0.mk (Below.refl w.heap.size w)
 have H : ((wigeonref01_ValidateBlocks.f k l0).bind fun t643 => (if t643 = 0 then ((some (([] : List (S79)) : List (S79))).bind fun y644 => (if y644.length + l0.length < 4398046511104 then (wigeonref01_Join.l0 k (y644 ++ l0) ([] : List (S79))) else (none))) else (some (([] : List (S79)), t643)))) = some (r1, r2) := h
 clear h
 replace H := Option.bind_eq_some_iff.mp H
 obtain ⟨t643, A20, H⟩ := H
 replace H : (if t643 = 0 then ((some (([] : List (S79)) : List (S79))).bind fun y644 => (if y644.length + l0.length < 4398046511104 then (wigeonref01_Join.l0 k (y644 ++ l0) ([] : List (S79))) else (none))) else (some (([] : List (S79)), t643))) = some (r1, r2) := H
 have A2 := Aside0.mk A20
 clear A20
 by_cases c3 : t643 = 0
 ·rw [if_pos c3] at H
  have c3b0 : (t643 == 0) = true := beq_iff_eq.mpr c3
  have c3b1 : (t643 != 0) = false := bne_eq_false_iff_eq.mpr c3
  clear c3
  obtain ⟨y644, hy644⟩ : ∃ y_ : List (S79), y_ = (([] : List (S79))) := ⟨_, rfl⟩
  replace H : (if y644.length + l0.length < 4398046511104 then (wigeonref01_Join.l0 k (y644 ++ l0) ([] : List (S79))) else (none)) = some (r1, r2) := by first | (rw [hy644]; with_reducible exact H) | (have H2_ := (Option.bind_some _ _).symm.trans H; rw [hy644]; with_reducible exact H2_) | (have H2_ := (Option.bind_some _ _).symm.trans H; with_reducible exact H2_) | with_reducible exact H | (rw [hy644]; exact H) | exact H
  have Ny644 := Aside0.mk hy644
  clear hy644
  by_cases c4 : y644.length + l0.length < 4398046511104
  ·rw [if_pos c4] at H
   have LMc4 := Aside0.mk c4
   clear c4
   obtain ⟨y647, hy647⟩ : ∃ y_ : List (S79), y_ = (y644 ++ l0) := ⟨_, rfl⟩
   replace H : (wigeonref01_Join.l0 k y647 ([] : List (S79))) = some (r1, r2) := by first | (rw [hy647]; with_reducible exact H) | (have H2_ := (Option.bind_some _ _).symm.trans H; rw [hy647]; with_reducible exact H2_) | (have H2_ := (Option.bind_some _ _).symm.trans H; with_reducible exact H2_) | with_reducible exact H | (rw [hy647]; exact H) | exact H
   have Ny647 := Aside0.mk hy647
   clear hy647
   have H' := Aside0.mk H
   clear H
   go_enter Try.func54, Try.ntmps54
   go_wp2_with (first | ((with_reducible refine gate_callee (f := 47) rfl ?_); refine goesL_ (some 13) rfl rfl Try.func47 (by kernel_rfl) rfl #[.slice A0 l0.length c0] rfl (by (try simp only [List.map_toArray, List.map_cons, List.map_nil]); first | done | rfl | (simp only [List.length_drop, List.length_take]; rfl)) ?_; (with_reducible refine (wigeonref01_ValidateBlocks.calls k _ _ l0 t643 _ ?side1 ?side2 A2.out).mono ?_); (case side1 => repeat (first | exact HR0.out | (with_reducible refine Kd.C_alloc ?_ _) | (with_reducible refine Kd.C_drewN ?_ _) | (with_reducible refine Kd.C_drew ?_))); (case side2 => exact HC0.out); rintro e w' ⟨rfl, ⟨nd, rfl⟩⟩; refine ⟨_, rfl, ?_⟩) | ((with_reducible refine gate_dst (N := 17) rfl ?_); refine Kd.R_lit k79 _ 79 ?hg (N := 17) ?hd (xs := ([] : List (S79))) (inner := []) (ok := fun _ => True) (okp := fun _ => True) ?hr ?hp (fun _ hk => hk) trivial (Below.refl _ _) (Nat.le_refl _) (by simp) ?_; (case hd => rfl); (case hg => rfl); (case hr => first | (go_simp; done) | (go_simp; rfl)); (case hp => exact (Reps.none _ _)); intro v645 w5 ho6 hb hg_ hnew_; clear hg_ hnew_; (first | rw [← Ny644.out] at ho6 | (simp only [Int.reduceToNat] at ho6; rw [← Ny644.out] at ho6)); have n0_ := Aside0.mk (Kd.R_lower ho6 (below_size (by repeat (first | (with_reducible first | exact HB.out | apply below_alloc | apply pw_below_drewN | apply below_drew1) | exact HB.out)))); have n1_ := Aside0.mk (below_step (by repeat (first | (with_reducible first | exact HB.out | apply below_alloc | apply pw_below_drewN | apply below_drew1) | exact HB.out)) hb); clear HB; have HO646 := n0_; have HB := n1_; clear n0_ n1_; clear hb ho6) | ((with_reducible refine gate_builtin (b := .append) (xs := #[.tmp 17, .tmp 18]) rfl ?_); at_builtin; refine Kd.R_append_rows k79 (w0 := w) w.heap.size rfl (.tmp 17) (.tmp 18) 48 79 (.agg #[(.string ⟨#[]⟩), (.int .i64 0), (.int .i64 0)]) 32 rfl Try.underlying48 info79 rfl (by decide) (by omega) v645 y644 l0 _ _ _ (fun _ => True) (fun _ => False) rfl rfl ?aO ?aR (fun _ _ h => h) (fun _ h => h.elim) ?aF ?aB ?aS ?aL ?_; (case aR => repeat (first | exact (Kd.C_below HR0.out HB.out) | (with_reducible refine Kd.C_alloc ?_ _) | (with_reducible refine Kd.C_drewN ?_ _) | (with_reducible refine Kd.C_drew ?_))); (case aB => exact (by repeat (first | (with_reducible first | exact HB.out | apply below_alloc | apply pw_below_drewN | apply below_drew1) | exact HB.out))); (case aF => exact (fun _ _ => trivial)); (case aO => exact (by (with_reducible repeat (first | apply Kd.R_alloc | apply Kd.R_drewN | apply Kd.R_drew)); exact HO646.out)); (case aS => exact (below_size (by repeat (first | (with_reducible first | exact HB.out | apply below_alloc | apply pw_below_drewN | apply below_drew1) | exact HB.out)))); (case aL => have := LMc4.out; omega); intro v648 w7 ho hb hg hat; rw [← Ny647.out] at ho; have n0_ := Aside0.mk (hb); have n1_ := Aside0.mk (ho); clear HB; clear HO646; have HB := n0_; have HO649 := n1_; clear n0_ n1_; clear ho hb hg hat))
   go_loopg [5, 6] k (fun kq v5 v6 w' => ∃ (x5_1 : List (S79)) (x6_1 : List (S79)), Aside0 (wigeonref01_Join.l0 kq x5_1 x6_1 = some (r1, r2)) ∧ Aside0 (kq ≤ k) ∧ Aside0 (Kd.R k79 79 w' w.heap.size (fun k_ => some k_ ≠ (v6 : Value).ownBlock) v5 x5_1) ∧ Aside0 (Kd.R k79 79 w' w.heap.size (fun k_ => some k_ ≠ (v5 : Value).ownBlock) v6 x6_1) ∧ Aside0 (Below w.heap.size w w'))
   case atStart => exact ⟨(y647), (([] : List (S79))), H', ⟨Nat.le_refl _⟩, ⟨by (with_reducible repeat (first | apply Kd.R_alloc | apply Kd.R_drewN | apply Kd.R_drew)); exact Kd.R_mono HO649.out (fun _ hk => (by simp [Value.ownBlock]))⟩, ⟨by first | exact Kd.R_nil _ _ _ _ _ | exact Kd.N_nil _ _ _ _ _ | exact Kd.V_nil _ _ _ _ _ | exact Kd.Q_nil _ _ _ _ _ | exact Kd.S_nil _ _ _ _ _⟩, ⟨by repeat (first | (with_reducible first | exact HB.out | apply below_alloc | apply pw_below_drewN | apply below_drew1) | exact HB.out)⟩⟩
   case round =>
    clear H'
    try clear p2
    try clear c3
    try clear c3b0
    try clear c3b1
    try clear c4
    try clear c5
    obtain ⟨x5_1, x6_1, HA, HK1, HO_5, HO_6, HB⟩ := hrel
    cases gk with
    | zero => exact absurd HA.out (by simp [wigeonref01_Join.l0])
    | succ k1 =>
     have H := HA.out
     clear HA
     simp only [wigeonref01_Join.l0] at H
     by_cases c8 : (x5_1.length : Int) > 0
     ·rw [if_pos c8] at H
      have c8b0 : decide (0 < (x5_1.length : Int)) = true := decide_eq_true c8
      have c8b1 : decide (0 < x5_1.length) = true := decide_eq_true (by omega)
      clear c8
      have H' := Aside0.mk H
      clear H
      obtain ⟨Ao9, co9, eo9⟩ := Kd.R_slice HO_5.out
      subst eo9
      go_wp2
      go_loopg [7, 8] k1 (fun kq v7 v8 w' => ∃ (x7_2 : Int) (x8_2 : Int), v7 = .int .i64 x7_2 ∧ v8 = .int .i64 x8_2 ∧ Aside0 (wigeonref01_Join.l1 kq x5_1 x6_1 x7_2 x8_2 = some (r1, r2)) ∧ Aside0 (kq ≤ k1) ∧ Aside0 (Kd.R k79 79 w' w.heap.size (fun k_ => some k_ ≠ (u6 : Value).ownBlock) (.slice Ao9 x5_1.length co9) x5_1) ∧ Aside0 (Kd.R k79 79 w' w.heap.size (fun k_ => some k_ ≠ ((.slice Ao9 x5_1.length co9) : Value).ownBlock) u6 x6_1) ∧ Aside0 (Below w.heap.size w w'))
      case atStart => exact ⟨(0), (1), (by first | rfl | (simp; done) | (simp [*]; done)), (by first | rfl | (simp; done) | (simp [*]; done)), H', ⟨Nat.le_refl _⟩, ⟨by (with_reducible repeat (first | apply Kd.R_alloc | apply Kd.R_drewN | apply Kd.R_drew)); exact HO_5.out⟩, ⟨by (with_reducible repeat (first | apply Kd.R_alloc | apply Kd.R_drewN | apply Kd.R_drew)); exact HO_6.out⟩, ⟨by repeat (first | (with_reducible first | exact HB.out | apply below_alloc | apply pw_below_drewN | apply below_drew1) | exact HB.out)⟩⟩
      case round =>
       clear H'
       try clear p2
       try clear c3
       try clear c3b0
       try clear c3b1
       try clear c4
       try clear c5
       try clear c8
       try clear c8b0
       try clear c8b1
       try clear p2
       obtain ⟨x7_2, x8_2, rfl, rfl, HA, HK2, HO_5, HO_6, HB⟩ := hrel
       cases gk with
       | zero => exact absurd HA.out (by simp [wigeonref01_Join.l1])
       | succ k2 =>
        have H := HA.out
        clear HA
        simp only [wigeonref01_Join.l1] at H
        by_cases c10 : x8_2 < (x5_1.length : Int)
        ·rw [if_pos c10] at H
         have c10b0 : decide (x8_2 < (x5_1.length : Int)) = true := decide_eq_true c10
         clear c10
         by_cases c11 : 0 ≤ x8_2
         ·rw [if_pos c11] at H
          have c11b0 : decide (0 ≤ x8_2) = true := decide_eq_true c11
          clear c11
          by_cases c12 : 0 ≤ x7_2
          ·rw [if_pos c12] at H
           have c12b0 : decide (0 ≤ x7_2) = true := decide_eq_true c12
           clear c12
           by_cases c13 : x7_2 < (x5_1.length : Int)
           ·rw [if_pos c13] at H
            have c13b0 : decide (x7_2 < (x5_1.length : Int)) = true := decide_eq_true c13
            clear c13
            replace H := Option.bind_eq_some_iff.mp H
            obtain ⟨t652, A140, H⟩ := H
            replace H : (if t652 = true then (wigeonref01_Join.l1 k2 x5_1 x6_1 x8_2 (wrap64 (x8_2 + 1))) else (wigeonref01_Join.l1 k2 x5_1 x6_1 x7_2 (wrap64 (x8_2 + 1)))) = some (r1, r2) := H
            have A14 := Aside0.mk A140
            clear A140
            by_cases c15 : t652 = true
            ·subst c15
             have H1 : (wigeonref01_Join.l1 k2 x5_1 x6_1 x8_2 (wrap64 (x8_2 + 1))) = some (r1, r2) := by rw [if_pos rfl] at H; exact H
             clear H
             have H := H1
             clear H1
             have H' := Aside0.mk H
             clear H
             try go_wp2
             have n0_ := Aside0.mk (Kd.R_drew HO_5.out)
             have n1_ := Aside0.mk (Kd.R_drew HO_6.out)
             have n2_ := Aside0.mk (below_drew1 HB.out)
             clear HO_5
             clear HO_6
             clear HB
             have HO_5 := n0_
             have HO_6 := n1_
             have HB := n2_
             clear n0_ n1_ n2_
             have p650 : 0 ≤ (x8_2 : Int) := of_decide_eq_true (by first | (with_reducible assumption) | assumption)
             have q650 : x8_2 < (x5_1.length : Int) := of_decide_eq_true (by first | (with_reducible assumption) | assumption)
             obtain ⟨ad650, e650, hx650_0, hx650_1, hx650_2⟩ := at_T79 (Kd.R_reads' HO_5.out).2.2 x8_2 p650 q650
             cases e650
             replace p650 := eq_true p650
             replace q650 := eq_true q650
             have p651 : 0 ≤ (x7_2 : Int) := of_decide_eq_true (by first | (with_reducible assumption) | assumption)
             have q651 : x7_2 < (x5_1.length : Int) := of_decide_eq_true (by first | (with_reducible assumption) | assumption)
             obtain ⟨ad651, e651, hx651_0, hx651_1, hx651_2⟩ := at_T79 (Kd.R_reads' HO_5.out).2.2 x7_2 p651 q651
             obtain rfl : ad650 = ad651 := (by injection e651)
             replace p651 := eq_true p651
             replace q651 := eq_true q651
             refine start_ (n := 9) (S := fun w' => w'.cell? (ad650.add ((x8_2).toNat * 3)) = some (.string ((rd_T79 x5_1 x8_2).f0)) ∧ w'.cell? ⟨(ad650.add ((x8_2).toNat * 3)).block, (ad650.add ((x8_2).toNat * 3)).off + 1, none⟩ = some (.int .i64 ((rd_T79 x5_1 x8_2).f1)) ∧ w'.cell? ⟨(ad650.add ((x8_2).toNat * 3)).block, (ad650.add ((x8_2).toNat * 3)).off + 2, none⟩ = some (.int .i64 ((rd_T79 x5_1 x8_2).f2)) ∧ w'.cell? (ad650.add ((x7_2).toNat * 3)) = some (.string ((rd_T79 x5_1 x7_2).f0)) ∧ w'.cell? ⟨(ad650.add ((x7_2).toNat * 3)).block, (ad650.add ((x7_2).toNat * 3)).off + 1, none⟩ = some (.int .i64 ((rd_T79 x5_1 x7_2).f1)) ∧ w'.cell? ⟨(ad650.add ((x7_2).toNat * 3)).block, (ad650.add ((x7_2).toNat * 3)).off + 2, none⟩ = some (.int .i64 ((rd_T79 x5_1 x7_2).f2))) (ds := []) #[false, false, false, false, false, false, false, false, false] (by kernel_rfl) rfl rfl ⟨hx650_0, hx650_1, hx650_2, hx651_0, hx651_1, hx651_2⟩ (fun hHeld => ?_); refine with_tabW wigeonref01_Join.tab11 wigeonref01_Join.bits11 (fun HT_ HW_ => ?_)
             generalize wr.drew = w16 at HO_5 HO_6 HB hx650_0 hx650_1 hx650_2 hx651_0 hx651_1 hx651_2 hHeld ⊢
             refine pure_ (i := 0) (N := some 29) (v := ?_) (a' := ?_) #[true, false, false, false, false, false, false, false, false] rfl rfl (any_of HT_.out (by kernel_rfl)) (fun _ _ _ h => h) (Or.inl ⟨by rfl, ?_⟩) ?_ ?_
             rotate_left
             ·intro w'
              go_simp
              with_reducible rfl
             rotate_left
             ·simp only [Act.put, List.setIfInBounds_toArray, List.set_cons_zero, List.set_cons_succ, i64_w, i32_w]
              rfl
             refine pure_ (i := 1) (N := some 30) (v := ?_) (a' := ?_) #[true, true, false, false, false, false, false, false, false] rfl rfl (any_of HT_.out (by kernel_rfl)) (fun _ _ _ h => h) (Or.inl ⟨by rfl, ?_⟩) ?_ ?_
             rotate_left
             ·intro w'
              go_simp
              with_reducible rfl
             rotate_left
             ·simp only [Act.put, List.setIfInBounds_toArray, List.set_cons_zero, List.set_cons_succ, i64_w, i32_w]
              rfl
             refine pure_ (i := 2) (N := some 31) (v := ?_) (a' := ?_) #[true, true, true, false, false, false, false, false, false] rfl rfl (any_of HT_.out (by kernel_rfl)) (fun _ _ _ h => h) (Or.inl ⟨by rfl, ?_⟩) ?_ ?_
             rotate_left
             ·intro w'
              go_simp
              with_reducible rfl
             rotate_left
             ·simp only [Act.put, List.setIfInBounds_toArray, List.set_cons_zero, List.set_cons_succ, i64_w, i32_w]
              rfl
             refine pure_ (i := 4) (N := some 33) (v := ?_) (a' := ?_) #[true, true, true, false, true, false, false, false, false] rfl rfl (any_of HT_.out (by kernel_rfl)) (fun _ _ _ h => h) (Or.inl ⟨by rfl, ?_⟩) ?_ ?_
             rotate_left
             ·intro w'
              go_simp
              with_reducible rfl
             rotate_left
             ·simp only [Act.put, List.setIfInBounds_toArray, List.set_cons_zero, List.set_cons_succ, i64_w, i32_w]
              rfl
             refine pure_ (i := 5) (N := some 34) (v := ?_) (a' := ?_) #[true, true, true, false, true, true, false, false, false] rfl rfl (any_of HT_.out (by kernel_rfl)) (fun _ _ _ h => h) (Or.inl ⟨by rfl, ?_⟩) ?_ ?_
             rotate_left
             ·intro w'
              go_simp
              with_reducible rfl
             rotate_left
             ·simp only [Act.put, List.setIfInBounds_toArray, List.set_cons_zero, List.set_cons_succ, i64_w, i32_w]
              rfl
             refine pure_ (i := 6) (N := some 35) (v := ?_) (a' := ?_) #[true, true, true, false, true, true, true, false, false] rfl rfl (any_of HT_.out (by kernel_rfl)) (fun _ _ _ h => h) (Or.inl ⟨by rfl, ?_⟩) ?_ ?_
             rotate_left
             ·intro w'
              go_simp
              with_reducible rfl
             rotate_left
             ·simp only [Act.put, List.setIfInBounds_toArray, List.set_cons_zero, List.set_cons_succ, i64_w, i32_w]
              rfl
             refine take_ (i := 3) (N := some 32) (v := ?_) (a' := ?_) #[true, true, true, true, true, true, true, false, false] rfl rfl (take_ofW HT_.out HW_.out (by kernel_rfl)) (fun _ _ _ h => h) (Or.inl ⟨by rfl, ?_⟩) hHeld ?_ ?_
             rotate_left
             ·rintro w' ⟨s0, s1, s2, s3, s4, s5⟩
              go_simp
              with_reducible rfl
             rotate_left
             ·simp only [Act.put, List.setIfInBounds_toArray, List.set_cons_zero, List.set_cons_succ, i64_w, i32_w]
              rfl
             refine take_ (i := 7) (N := some 36) (v := ?_) (a' := ?_) #[true, true, true, true, true, true, true, true, false] rfl rfl (take_ofW HT_.out HW_.out (by kernel_rfl)) (fun _ _ _ h => h) (Or.inl ⟨by rfl, ?_⟩) hHeld ?_ ?_
             rotate_left
             ·rintro w' ⟨s0, s1, s2, s3, s4, s5⟩
              go_simp
              with_reducible rfl
             rotate_left
             ·simp only [Act.put, List.setIfInBounds_toArray, List.set_cons_zero, List.set_cons_succ, i64_w, i32_w]
              rfl
             refine one_ (i := 8) (N := some 37) #[true, true, true, true, true, true, true, true, true] rfl rfl (one_of HT_.out (by kernel_rfl)) (by decide) (fun K hK => ?_)
             refine goes_ Try.func94 (by kernel_rfl) rfl #[.agg #[.string ((rd_T79 x5_1 x8_2).f0), .int .i64 ((rd_T79 x5_1 x8_2).f1), .int .i64 ((rd_T79 x5_1 x8_2).f2)], .agg #[.string ((rd_T79 x5_1 x7_2).f0), .int .i64 ((rd_T79 x5_1 x7_2).f1), .int .i64 ((rd_T79 x5_1 x7_2).f2)]] (by rfl) rfl rfl (by (try simp only [List.map_toArray, List.map_cons, List.map_nil]); first | done | rfl | (simp only [List.length_drop, List.length_take]; rfl)) ?_
             with_reducible refine (wigeonref01_before.calls ((rd_T79 x5_1 x8_2).f0) ((rd_T79 x5_1 x8_2).f1) ((rd_T79 x5_1 x8_2).f2) ((rd_T79 x5_1 x7_2).f0) ((rd_T79 x5_1 x7_2).f1) ((rd_T79 x5_1 x7_2).f2) true _ A14.out).mono ?_
             rintro e w17 ⟨rfl, hb⟩
             have HS0_ := (hb.cell (World.block_lt_of_cell? _ _ (hHeld.1))).trans (hHeld.1)
             have HS1_ := (hb.cell (World.block_lt_of_cell? _ _ (hHeld.2.1))).trans (hHeld.2.1)
             have HS2_ := (hb.cell (World.block_lt_of_cell? _ _ (hHeld.2.2.1))).trans (hHeld.2.2.1)
             have HS3_ := (hb.cell (World.block_lt_of_cell? _ _ (hHeld.2.2.2.1))).trans (hHeld.2.2.2.1)
             have HS4_ := (hb.cell (World.block_lt_of_cell? _ _ (hHeld.2.2.2.2.1))).trans (hHeld.2.2.2.2.1)
             have HS5_ := (hb.cell (World.block_lt_of_cell? _ _ (hHeld.2.2.2.2.2))).trans (hHeld.2.2.2.2.2)
             refine ⟨_, rfl, ?_⟩
             have n0_ := Aside0.mk (Kd.R_below (by (with_reducible repeat (first | apply Kd.R_alloc | apply Kd.R_drewN | apply Kd.R_drew)); exact HO_5.out) hb)
             have n1_ := Aside0.mk (Kd.R_below (by (with_reducible repeat (first | apply Kd.R_alloc | apply Kd.R_drewN | apply Kd.R_drew)); exact HO_6.out) hb)
             have n2_ := Aside0.mk (below_step (by repeat (first | (with_reducible first | exact HB.out | apply below_alloc | apply pw_below_drewN | apply below_drew1) | exact HB.out)) hb)
             clear HO_5
             clear HO_6
             clear HB
             have HO_5 := n0_
             have HO_6 := n1_
             have HB := n2_
             clear n0_ n1_ n2_
             (try clear hb)
             (try clear hb2)
             (try clear hk)
             (try clear hi)
             refine hK.out _ _ ⟨HS0_, HS1_, HS2_, HS3_, HS4_, HS5_⟩ (fun hHeld => ?_)
             clear hK K
             refine norm_ (a' := ?_) ?_ ?_
             rotate_left
             ·show Act.put _ (some 37) _ = _
              simp only [Act.put, List.setIfInBounds_toArray, List.set_cons_zero, List.set_cons_succ, i64_w, i32_w]
              rfl
             refine done_ (done_of HT_.out (by kernel_rfl)) ?_
             try go_wp2
             go_roundg k2
             case measure => have := HK1.out; have := HK2.out; omega
             case rel => exact ⟨(x8_2), (wrap64 (x8_2 + 1)), (by first | rfl | (simp; done) | (simp [*]; done)), (by first | rfl | (simp; done) | (simp [*]; done)), H', ⟨by have := HK1.out; have := HK2.out; omega⟩, ⟨by (with_reducible repeat (first | apply Kd.R_alloc | apply Kd.R_drewN | apply Kd.R_drew)); exact HO_5.out⟩, ⟨by (with_reducible repeat (first | apply Kd.R_alloc | apply Kd.R_drewN | apply Kd.R_drew)); exact HO_6.out⟩, ⟨by repeat (first | (with_reducible first | exact HB.out | apply below_alloc | apply pw_below_drewN | apply below_drew1) | exact HB.out)⟩⟩
            ·replace c15 := Bool.eq_false_iff.mpr c15
             subst c15
             have H1 : (wigeonref01_Join.l1 k2 x5_1 x6_1 x7_2 (wrap64 (x8_2 + 1))) = some (r1, r2) := by rw [if_neg (show ¬ (false = true) by decide)] at H; exact H
             clear H
             have H := H1
             clear H1
             have H' := Aside0.mk H
             clear H
             try go_wp2
             have n0_ := Aside0.mk (Kd.R_drew HO_5.out)
             have n1_ := Aside0.mk (Kd.R_drew HO_6.out)
             have n2_ := Aside0.mk (below_drew1 HB.out)
             clear HO_5
             clear HO_6
             clear HB
             have HO_5 := n0_
             have HO_6 := n1_
             have HB := n2_
             clear n0_ n1_ n2_
             have p650 : 0 ≤ (x8_2 : Int) := of_decide_eq_true (by first | (with_reducible assumption) | assumption)
             have q650 : x8_2 < (x5_1.length : Int) := of_decide_eq_true (by first | (with_reducible assumption) | assumption)
             obtain ⟨ad650, e650, hx650_0, hx650_1, hx650_2⟩ := at_T79 (Kd.R_reads' HO_5.out).2.2 x8_2 p650 q650
             cases e650
             replace p650 := eq_true p650
             replace q650 := eq_true q650
             have p651 : 0 ≤ (x7_2 : Int) := of_decide_eq_true (by first | (with_reducible assumption) | assumption)
             have q651 : x7_2 < (x5_1.length : Int) := of_decide_eq_true (by first | (with_reducible assumption) | assumption)
             obtain ⟨ad651, e651, hx651_0, hx651_1, hx651_2⟩ := at_T79 (Kd.R_reads' HO_5.out).2.2 x7_2 p651 q651
             obtain rfl : ad650 = ad651 := (by injection e651)
             replace p651 := eq_true p651
             replace q651 := eq_true q651
             refine start_ (n := 9) (S := fun w' => w'.cell? (ad650.add ((x8_2).toNat * 3)) = some (.string ((rd_T79 x5_1 x8_2).f0)) ∧ w'.cell? ⟨(ad650.add ((x8_2).toNat * 3)).block, (ad650.add ((x8_2).toNat * 3)).off + 1, none⟩ = some (.int .i64 ((rd_T79 x5_1 x8_2).f1)) ∧ w'.cell? ⟨(ad650.add ((x8_2).toNat * 3)).block, (ad650.add ((x8_2).toNat * 3)).off + 2, none⟩ = some (.int .i64 ((rd_T79 x5_1 x8_2).f2)) ∧ w'.cell? (ad650.add ((x7_2).toNat * 3)) = some (.string ((rd_T79 x5_1 x7_2).f0)) ∧ w'.cell? ⟨(ad650.add ((x7_2).toNat * 3)).block, (ad650.add ((x7_2).toNat * 3)).off + 1, none⟩ = some (.int .i64 ((rd_T79 x5_1 x7_2).f1)) ∧ w'.cell? ⟨(ad650.add ((x7_2).toNat * 3)).block, (ad650.add ((x7_2).toNat * 3)).off + 2, none⟩ = some (.int .i64 ((rd_T79 x5_1 x7_2).f2))) (ds := []) #[false, false, false, false, false, false, false, false, false] (by kernel_rfl) rfl rfl ⟨hx650_0, hx650_1, hx650_2, hx651_0, hx651_1, hx651_2⟩ (fun hHeld => ?_); refine with_tabW wigeonref01_Join.tab11 wigeonref01_Join.bits11 (fun HT_ HW_ => ?_)
             generalize wr.drew = w18 at HO_5 HO_6 HB hx650_0 hx650_1 hx650_2 hx651_0 hx651_1 hx651_2 hHeld ⊢
             refine pure_ (i := 0) (N := some 29) (v := ?_) (a' := ?_) #[true, false, false, false, false, false, false, false, false] rfl rfl (any_of HT_.out (by kernel_rfl)) (fun _ _ _ h => h) (Or.inl ⟨by rfl, ?_⟩) ?_ ?_
             rotate_left
             ·intro w'
              go_simp
              with_reducible rfl
             rotate_left
             ·simp only [Act.put, List.setIfInBounds_toArray, List.set_cons_zero, List.set_cons_succ, i64_w, i32_w]
              rfl
             refine pure_ (i := 1) (N := some 30) (v := ?_) (a' := ?_) #[true, true, false, false, false, false, false, false, false] rfl rfl (any_of HT_.out (by kernel_rfl)) (fun _ _ _ h => h) (Or.inl ⟨by rfl, ?_⟩) ?_ ?_
             rotate_left
             ·intro w'
              go_simp
              with_reducible rfl
             rotate_left
             ·simp only [Act.put, List.setIfInBounds_toArray, List.set_cons_zero, List.set_cons_succ, i64_w, i32_w]
              rfl
             refine pure_ (i := 2) (N := some 31) (v := ?_) (a' := ?_) #[true, true, true, false, false, false, false, false, false] rfl rfl (any_of HT_.out (by kernel_rfl)) (fun _ _ _ h => h) (Or.inl ⟨by rfl, ?_⟩) ?_ ?_
             rotate_left
             ·intro w'
              go_simp
              with_reducible rfl
             rotate_left
             ·simp only [Act.put, List.setIfInBounds_toArray, List.set_cons_zero, List.set_cons_succ, i64_w, i32_w]
              rfl
             refine pure_ (i := 4) (N := some 33) (v := ?_) (a' := ?_) #[true, true, true, false, true, false, false, false, false] rfl rfl (any_of HT_.out (by kernel_rfl)) (fun _ _ _ h => h) (Or.inl ⟨by rfl, ?_⟩) ?_ ?_
             rotate_left
             ·intro w'
              go_simp
              with_reducible rfl
             rotate_left
             ·simp only [Act.put, List.setIfInBounds_toArray, List.set_cons_zero, List.set_cons_succ, i64_w, i32_w]
              rfl
             refine pure_ (i := 5) (N := some 34) (v := ?_) (a' := ?_) #[true, true, true, false, true, true, false, false, false] rfl rfl (any_of HT_.out (by kernel_rfl)) (fun _ _ _ h => h) (Or.inl ⟨by rfl, ?_⟩) ?_ ?_
             rotate_left
             ·intro w'
              go_simp
              with_reducible rfl
             rotate_left
             ·simp only [Act.put, List.setIfInBounds_toArray, List.set_cons_zero, List.set_cons_succ, i64_w, i32_w]
              rfl
             refine pure_ (i := 6) (N := some 35) (v := ?_) (a' := ?_) #[true, true, true, false, true, true, true, false, false] rfl rfl (any_of HT_.out (by kernel_rfl)) (fun _ _ _ h => h) (Or.inl ⟨by rfl, ?_⟩) ?_ ?_
             rotate_left
             ·intro w'
              go_simp
              with_reducible rfl
             rotate_left
             ·simp only [Act.put, List.setIfInBounds_toArray, List.set_cons_zero, List.set_cons_succ, i64_w, i32_w]
              rfl
             refine take_ (i := 3) (N := some 32) (v := ?_) (a' := ?_) #[true, true, true, true, true, true, true, false, false] rfl rfl (take_ofW HT_.out HW_.out (by kernel_rfl)) (fun _ _ _ h => h) (Or.inl ⟨by rfl, ?_⟩) hHeld ?_ ?_
             rotate_left
             ·rintro w' ⟨s0, s1, s2, s3, s4, s5⟩
              go_simp
              with_reducible rfl
             rotate_left
             ·simp only [Act.put, List.setIfInBounds_toArray, List.set_cons_zero, List.set_cons_succ, i64_w, i32_w]
              rfl
             refine take_ (i := 7) (N := some 36) (v := ?_) (a' := ?_) #[true, true, true, true, true, true, true, true, false] rfl rfl (take_ofW HT_.out HW_.out (by kernel_rfl)) (fun _ _ _ h => h) (Or.inl ⟨by rfl, ?_⟩) hHeld ?_ ?_
             rotate_left
             ·rintro w' ⟨s0, s1, s2, s3, s4, s5⟩
              go_simp
              with_reducible rfl
             rotate_left
             ·simp only [Act.put, List.setIfInBounds_toArray, List.set_cons_zero, List.set_cons_succ, i64_w, i32_w]
              rfl
             refine one_ (i := 8) (N := some 37) #[true, true, true, true, true, true, true, true, true] rfl rfl (one_of HT_.out (by kernel_rfl)) (by decide) (fun K hK => ?_)
             refine goes_ Try.func94 (by kernel_rfl) rfl #[.agg #[.string ((rd_T79 x5_1 x8_2).f0), .int .i64 ((rd_T79 x5_1 x8_2).f1), .int .i64 ((rd_T79 x5_1 x8_2).f2)], .agg #[.string ((rd_T79 x5_1 x7_2).f0), .int .i64 ((rd_T79 x5_1 x7_2).f1), .int .i64 ((rd_T79 x5_1 x7_2).f2)]] (by rfl) rfl rfl (by (try simp only [List.map_toArray, List.map_cons, List.map_nil]); first | done | rfl | (simp only [List.length_drop, List.length_take]; rfl)) ?_
             with_reducible refine (wigeonref01_before.calls ((rd_T79 x5_1 x8_2).f0) ((rd_T79 x5_1 x8_2).f1) ((rd_T79 x5_1 x8_2).f2) ((rd_T79 x5_1 x7_2).f0) ((rd_T79 x5_1 x7_2).f1) ((rd_T79 x5_1 x7_2).f2) false _ A14.out).mono ?_
             rintro e w19 ⟨rfl, hb⟩
             have HS0_ := (hb.cell (World.block_lt_of_cell? _ _ (hHeld.1))).trans (hHeld.1)
             have HS1_ := (hb.cell (World.block_lt_of_cell? _ _ (hHeld.2.1))).trans (hHeld.2.1)
             have HS2_ := (hb.cell (World.block_lt_of_cell? _ _ (hHeld.2.2.1))).trans (hHeld.2.2.1)
             have HS3_ := (hb.cell (World.block_lt_of_cell? _ _ (hHeld.2.2.2.1))).trans (hHeld.2.2.2.1)
             have HS4_ := (hb.cell (World.block_lt_of_cell? _ _ (hHeld.2.2.2.2.1))).trans (hHeld.2.2.2.2.1)
             have HS5_ := (hb.cell (World.block_lt_of_cell? _ _ (hHeld.2.2.2.2.2))).trans (hHeld.2.2.2.2.2)
             refine ⟨_, rfl, ?_⟩
             have n0_ := Aside0.mk (Kd.R_below (by (with_reducible repeat (first | apply Kd.R_alloc | apply Kd.R_drewN | apply Kd.R_drew)); exact HO_5.out) hb)
             have n1_ := Aside0.mk (Kd.R_below (by (with_reducible repeat (first | apply Kd.R_alloc | apply Kd.R_drewN | apply Kd.R_drew)); exact HO_6.out) hb)
             have n2_ := Aside0.mk (below_step (by repeat (first | (with_reducible first | exact HB.out | apply below_alloc | apply pw_below_drewN | apply below_drew1) | exact HB.out)) hb)
             clear HO_5
             clear HO_6
             clear HB
             have HO_5 := n0_
             have HO_6 := n1_
             have HB := n2_
             clear n0_ n1_ n2_
             (try clear hb)
             (try clear hb2)
             (try clear hk)
             (try clear hi)
             refine hK.out _ _ ⟨HS0_, HS1_, HS2_, HS3_, HS4_, HS5_⟩ (fun hHeld => ?_)
             clear hK K
             refine norm_ (a' := ?_) ?_ ?_
             rotate_left
             ·show Act.put _ (some 37) _ = _
              simp only [Act.put, List.setIfInBounds_toArray, List.set_cons_zero, List.set_cons_succ, i64_w, i32_w]
              rfl
             refine done_ (done_of HT_.out (by kernel_rfl)) ?_
             try go_wp2
             go_roundg k2
             case measure => have := HK1.out; have := HK2.out; omega
             case rel => exact ⟨(x7_2), (wrap64 (x8_2 + 1)), (by first | rfl | (simp; done) | (simp [*]; done)), (by first | rfl | (simp; done) | (simp [*]; done)), H', ⟨by have := HK1.out; have := HK2.out; omega⟩, ⟨by (with_reducible repeat (first | apply Kd.R_alloc | apply Kd.R_drewN | apply Kd.R_drew)); exact HO_5.out⟩, ⟨by (with_reducible repeat (first | apply Kd.R_alloc | apply Kd.R_drewN | apply Kd.R_drew)); exact HO_6.out⟩, ⟨by repeat (first | (with_reducible first | exact HB.out | apply below_alloc | apply pw_below_drewN | apply below_drew1) | exact HB.out)⟩⟩
           ·rw [if_neg c13] at H
            exact absurd H (by simp)
          ·rw [if_neg c12] at H
           exact absurd H (by simp)
         ·rw [if_neg c11] at H
          exact absurd H (by simp)
        ·rw [if_neg c10] at H
         have c10b0 : decide (x8_2 < (x5_1.length : Int)) = false := decide_eq_false c10
         clear c10
         by_cases c20 : 0 ≤ x7_2
         ·rw [if_pos c20] at H
          have c20b0 : decide (0 ≤ x7_2) = true := decide_eq_true c20
          clear c20
          by_cases c21 : x7_2 < (x5_1.length : Int)
          ·rw [if_pos c21] at H
           have c21b0 : decide (x7_2 < (x5_1.length : Int)) = true := decide_eq_true c21
           clear c21
           have c22b0 := eq_true (of_decide_eq_true (by first | (with_reducible assumption) | assumption) : 0 ≤ x7_2)
           by_cases c23 : x7_2 ≤ (x5_1.length : Int)
           ·rw [if_pos c23] at H
            have c23b0 := eq_true c23
            have c23b1 : decide (x7_2 ≤ (x5_1.length : Int)) = true := decide_eq_true c23
            clear c23
            obtain ⟨y655, hy655⟩ : ∃ y_ : List (S79), y_ = (x5_1.take (x7_2 : Int).toNat) := ⟨_, rfl⟩
            replace H : (if ([] : List (S79)).length + y655.length < 4398046511104 then ((some (([] : List (S79)) ++ y655 : List (S79))).bind fun y659 => (if 0 ≤ (wrap64 (x7_2 + 1)) then (if (wrap64 (x7_2 + 1)) ≤ (x5_1.length : Int) then ((some (x5_1.drop ((wrap64 (x7_2 + 1)) : Int).toNat : List (S79))).bind fun y662 => (if y659.length + y662.length < 4398046511104 then ((some (y659 ++ y662 : List (S79))).bind fun y666 => (if (x6_1.length : Int) > 0 then (if 0 ≤ (wrap64 ((x6_1.length : Int) - 1)) then (if (wrap64 ((x6_1.length : Int) - 1)) < (x6_1.length : Int) then (if ((rd_T79 x6_1 (wrap64 ((x6_1.length : Int) - 1))).f0).toList = ((rd_T79 x5_1 x7_2).f0).toList then (if (wrap64 (((rd_T79 x6_1 (wrap64 ((x6_1.length : Int) - 1))).f2) + 1)) = ((rd_T79 x5_1 x7_2).f1) then (wigeonref01_Join.l0 k2 y666 (x6_1.set ((wrap64 ((x6_1.length : Int) - 1)) : Int).toNat (⟨(rd_T79 x6_1 (wrap64 ((x6_1.length : Int) - 1))).f0, (rd_T79 x6_1 (wrap64 ((x6_1.length : Int) - 1))).f1, (rd_T79 x5_1 x7_2).f2⟩ : S79))) else (if x6_1.length < 4398046511104 then (wigeonref01_Join.l0 k2 y666 (x6_1 ++ [(⟨(rd_T79 x5_1 x7_2).f0, (rd_T79 x5_1 x7_2).f1, (rd_T79 x5_1 x7_2).f2⟩ : S79)])) else (none))) else (if x6_1.length < 4398046511104 then (wigeonref01_Join.l0 k2 y666 (x6_1 ++ [(⟨(rd_T79 x5_1 x7_2).f0, (rd_T79 x5_1 x7_2).f1, (rd_T79 x5_1 x7_2).f2⟩ : S79)])) else (none))) else (none)) else (none)) else (if x6_1.length < 4398046511104 then (wigeonref01_Join.l0 k2 y666 (x6_1 ++ [(⟨(rd_T79 x5_1 x7_2).f0, (rd_T79 x5_1 x7_2).f1, (rd_T79 x5_1 x7_2).f2⟩ : S79)])) else (none)))) else (none))) else (none)) else (none))) else (none)) = some (r1, r2) := by first | (rw [hy655]; with_reducible exact H) | (have H2_ := (Option.bind_some _ _).symm.trans H; rw [hy655]; with_reducible exact H2_) | (have H2_ := (Option.bind_some _ _).symm.trans H; with_reducible exact H2_) | with_reducible exact H | (rw [hy655]; exact H) | exact H
            have Ny655 := Aside0.mk hy655
            clear hy655
            by_cases c24 : ([] : List (S79)).length + y655.length < 4398046511104
            ·rw [if_pos c24] at H
             have LMc24 := Aside0.mk c24
             clear c24
             obtain ⟨y659, hy659⟩ : ∃ y_ : List (S79), y_ = (([] : List (S79)) ++ y655) := ⟨_, rfl⟩
             replace H : (if 0 ≤ (wrap64 (x7_2 + 1)) then (if (wrap64 (x7_2 + 1)) ≤ (x5_1.length : Int) then ((some (x5_1.drop ((wrap64 (x7_2 + 1)) : Int).toNat : List (S79))).bind fun y662 => (if y659.length + y662.length < 4398046511104 then ((some (y659 ++ y662 : List (S79))).bind fun y666 => (if (x6_1.length : Int) > 0 then (if 0 ≤ (wrap64 ((x6_1.length : Int) - 1)) then (if (wrap64 ((x6_1.length : Int) - 1)) < (x6_1.length : Int) then (if ((rd_T79 x6_1 (wrap64 ((x6_1.length : Int) - 1))).f0).toList = ((rd_T79 x5_1 x7_2).f0).toList then (if (wrap64 (((rd_T79 x6_1 (wrap64 ((x6_1.length : Int) - 1))).f2) + 1)) = ((rd_T79 x5_1 x7_2).f1) then (wigeonref01_Join.l0 k2 y666 (x6_1.set ((wrap64 ((x6_1.length : Int) - 1)) : Int).toNat (⟨(rd_T79 x6_1 (wrap64 ((x6_1.length : Int) - 1))).f0, (rd_T79 x6_1 (wrap64 ((x6_1.length : Int) - 1))).f1, (rd_T79 x5_1 x7_2).f2⟩ : S79))) else (if x6_1.length < 4398046511104 then (wigeonref01_Join.l0 k2 y666 (x6_1 ++ [(⟨(rd_T79 x5_1 x7_2).f0, (rd_T79 x5_1 x7_2).f1, (rd_T79 x5_1 x7_2).f2⟩ : S79)])) else (none))) else (if x6_1.length < 4398046511104 then (wigeonref01_Join.l0 k2 y666 (x6_1 ++ [(⟨(rd_T79 x5_1 x7_2).f0, (rd_T79 x5_1 x7_2).f1, (rd_T79 x5_1 x7_2).f2⟩ : S79)])) else (none))) else (none)) else (none)) else (if x6_1.length < 4398046511104 then (wigeonref01_Join.l0 k2 y666 (x6_1 ++ [(⟨(rd_T79 x5_1 x7_2).f0, (rd_T79 x5_1 x7_2).f1, (rd_T79 x5_1 x7_2).f2⟩ : S79)])) else (none)))) else (none))) else (none)) else (none)) = some (r1, r2) := by first | (rw [hy659]; with_reducible exact H) | (have H2_ := (Option.bind_some _ _).symm.trans H; rw [hy659]; with_reducible exact H2_) | (have H2_ := (Option.bind_some _ _).symm.trans H; with_reducible exact H2_) | with_reducible exact H | (rw [hy659]; exact H) | exact H
             have Ny659 := Aside0.mk hy659
             clear hy659
             obtain ⟨ji25, hji25⟩ : ∃ j_ : Int, (wrap64 (x7_2 + 1)) = j_ := ⟨_, rfl⟩
             replace H : (if 0 ≤ (ji25) then (if (ji25) ≤ (x5_1.length : Int) then ((some (x5_1.drop ((ji25) : Int).toNat : List (S79))).bind fun y662 => (if y659.length + y662.length < 4398046511104 then ((some (y659 ++ y662 : List (S79))).bind fun y666 => (if (x6_1.length : Int) > 0 then (if 0 ≤ (wrap64 ((x6_1.length : Int) - 1)) then (if (wrap64 ((x6_1.length : Int) - 1)) < (x6_1.length : Int) then (if ((rd_T79 x6_1 (wrap64 ((x6_1.length : Int) - 1))).f0).toList = ((rd_T79 x5_1 x7_2).f0).toList then (if (wrap64 (((rd_T79 x6_1 (wrap64 ((x6_1.length : Int) - 1))).f2) + 1)) = ((rd_T79 x5_1 x7_2).f1) then (wigeonref01_Join.l0 k2 y666 (x6_1.set ((wrap64 ((x6_1.length : Int) - 1)) : Int).toNat (⟨(rd_T79 x6_1 (wrap64 ((x6_1.length : Int) - 1))).f0, (rd_T79 x6_1 (wrap64 ((x6_1.length : Int) - 1))).f1, (rd_T79 x5_1 x7_2).f2⟩ : S79))) else (if x6_1.length < 4398046511104 then (wigeonref01_Join.l0 k2 y666 (x6_1 ++ [(⟨(rd_T79 x5_1 x7_2).f0, (rd_T79 x5_1 x7_2).f1, (rd_T79 x5_1 x7_2).f2⟩ : S79)])) else (none))) else (if x6_1.length < 4398046511104 then (wigeonref01_Join.l0 k2 y666 (x6_1 ++ [(⟨(rd_T79 x5_1 x7_2).f0, (rd_T79 x5_1 x7_2).f1, (rd_T79 x5_1 x7_2).f2⟩ : S79)])) else (none))) else (none)) else (none)) else (if x6_1.length < 4398046511104 then (wigeonref01_Join.l0 k2 y666 (x6_1 ++ [(⟨(rd_T79 x5_1 x7_2).f0, (rd_T79 x5_1 x7_2).f1, (rd_T79 x5_1 x7_2).f2⟩ : S79)])) else (none)))) else (none))) else (none)) else (none)) = some (r1, r2) := by first | (rw [hji25] at H; exact H) | (simp only [hji25] at H ⊢; exact H)
             have hji25w : (IntKind.i64.wrap (x7_2 + 1)) = ji25 := (i64_w _).trans hji25
             by_cases c26 : 0 ≤ (ji25)
             ·rw [if_pos c26] at H
              have c26b0 := eq_true c26
              have c26b1 : decide (0 ≤ (ji25)) = true := decide_eq_true c26
              clear c26
              by_cases c27 : (ji25) ≤ (x5_1.length : Int)
              ·rw [if_pos c27] at H
               have c27b0 := eq_true c27
               have c27b1 : decide ((ji25) ≤ (x5_1.length : Int)) = true := decide_eq_true c27
               clear c27
               obtain ⟨y662, hy662⟩ : ∃ y_ : List (S79), y_ = (x5_1.drop ((ji25) : Int).toNat) := ⟨_, rfl⟩
               replace H : (if y659.length + y662.length < 4398046511104 then ((some (y659 ++ y662 : List (S79))).bind fun y666 => (if (x6_1.length : Int) > 0 then (if 0 ≤ (wrap64 ((x6_1.length : Int) - 1)) then (if (wrap64 ((x6_1.length : Int) - 1)) < (x6_1.length : Int) then (if ((rd_T79 x6_1 (wrap64 ((x6_1.length : Int) - 1))).f0).toList = ((rd_T79 x5_1 x7_2).f0).toList then (if (wrap64 (((rd_T79 x6_1 (wrap64 ((x6_1.length : Int) - 1))).f2) + 1)) = ((rd_T79 x5_1 x7_2).f1) then (wigeonref01_Join.l0 k2 y666 (x6_1.set ((wrap64 ((x6_1.length : Int) - 1)) : Int).toNat (⟨(rd_T79 x6_1 (wrap64 ((x6_1.length : Int) - 1))).f0, (rd_T79 x6_1 (wrap64 ((x6_1.length : Int) - 1))).f1, (rd_T79 x5_1 x7_2).f2⟩ : S79))) else (if x6_1.length < 4398046511104 then (wigeonref01_Join.l0 k2 y666 (x6_1 ++ [(⟨(rd_T79 x5_1 x7_2).f0, (rd_T79 x5_1 x7_2).f1, (rd_T79 x5_1 x7_2).f2⟩ : S79)])) else (none))) else (if x6_1.length < 4398046511104 then (wigeonref01_Join.l0 k2 y666 (x6_1 ++ [(⟨(rd_T79 x5_1 x7_2).f0, (rd_T79 x5_1 x7_2).f1, (rd_T79 x5_1 x7_2).f2⟩ : S79)])) else (none))) else (none)) else (none)) else (if x6_1.length < 4398046511104 then (wigeonref01_Join.l0 k2 y666 (x6_1 ++ [(⟨(rd_T79 x5_1 x7_2).f0, (rd_T79 x5_1 x7_2).f1, (rd_T79 x5_1 x7_2).f2⟩ : S79)])) else (none)))) else (none)) = some (r1, r2) := by first | (rw [hy662]; with_reducible exact H) | (have H2_ := (Option.bind_some _ _).symm.trans H; rw [hy662]; with_reducible exact H2_) | (have H2_ := (Option.bind_some _ _).symm.trans H; with_reducible exact H2_) | with_reducible exact H | (rw [hy662]; exact H) | exact H
               have Ny662 := Aside0.mk hy662
               clear hy662
               by_cases c28 : y659.length + y662.length < 4398046511104
               ·rw [if_pos c28] at H
                have LMc28 := Aside0.mk c28
                clear c28
                obtain ⟨y666, hy666⟩ : ∃ y_ : List (S79), y_ = (y659 ++ y662) := ⟨_, rfl⟩
                replace H : (if (x6_1.length : Int) > 0 then (if 0 ≤ (wrap64 ((x6_1.length : Int) - 1)) then (if (wrap64 ((x6_1.length : Int) - 1)) < (x6_1.length : Int) then (if ((rd_T79 x6_1 (wrap64 ((x6_1.length : Int) - 1))).f0).toList = ((rd_T79 x5_1 x7_2).f0).toList then (if (wrap64 (((rd_T79 x6_1 (wrap64 ((x6_1.length : Int) - 1))).f2) + 1)) = ((rd_T79 x5_1 x7_2).f1) then (wigeonref01_Join.l0 k2 y666 (x6_1.set ((wrap64 ((x6_1.length : Int) - 1)) : Int).toNat (⟨(rd_T79 x6_1 (wrap64 ((x6_1.length : Int) - 1))).f0, (rd_T79 x6_1 (wrap64 ((x6_1.length : Int) - 1))).f1, (rd_T79 x5_1 x7_2).f2⟩ : S79))) else (if x6_1.length < 4398046511104 then (wigeonref01_Join.l0 k2 y666 (x6_1 ++ [(⟨(rd_T79 x5_1 x7_2).f0, (rd_T79 x5_1 x7_2).f1, (rd_T79 x5_1 x7_2).f2⟩ : S79)])) else (none))) else (if x6_1.length < 4398046511104 then (wigeonref01_Join.l0 k2 y666 (x6_1 ++ [(⟨(rd_T79 x5_1 x7_2).f0, (rd_T79 x5_1 x7_2).f1, (rd_T79 x5_1 x7_2).f2⟩ : S79)])) else (none))) else (none)) else (none)) else (if x6_1.length < 4398046511104 then (wigeonref01_Join.l0 k2 y666 (x6_1 ++ [(⟨(rd_T79 x5_1 x7_2).f0, (rd_T79 x5_1 x7_2).f1, (rd_T79 x5_1 x7_2).f2⟩ : S79)])) else (none))) = some (r1, r2) := by first | (rw [hy666]; with_reducible exact H) | (have H2_ := (Option.bind_some _ _).symm.trans H; rw [hy666]; with_reducible exact H2_) | (have H2_ := (Option.bind_some _ _).symm.trans H; with_reducible exact H2_) | with_reducible exact H | (rw [hy666]; exact H) | exact H
                have Ny666 := Aside0.mk hy666
                clear hy666
                by_cases c29 : (x6_1.length : Int) > 0
                ·rw [if_pos c29] at H
                 have c29b0 : decide (0 < (x6_1.length : Int)) = true := decide_eq_true c29
                 have c29b1 : decide (0 < x6_1.length) = true := decide_eq_true (by omega)
                 clear c29
                 obtain ⟨ji30, hji30⟩ : ∃ j_ : Int, (wrap64 ((x6_1.length : Int) - 1)) = j_ := ⟨_, rfl⟩
                 replace H : (if 0 ≤ (ji30) then (if (ji30) < (x6_1.length : Int) then (if ((rd_T79 x6_1 (ji30)).f0).toList = ((rd_T79 x5_1 x7_2).f0).toList then (if (wrap64 (((rd_T79 x6_1 (ji30)).f2) + 1)) = ((rd_T79 x5_1 x7_2).f1) then (wigeonref01_Join.l0 k2 y666 (x6_1.set ((ji30) : Int).toNat (⟨(rd_T79 x6_1 (ji30)).f0, (rd_T79 x6_1 (ji30)).f1, (rd_T79 x5_1 x7_2).f2⟩ : S79))) else (if x6_1.length < 4398046511104 then (wigeonref01_Join.l0 k2 y666 (x6_1 ++ [(⟨(rd_T79 x5_1 x7_2).f0, (rd_T79 x5_1 x7_2).f1, (rd_T79 x5_1 x7_2).f2⟩ : S79)])) else (none))) else (if x6_1.length < 4398046511104 then (wigeonref01_Join.l0 k2 y666 (x6_1 ++ [(⟨(rd_T79 x5_1 x7_2).f0, (rd_T79 x5_1 x7_2).f1, (rd_T79 x5_1 x7_2).f2⟩ : S79)])) else (none))) else (none)) else (none)) = some (r1, r2) := by first | (rw [hji30] at H; exact H) | (simp only [hji30] at H ⊢; exact H)
                 have hji30w : (IntKind.i64.wrap ((x6_1.length : Int) - 1)) = ji30 := (i64_w _).trans hji30
                 by_cases c31 : 0 ≤ (ji30)
                 ·rw [if_pos c31] at H
                  have c31b0 : decide (0 ≤ (ji30)) = true := decide_eq_true c31
                  clear c31
                  by_cases c32 : (ji30) < (x6_1.length : Int)
                  ·rw [if_pos c32] at H
                   have c32b0 : decide ((ji30) < (x6_1.length : Int)) = true := decide_eq_true c32
                   clear c32
                   by_cases c33 : ((rd_T79 x6_1 (ji30)).f0).toList = ((rd_T79 x5_1 x7_2).f0).toList
                   ·rw [if_pos c33] at H
                    have c33b0 : (((rd_T79 x6_1 (ji30)).f0).toList == ((rd_T79 x5_1 x7_2).f0).toList) = true := beq_iff_eq.mpr c33
                    have c33b1 : (((rd_T79 x6_1 (ji30)).f0).toList != ((rd_T79 x5_1 x7_2).f0).toList) = false := bne_eq_false_iff_eq.mpr c33
                    clear c33
                    by_cases c34 : (wrap64 (((rd_T79 x6_1 (ji30)).f2) + 1)) = ((rd_T79 x5_1 x7_2).f1)
                    ·rw [if_pos c34] at H
                     have c34b0 : ((wrap64 (((rd_T79 x6_1 (ji30)).f2) + 1)) == ((rd_T79 x5_1 x7_2).f1)) = true := beq_iff_eq.mpr c34
                     have c34b1 : ((wrap64 (((rd_T79 x6_1 (ji30)).f2) + 1)) != ((rd_T79 x5_1 x7_2).f1)) = false := bne_eq_false_iff_eq.mpr c34
                     clear c34
                     obtain ⟨y671, hy671⟩ : ∃ y_ : List (S79), y_ = (x6_1.set ((ji30) : Int).toNat (⟨(rd_T79 x6_1 (ji30)).f0, (rd_T79 x6_1 (ji30)).f1, (rd_T79 x5_1 x7_2).f2⟩ : S79)) := ⟨_, rfl⟩
                     replace H : (wigeonref01_Join.l0 k2 y666 y671) = some (r1, r2) := by first | (rw [hy671]; with_reducible exact H) | (have H2_ := (Option.bind_some _ _).symm.trans H; rw [hy671]; with_reducible exact H2_) | (have H2_ := (Option.bind_some _ _).symm.trans H; with_reducible exact H2_) | with_reducible exact H | (rw [hy671]; exact H) | exact H
                     have Ny671 := Aside0.mk hy671
                     clear hy671
                     have H' := Aside0.mk H
                     clear H
                     have p653 : 0 ≤ (x7_2 : Int) := of_decide_eq_true (by first | (with_reducible assumption) | assumption)
                     have q653 : x7_2 < (x5_1.length : Int) := of_decide_eq_true (by first | (with_reducible assumption) | assumption)
                     obtain ⟨ad653, e653, hx653_0, hx653_1, hx653_2⟩ := at_T79 (Kd.R_reads' HO_5.out).2.2 x7_2 p653 q653
                     cases e653
                     replace p653 := eq_true p653
                     replace q653 := eq_true q653
                     try go_wp2_with (first | ((with_reducible refine gate_dst (N := 9) rfl ?_); refine box_event ?hg (N := 9) ?hd (cs := #[.string (⟨#[]⟩ : ByteArray), .int .i64 0, .int .i64 0]) (t := 79) ?hr ?_; (case hd => rfl); (case hg => rfl); (case hr => first | (go_simp; done) | (go_simp; rfl)); intro gb654 hg w36 hbox hb; have n0_ := Aside0.mk (Kd.R_below (Kd.R_elderB (by (with_reducible repeat (first | apply Kd.R_alloc | apply Kd.R_drewN | apply Kd.R_drew)); exact HO_5.out) gb654 (Nat.le_of_eq hg.symm)) hb); have n1_ := Aside0.mk (Kd.R_below (Kd.R_elderB (by (with_reducible repeat (first | apply Kd.R_alloc | apply Kd.R_drewN | apply Kd.R_drew)); exact HO_6.out) gb654 (Nat.le_of_eq hg.symm)) hb); have n2_ := Aside0.mk (below_step (by repeat (first | (with_reducible first | exact HB.out | apply below_alloc | apply pw_below_drewN | apply below_drew1) | exact HB.out)) hb); have n3_ := Aside0.mk (hbox); have n4_ := Aside0.mk ((by rw [hg]; exact (below_size (by repeat (first | (with_reducible first | exact HB.out | apply below_alloc | apply pw_below_drewN | apply below_drew1) | exact HB.out))) : w.heap.size ≤ gb654)); have n5_ := Aside0.mk ((by rw [hg]; exact (below_size (by repeat (first | (with_reducible first | exact HB.out | apply below_alloc | apply pw_below_drewN | apply below_drew1) | exact HB.out))) : w.heap.size ≤ gb654)); clear HO_5; clear HO_6; clear HB; have HO_5 := n0_; have HO_6 := n1_; have HB := n2_; have BK654 := n3_; have GW654 := n4_; have GE654 := n5_; clear n0_ n1_ n2_ n3_ n4_ n5_; clear hb hbox hg; have hcz37_0 : w36.cell? ⟨gb654, 0, none⟩ = some (.string (⟨#[]⟩ : ByteArray)) := (blk_cell BK654.out 0).trans rfl; have hcz37_1 : w36.cell? ⟨gb654, 1, none⟩ = some (.int .i64 0) := (blk_cell BK654.out 1).trans rfl; have hcz37_2 : w36.cell? ⟨gb654, 2, none⟩ = some (.int .i64 0) := (blk_cell BK654.out 2).trans rfl; have hfz37_0 := blk_frozen BK654.out 0; have hfz37_1 := blk_frozen BK654.out 1; have hfz37_2 := blk_frozen BK654.out 2) | ((with_reducible refine gate_store (t := 79) (p := 9) rfl ?_); refine store_event (t := 79) (p := 9) (v := ?vo_w38) (w1 := (((w36.setCell ⟨gb654, 0, none⟩ (.string ((rd_T79 x5_1 x7_2).f0))).setCell ⟨gb654, 1, none⟩ (.int .i64 ((rd_T79 x5_1 x7_2).f1))).setCell ⟨gb654, 2, none⟩ (.int .i64 ((rd_T79 x5_1 x7_2).f2)))) ?hg ?ho ?hn ?hr ?_; (case ho => rfl); (case hg => rfl); (case hn => rfl); (case hr => first | (go_simp; done) | (go_simp; rfl)); intro w38 hw; have n0_ : Aside0 (Kd.R k79 79 w38 w.heap.size (fun k_ => some k_ ≠ (u6 : Value).ownBlock ∧ k_ ≠ gb654) (.slice (some ad653) x5_1.length co9) x5_1) := ⟨(by rw [hw]; exact (by (with_reducible repeat (first | apply Kd.R_alloc | apply Kd.R_drewN | apply Kd.R_drew)); exact Kd.R_mono (Kd.R_far (p := ⟨gb654, 2, none⟩) (Kd.R_far (p := ⟨gb654, 1, none⟩) (Kd.R_far (p := ⟨gb654, 0, none⟩) (Kd.R_mono HO_5.out (fun k_ hk => (⟨hk, hk.2⟩ : _ ∧ k_ ≠ gb654))) (fun _ hk => hk.2) (.string ((rd_T79 x5_1 x7_2).f0))) (fun _ hk => hk.2) (.int .i64 ((rd_T79 x5_1 x7_2).f1))) (fun _ hk => hk.2) (.int .i64 ((rd_T79 x5_1 x7_2).f2))) (fun _ hk => ⟨hk.1.1, hk.1.2⟩)))⟩; have n1_ : Aside0 (Kd.R k79 79 w38 w.heap.size (fun k_ => some k_ ≠ (.slice (some ad653) x5_1.length co9 : Value).ownBlock ∧ k_ ≠ gb654) u6 x6_1) := ⟨(by rw [hw]; exact (by (with_reducible repeat (first | apply Kd.R_alloc | apply Kd.R_drewN | apply Kd.R_drew)); exact Kd.R_mono (Kd.R_far (p := ⟨gb654, 2, none⟩) (Kd.R_far (p := ⟨gb654, 1, none⟩) (Kd.R_far (p := ⟨gb654, 0, none⟩) (Kd.R_mono HO_6.out (fun k_ hk => (⟨hk, hk.2⟩ : _ ∧ k_ ≠ gb654))) (fun _ hk => hk.2) (.string ((rd_T79 x5_1 x7_2).f0))) (fun _ hk => hk.2) (.int .i64 ((rd_T79 x5_1 x7_2).f1))) (fun _ hk => hk.2) (.int .i64 ((rd_T79 x5_1 x7_2).f2))) (fun _ hk => ⟨hk.1.1, hk.1.2⟩)))⟩; have n2_ : Aside0 (w38.heap[gb654]? = some (.cells #[.string ((rd_T79 x5_1 x7_2).f0), .int .i64 ((rd_T79 x5_1 x7_2).f1), .int .i64 ((rd_T79 x5_1 x7_2).f2)] 79 (0, 0))) := ⟨(by rw [hw]; exact (by (with_reducible repeat (first | refine blk_drewN ?_ _ | refine blk_drew ?_ | refine blk_alloc ?_ _)); refine blk_put (cs := #[.string ((rd_T79 x5_1 x7_2).f0), .int .i64 ((rd_T79 x5_1 x7_2).f1), .int .i64 0]) ?_ 2 _ rfl; (with_reducible repeat (first | refine blk_drewN ?_ _ | refine blk_drew ?_ | refine blk_alloc ?_ _)); refine blk_put (cs := #[.string ((rd_T79 x5_1 x7_2).f0), .int .i64 0, .int .i64 0]) ?_ 1 _ rfl; (with_reducible repeat (first | refine blk_drewN ?_ _ | refine blk_drew ?_ | refine blk_alloc ?_ _)); refine blk_put (cs := #[.string (⟨#[]⟩ : ByteArray), .int .i64 0, .int .i64 0]) ?_ 0 _ rfl; (with_reducible repeat (first | refine blk_drewN ?_ _ | refine blk_drew ?_ | refine blk_alloc ?_ _)); exact BK654.out))⟩; have n3_ : Aside0 (Below w.heap.size w w38) := ⟨(by rw [hw]; exact (by repeat (first | (with_reducible first | exact HB.out | apply below_alloc | apply pw_below_drewN | apply below_drew1 | refine below_set ?_ GE654.out) | exact HB.out)))⟩; clear hw; clear HO_5; clear HO_6; clear BK654; clear HB; have HO_5 := n0_; have HO_6 := n1_; have BK654 := n2_; have HB := n3_; clear n0_ n1_ n2_ n3_; have q39 : (x7_2 : Int) ≤ ((x5_1.length : Int) : Int) := of_decide_eq_true (by first | (with_reducible assumption) | assumption); obtain ⟨i039, hi039, _, hsz39, _⟩ := info_parts info79; have hroom39 : x5_1.length ≤ co9 := (Kd.R_reads' HO_5.out).2.1; have hC39 : Kd.C k79 _ (some ad653) x5_1.length x5_1 := (Kd.R_reads' HO_5.out).2.2; have hcut39 := cut_to (P := Try.prog) 48 79 .i64 Try.underlying48 hi039 (some ad653) x5_1.length co9 x7_2 (of_decide_eq_true (by first | (with_reducible assumption) | assumption)) q39 hroom39; have hr39 := Kd.C_take (m := (x7_2 : Int).toNat) hC39 (by omega); have hy39 : y655.length = (x7_2 : Int).toNat := (by rw [Ny655.out, List.length_take]; omega); rw [← Ny655.out] at hr39; rw [← hy39] at hcut39; have HR658 := Aside0.mk hr39; have HC658 := Aside0.mk (show y655.length ≤ co9 from by omega); clear hr39 hC39 hroom39 hi039 hsz39; have KY39 := Aside0.mk hy39; clear hy39; have KL39 := Aside0.mk (show (x7_2 : Int).toNat ≤ x5_1.length from by omega); replace q39 := eq_true q39) | ((with_reducible refine gate_builtin (b := .append) (xs := #[.tmp 43, .tmp 46]) rfl ?_); at_builtin; refine Kd.R_append_rows k79 (w0 := w) w.heap.size rfl (.tmp 43) (.tmp 46) 48 79 (.agg #[(.string ⟨#[]⟩), (.int .i64 0), (.int .i64 0)]) 32 rfl Try.underlying48 info79 rfl (by decide) (by omega) (.slice none 0 0) ([] : List (S79)) y655 _ _ _ (fun k_ => some k_ ≠ (.slice (some ad653) x5_1.length co9 : Value).ownBlock ∧ some k_ ≠ (u6 : Value).ownBlock ∧ k_ ≠ gb654) (fun _ => False) rfl rfl ?aO ?aR (fun _ _ h => h) (fun _ h => h.elim) ?aF ?aB ?aS ?aL ?_; (case aR => repeat (first | exact (by repeat (first | (with_reducible exact HR658.out) | (with_reducible refine Kd.C_alloc ?_ _) | (with_reducible refine Kd.C_drewN ?_ _) | (with_reducible refine Kd.C_drew ?_) | exact HR658.out)) | (with_reducible refine Kd.C_alloc ?_ _) | (with_reducible refine Kd.C_drewN ?_ _) | (with_reducible refine Kd.C_drew ?_))); (case aB => exact (by repeat (first | (with_reducible first | exact HB.out | apply below_alloc | apply pw_below_drewN | apply below_drew1 | refine below_set ?_ GE654.out) | exact HB.out))); (case aF => exact (fun k_ hk => ⟨Kd.fresh' (Kd.R_lt (by (with_reducible repeat (first | apply Kd.R_alloc | apply Kd.R_drewN | apply Kd.R_drew)); exact HO_5.out)) k_ hk, Kd.fresh' (Kd.R_lt (by (with_reducible repeat (first | apply Kd.R_alloc | apply Kd.R_drewN | apply Kd.R_drew)); exact HO_6.out)) k_ hk, Kd.freshB (g := gb654) (o := .cells #[.string ((rd_T79 x5_1 x7_2).f0), .int .i64 ((rd_T79 x5_1 x7_2).f1), .int .i64 ((rd_T79 x5_1 x7_2).f2)] 79 (0, 0)) (by (with_reducible repeat (first | refine blk_drewN ?_ _ | refine blk_drew ?_ | refine blk_alloc ?_ _)); exact BK654.out) k_ hk⟩)); (case aO => exact ((Kd.R_nil _ _ _ _ (fun k_ => some k_ ≠ (.slice (some ad653) x5_1.length co9 : Value).ownBlock ∧ some k_ ≠ (u6 : Value).ownBlock ∧ k_ ≠ gb654)))); (case aS => exact (below_size (by repeat (first | (with_reducible first | exact HB.out | apply below_alloc | apply pw_below_drewN | apply below_drew1 | refine below_set ?_ GE654.out) | exact HB.out)))); (case aL => have := LMc24.out; omega); intro v660 w40 ho hb hg hat; rw [← Ny659.out] at ho; have n0_ := Aside0.mk (Kd.R_after (Kd.R_apart_nil (by (with_reducible repeat (first | apply Kd.R_alloc | apply Kd.R_drewN | apply Kd.R_drew)); exact HO_5.out)) hg hat); have n1_ := Aside0.mk (Kd.R_after (Kd.R_apart_nil (by (with_reducible repeat (first | apply Kd.R_alloc | apply Kd.R_drewN | apply Kd.R_drew)); exact HO_6.out)) hg hat); have n2_ := Aside0.mk (blk_grown (g := gb654) (o := .cells #[.string ((rd_T79 x5_1 x7_2).f0), .int .i64 ((rd_T79 x5_1 x7_2).f1), .int .i64 ((rd_T79 x5_1 x7_2).f2)] 79 (0, 0)) (by (with_reducible repeat (first | refine blk_drewN ?_ _ | refine blk_drew ?_ | refine blk_alloc ?_ _)); exact BK654.out) hg (by simp [Value.ownBlock])); have n3_ := Aside0.mk (hb); have n4_ := Aside0.mk ((show Kd.C k79 w40 (some ad653) y655.length y655 from by rw [Ny655.out]; exact Kd.C_take (m := (x7_2 : Int).toNat) ((Kd.R_reads' (Kd.R_after (Kd.R_apart_nil (by (with_reducible repeat (first | apply Kd.R_alloc | apply Kd.R_drewN | apply Kd.R_drew)); exact HO_5.out)) hg hat)).2.2) KL39.out)); have n5_ := Aside0.mk (ho); clear HO_5; clear HO_6; clear BK654; clear HB; clear HR658; have HO_5 := n0_; have HO_6 := n1_; have BK654 := n2_; have HB := n3_; have HR658 := n4_; have HO661 := n5_; clear n0_ n1_ n2_ n3_ n4_ n5_; clear ho hb hg hat; have q41 : ((ji25) : Int) ≤ ((x5_1.length : Int) : Int) := of_decide_eq_true (by first | (with_reducible assumption) | assumption); obtain ⟨i041, hi041, _, hsz41, _⟩ := info_parts info79; have hroom41 : x5_1.length ≤ co9 := (Kd.R_reads' HO_5.out).2.1; have hC41 : Kd.C k79 _ (some ad653) x5_1.length x5_1 := (Kd.R_reads' HO_5.out).2.2; have q041 : (0 : Int) ≤ ((ji25) : Int) := of_decide_eq_true (by first | (with_reducible assumption) | assumption); have hcut41 := cut_from (P := Try.prog) 48 79 .i64 Try.underlying48 hi041 3 hsz41 (some ad653) x5_1.length co9 (ji25) q041 q41; have hr41 := Kd.C_drop (m := ((ji25) : Int).toNat) (c := co9) hC41 (by omega) hroom41; obtain ⟨A41, hA41⟩ : ∃ A1, A1 = (if co9 = ((ji25) : Int).toNat then (some ad653) else ((some ad653) : Option Addr).map (·.add (((ji25) : Int).toNat * 3))) := ⟨_, rfl⟩; obtain ⟨c41, hc41⟩ : ∃ c1, c1 = co9 - ((ji25) : Int).toNat := ⟨_, rfl⟩; have hy41 : y662.length = x5_1.length - ((ji25) : Int).toNat := (by rw [Ny662.out, List.length_drop] <;> omega); rw [show (x5_1).drop ((ji25) : Int).toNat = y662 from Ny662.out.symm] at hr41; replace hr41 : Kd.C k79 _ A41 y662.length y662 := (by rw [hA41]; exact hr41); rw [← hy41, ← hA41, ← hc41] at hcut41; have HR665 := Aside0.mk hr41; have HC665 := Aside0.mk (show y662.length ≤ c41 from by rw [hy41, hc41]; exact Nat.sub_le_sub_right hroom41 _); clear hr41 hC41 hroom41 hi041 hsz41 hc41; have KY41 := Aside0.mk hy41; have KA41 := Aside0.mk hA41; clear hy41 hA41; have KL41 := Aside0.mk (show ((ji25) : Int).toNat ≤ x5_1.length from by omega); replace q41 := eq_true q41) | ((with_reducible refine gate_builtin (b := .append) (xs := #[.tmp 48, .tmp 52]) rfl ?_); at_builtin; refine Kd.R_append_rows k79 (w0 := w) w.heap.size rfl (.tmp 48) (.tmp 52) 48 79 (.agg #[(.string ⟨#[]⟩), (.int .i64 0), (.int .i64 0)]) 32 rfl Try.underlying48 info79 rfl (by decide) (by omega) v660 y659 y662 _ _ _ (fun k_ => some k_ ≠ (.slice (some ad653) x5_1.length co9 : Value).ownBlock ∧ some k_ ≠ (u6 : Value).ownBlock ∧ k_ ≠ gb654) (fun _ => False) rfl rfl ?aO ?aR (fun _ _ h => h) (fun _ h => h.elim) ?aF ?aB ?aS ?aL ?_; (case aR => repeat (first | exact (by repeat (first | (with_reducible exact HR665.out) | (with_reducible refine Kd.C_alloc ?_ _) | (with_reducible refine Kd.C_drewN ?_ _) | (with_reducible refine Kd.C_drew ?_) | exact HR665.out)) | (with_reducible refine Kd.C_alloc ?_ _) | (with_reducible refine Kd.C_drewN ?_ _) | (with_reducible refine Kd.C_drew ?_))); (case aB => exact (by repeat (first | (with_reducible first | exact HB.out | apply below_alloc | apply pw_below_drewN | apply below_drew1 | refine below_set ?_ GE654.out) | exact HB.out))); (case aF => exact (fun k_ hk => ⟨Kd.fresh' (Kd.R_lt (by (with_reducible repeat (first | apply Kd.R_alloc | apply Kd.R_drewN | apply Kd.R_drew)); exact HO_5.out)) k_ hk, Kd.fresh' (Kd.R_lt (by (with_reducible repeat (first | apply Kd.R_alloc | apply Kd.R_drewN | apply Kd.R_drew)); exact HO_6.out)) k_ hk, Kd.freshB (g := gb654) (o := .cells #[.string ((rd_T79 x5_1 x7_2).f0), .int .i64 ((rd_T79 x5_1 x7_2).f1), .int .i64 ((rd_T79 x5_1 x7_2).f2)] 79 (0, 0)) (by (with_reducible repeat (first | refine blk_drewN ?_ _ | refine blk_drew ?_ | refine blk_alloc ?_ _)); exact BK654.out) k_ hk⟩)); (case aO => exact (by (with_reducible repeat (first | apply Kd.R_alloc | apply Kd.R_drewN | apply Kd.R_drew)); exact HO661.out)); (case aS => exact (below_size (by repeat (first | (with_reducible first | exact HB.out | apply below_alloc | apply pw_below_drewN | apply below_drew1 | refine below_set ?_ GE654.out) | exact HB.out)))); (case aL => have := LMc28.out; omega); intro v667 w42 ho hb hg hat; rw [← Ny666.out] at ho; have n0_ := Aside0.mk (Kd.R_after (ok := (fun k_ => some k_ ≠ (u6 : Value).ownBlock ∧ k_ ≠ gb654)) (by (with_reducible repeat (first | apply Kd.R_alloc | apply Kd.R_drewN | apply Kd.R_drew)); exact HO_5.out) hg hat); have n1_ := Aside0.mk (Kd.R_after (ok := (fun k_ => some k_ ≠ (.slice (some ad653) x5_1.length co9 : Value).ownBlock ∧ k_ ≠ gb654)) (by (with_reducible repeat (first | apply Kd.R_alloc | apply Kd.R_drewN | apply Kd.R_drew)); exact HO_6.out) hg hat); have n2_ := Aside0.mk (blk_grown (g := gb654) (o := .cells #[.string ((rd_T79 x5_1 x7_2).f0), .int .i64 ((rd_T79 x5_1 x7_2).f1), .int .i64 ((rd_T79 x5_1 x7_2).f2)] 79 (0, 0)) (by (with_reducible repeat (first | refine blk_drewN ?_ _ | refine blk_drew ?_ | refine blk_alloc ?_ _)); exact BK654.out) hg (Kd.R_away HO661.out (fun _ hk => hk.2.2))); have n3_ := Aside0.mk (hb); have n4_ := Aside0.mk ((show Kd.C k79 w42 (some ad653) y655.length y655 from by rw [Ny655.out]; exact Kd.C_take (m := (x7_2 : Int).toNat) ((Kd.R_reads' (Kd.R_after (ok := (fun k_ => some k_ ≠ (u6 : Value).ownBlock ∧ k_ ≠ gb654)) (by (with_reducible repeat (first | apply Kd.R_alloc | apply Kd.R_drewN | apply Kd.R_drew)); exact HO_5.out) hg hat)).2.2) KL39.out)); have n5_ := Aside0.mk ((show Kd.C k79 w42 A41 y662.length y662 from by rw [Ny662.out, KA41.out]; exact Kd.C_drop (m := ((ji25) : Int).toNat) (c := co9) ((Kd.R_reads' (Kd.R_after (ok := (fun k_ => some k_ ≠ (u6 : Value).ownBlock ∧ k_ ≠ gb654)) (by (with_reducible repeat (first | apply Kd.R_alloc | apply Kd.R_drewN | apply Kd.R_drew)); exact HO_5.out) hg hat)).2.2) KL41.out ((Kd.R_reads' (Kd.R_after (ok := (fun k_ => some k_ ≠ (u6 : Value).ownBlock ∧ k_ ≠ gb654)) (by (with_reducible repeat (first | apply Kd.R_alloc | apply Kd.R_drewN | apply Kd.R_drew)); exact HO_5.out) hg hat)).2.1))); have n6_ := Aside0.mk (ho); clear HO_5; clear HO_6; clear BK654; clear HB; clear HR658; clear HR665; clear HO661; have HO_5 := n0_; have HO_6 := n1_; have BK654 := n2_; have HB := n3_; have HR658 := n4_; have HR665 := n5_; have HO668 := n6_; clear n0_ n1_ n2_ n3_ n4_ n5_ n6_; clear ho hb hg hat; obtain ⟨Ao43, co43, eo43⟩ := Kd.R_slice HO_6.out; subst eo43))
                     have n0_ := Aside0.mk (Kd.R_drew HO_5.out)
                     have n1_ := Aside0.mk (Kd.R_drew HO_6.out)
                     have n2_ := Aside0.mk (Kd.R_drew HO668.out)
                     have n3_ := Aside0.mk (blk_drew BK654.out)
                     have n4_ := Aside0.mk (Kd.C_drew HR658.out)
                     have n5_ := Aside0.mk (Kd.C_drew HR665.out)
                     have n6_ := Aside0.mk (below_drew1 HB.out)
                     clear HO_5
                     clear HO_6
                     clear HO668
                     clear BK654
                     clear HR658
                     clear HR665
                     clear HB
                     have HO_5 := n0_
                     have HO_6 := n1_
                     have HO668 := n2_
                     have BK654 := n3_
                     have HR658 := n4_
                     have HR665 := n5_
                     have HB := n6_
                     clear n0_ n1_ n2_ n3_ n4_ n5_ n6_
                     have p669 : 0 ≤ ((ji30) : Int) := of_decide_eq_true (by first | (with_reducible assumption) | assumption)
                     have q669 : (ji30) < (x6_1.length : Int) := of_decide_eq_true (by first | (with_reducible assumption) | assumption)
                     obtain ⟨ad669, e669, hx669_0, hx669_1, hx669_2⟩ := at_T79 (Kd.R_reads' HO_6.out).2.2 (ji30) p669 q669
                     cases e669
                     replace p669 := eq_true p669
                     replace q669 := eq_true q669
                     have p670 : 0 ≤ ((ji30) : Int) := of_decide_eq_true (by first | (with_reducible assumption) | assumption)
                     have q670 : (ji30) < (x6_1.length : Int) := of_decide_eq_true (by first | (with_reducible assumption) | assumption)
                     obtain ⟨ad670, e670, hx670_0, hx670_1, hx670_2⟩ := at_T79 (Kd.R_reads' HO_6.out).2.2 (ji30) p670 q670
                     obtain rfl : ad669 = ad670 := (by injection e670)
                     replace p670 := eq_true p670
                     replace q670 := eq_true q670
                     refine start_ (n := 25) (S := fun w' => w'.cell? ⟨gb654, 0, none⟩ = some (.string ((rd_T79 x5_1 x7_2).f0)) ∧ w'.cell? ⟨gb654, 1, none⟩ = some (.int .i64 ((rd_T79 x5_1 x7_2).f1)) ∧ w'.cell? ⟨gb654, 2, none⟩ = some (.int .i64 ((rd_T79 x5_1 x7_2).f2)) ∧ w'.cell? (ad669.add (((ji30)).toNat * 3)) = some (.string ((rd_T79 x6_1 (ji30)).f0)) ∧ w'.cell? ⟨(ad669.add (((ji30)).toNat * 3)).block, (ad669.add (((ji30)).toNat * 3)).off + 1, none⟩ = some (.int .i64 ((rd_T79 x6_1 (ji30)).f1)) ∧ w'.cell? ⟨(ad669.add (((ji30)).toNat * 3)).block, (ad669.add (((ji30)).toNat * 3)).off + 2, none⟩ = some (.int .i64 ((rd_T79 x6_1 (ji30)).f2)) ∧ w'.cell? (ad669.add (((ji30)).toNat * 3)) = some (.string ((rd_T79 x6_1 (ji30)).f0)) ∧ w'.cell? ⟨(ad669.add (((ji30)).toNat * 3)).block, (ad669.add (((ji30)).toNat * 3)).off + 1, none⟩ = some (.int .i64 ((rd_T79 x6_1 (ji30)).f1)) ∧ w'.cell? ⟨(ad669.add (((ji30)).toNat * 3)).block, (ad669.add (((ji30)).toNat * 3)).off + 2, none⟩ = some (.int .i64 ((rd_T79 x6_1 (ji30)).f2))) (ds := []) #[false, false, false, false, false, false, false, false, false, false, false, false, false, false, false, false, false, false, false, false, false, false, false, false, false] (by kernel_rfl) rfl rfl ⟨(blk_cell BK654.out 0).trans rfl, (blk_cell BK654.out 1).trans rfl, (blk_cell BK654.out 2).trans rfl, hx669_0, hx669_1, hx669_2, hx670_0, hx670_1, hx670_2⟩ (fun hHeld => ?_); refine with_tabW wigeonref01_Join.tab19 wigeonref01_Join.bits19 (fun HT_ HW_ => ?_)
                     generalize w42.drew = w44 at HO_5 HO_6 HO668 BK654 HR658 HR665 HB hx669_0 hx669_1 hx669_2 hx670_0 hx670_1 hx670_2 hHeld ⊢
                     refine pure_ (i := 0) (N := some 57) (v := ?_) (a' := ?_) #[true, false, false, false, false, false, false, false, false, false, false, false, false, false, false, false, false, false, false, false, false, false, false, false, false] rfl rfl (any_of HT_.out (by kernel_rfl)) (fun _ _ _ h => h) (Or.inl ⟨by rfl, ?_⟩) ?_ ?_
                     rotate_left
                     ·intro w'
                      go_simp
                      with_reducible rfl
                     rotate_left
                     ·simp only [Act.put, List.setIfInBounds_toArray, List.set_cons_zero, List.set_cons_succ, i64_w, i32_w]
                      rfl
                     refine pure_ (i := 1) (N := some 58) (v := ?_) (a' := ?_) #[true, true, false, false, false, false, false, false, false, false, false, false, false, false, false, false, false, false, false, false, false, false, false, false, false] rfl rfl (any_of HT_.out (by kernel_rfl)) (fun _ _ _ h => h) (Or.inl ⟨by rfl, ?_⟩) ?_ ?_
                     rotate_left
                     ·intro w'
                      go_simp
                      with_reducible rfl
                     rotate_left
                     ·simp only [Act.put, List.setIfInBounds_toArray, List.set_cons_zero, List.set_cons_succ, i64_w, i32_w]
                      rfl
                     refine pure_ (i := 2) (N := some 59) (v := ?_) (a' := ?_) #[true, true, true, false, false, false, false, false, false, false, false, false, false, false, false, false, false, false, false, false, false, false, false, false, false] rfl rfl (any_of HT_.out (by kernel_rfl)) (fun _ _ _ h => h) (Or.inl ⟨by rfl, ?_⟩) ?_ ?_
                     rotate_left
                     ·intro w'
                      go_simp
                      with_reducible rfl
                     rotate_left
                     ·simp only [Act.put, List.setIfInBounds_toArray, List.set_cons_zero, List.set_cons_succ, i64_w, i32_w]
                      rfl
                     refine pure_ (i := 3) (N := some 60) (v := ?_) (a' := ?_) #[true, true, true, true, false, false, false, false, false, false, false, false, false, false, false, false, false, false, false, false, false, false, false, false, false] rfl rfl (any_of HT_.out (by kernel_rfl)) (fun _ _ _ h => h) (Or.inl ⟨by rfl, ?_⟩) ?_ ?_
                     rotate_left
                     ·intro w'
                      go_simp
                      with_reducible rfl
                     rotate_left
                     ·simp only [Act.put, List.setIfInBounds_toArray, List.set_cons_zero, List.set_cons_succ, i64_w, i32_w]
                      rfl
                     refine pure_ (i := 4) (N := some 61) (v := ?_) (a' := ?_) #[true, true, true, true, true, false, false, false, false, false, false, false, false, false, false, false, false, false, false, false, false, false, false, false, false] rfl rfl (any_of HT_.out (by kernel_rfl)) (fun _ _ _ h => h) (Or.inl ⟨by rfl, ?_⟩) ?_ ?_
                     rotate_left
                     ·intro w'
                      go_simp
                      with_reducible rfl
                     rotate_left
                     ·simp only [Act.put, List.setIfInBounds_toArray, List.set_cons_zero, List.set_cons_succ, i64_w, i32_w]
                      rfl
                     refine pure_ (i := 5) (N := some 62) (v := ?_) (a' := ?_) #[true, true, true, true, true, true, false, false, false, false, false, false, false, false, false, false, false, false, false, false, false, false, false, false, false] rfl rfl (any_of HT_.out (by kernel_rfl)) (fun _ _ _ h => h) (Or.inl ⟨by rfl, ?_⟩) ?_ ?_
                     rotate_left
                     ·intro w'
                      go_simp
                      with_reducible rfl
                     rotate_left
                     ·simp only [Act.put, List.setIfInBounds_toArray, List.set_cons_zero, List.set_cons_succ, i64_w, i32_w]
                      rfl
                     refine pure_ (i := 6) (N := some 63) (v := ?_) (a' := ?_) #[true, true, true, true, true, true, true, false, false, false, false, false, false, false, false, false, false, false, false, false, false, false, false, false, false] rfl rfl (any_of HT_.out (by kernel_rfl)) (fun _ _ _ h => h) (Or.inl ⟨by rfl, ?_⟩) ?_ ?_
                     rotate_left
                     ·intro w'
                      go_simp
                      with_reducible rfl
                     rotate_left
                     ·simp only [Act.put, List.setIfInBounds_toArray, List.set_cons_zero, List.set_cons_succ, i64_w, i32_w]
                      rfl
                     refine pure_ (i := 7) (N := some 64) (v := ?_) (a' := ?_) #[true, true, true, true, true, true, true, true, false, false, false, false, false, false, false, false, false, false, false, false, false, false, false, false, false] rfl rfl (any_of HT_.out (by kernel_rfl)) (fun _ _ _ h => h) (Or.inl ⟨by rfl, ?_⟩) ?_ ?_
                     rotate_left
                     ·intro w'
                      go_simp
                      with_reducible rfl
                     rotate_left
                     ·simp only [Act.put, List.setIfInBounds_toArray, List.set_cons_zero, List.set_cons_succ, i64_w, i32_w]
                      rfl
                     refine pure_ (i := 9) (N := some 66) (v := ?_) (a' := ?_) #[true, true, true, true, true, true, true, true, false, true, false, false, false, false, false, false, false, false, false, false, false, false, false, false, false] rfl rfl (any_of HT_.out (by kernel_rfl)) (fun _ _ _ h => h) (Or.inl ⟨by rfl, ?_⟩) ?_ ?_
                     rotate_left
                     ·intro w'
                      go_simp
                      with_reducible rfl
                     rotate_left
                     ·simp only [Act.put, List.setIfInBounds_toArray, List.set_cons_zero, List.set_cons_succ, i64_w, i32_w]
                      rfl
                     refine take_ (i := 8) (N := some 65) (v := ?_) (a' := ?_) #[true, true, true, true, true, true, true, true, true, true, false, false, false, false, false, false, false, false, false, false, false, false, false, false, false] rfl rfl (take_ofW HT_.out HW_.out (by kernel_rfl)) (fun _ _ _ h => h) (Or.inl ⟨by rfl, ?_⟩) hHeld ?_ ?_
                     rotate_left
                     ·rintro w' ⟨s0, s1, s2, s3, s4, s5, s6, s7, s8⟩
                      go_simp
                      with_reducible rfl
                     rotate_left
                     ·simp only [Act.put, List.setIfInBounds_toArray, List.set_cons_zero, List.set_cons_succ, i64_w, i32_w]
                      rfl
                     refine take_ (i := 10) (N := some 67) (v := ?_) (a' := ?_) #[true, true, true, true, true, true, true, true, true, true, true, false, false, false, false, false, false, false, false, false, false, false, false, false, false] rfl rfl (take_ofW HT_.out HW_.out (by kernel_rfl)) (fun _ _ _ h => h) (Or.inl ⟨by rfl, ?_⟩) hHeld ?_ ?_
                     rotate_left
                     ·rintro w' ⟨s0, s1, s2, s3, s4, s5, s6, s7, s8⟩
                      go_simp
                      with_reducible rfl
                     rotate_left
                     ·simp only [Act.put, List.setIfInBounds_toArray, List.set_cons_zero, List.set_cons_succ, i64_w, i32_w]
                      rfl
                     refine pure_ (i := 11) (N := some 68) (v := ?_) (a' := ?_) #[true, true, true, true, true, true, true, true, true, true, true, true, false, false, false, false, false, false, false, false, false, false, false, false, false] rfl rfl (any_of HT_.out (by kernel_rfl)) (fun _ _ _ h => h) (Or.inl ⟨by rfl, ?_⟩) ?_ ?_
                     rotate_left
                     ·intro w'
                      go_simp
                      with_reducible rfl
                     rotate_left
                     ·simp only [Act.put, List.setIfInBounds_toArray, List.set_cons_zero, List.set_cons_succ, i64_w, i32_w]
                      rfl
                     refine pure_ (i := 12) (N := some 69) (v := ?_) (a' := ?_) #[true, true, true, true, true, true, true, true, true, true, true, true, true, false, false, false, false, false, false, false, false, false, false, false, false] rfl rfl (any_of HT_.out (by kernel_rfl)) (fun _ _ _ h => h) (Or.inl ⟨by rfl, ?_⟩) ?_ ?_
                     rotate_left
                     ·intro w'
                      go_simp
                      with_reducible rfl
                     rotate_left
                     ·simp only [Act.put, List.setIfInBounds_toArray, List.set_cons_zero, List.set_cons_succ, i64_w, i32_w]
                      rfl
                     refine pure_ (i := 13) (N := some 70) (v := ?_) (a' := ?_) #[true, true, true, true, true, true, true, true, true, true, true, true, true, true, false, false, false, false, false, false, false, false, false, false, false] rfl rfl (any_of HT_.out (by kernel_rfl)) (fun _ _ _ h => h) (Or.inl ⟨by rfl, ?_⟩) ?_ ?_
                     rotate_left
                     ·intro w'
                      go_simp
                      with_reducible rfl
                     rotate_left
                     ·simp only [Act.put, List.setIfInBounds_toArray, List.set_cons_zero, List.set_cons_succ, i64_w, i32_w]
                      rfl
                     refine pure_ (i := 14) (N := some 71) (v := ?_) (a' := ?_) #[true, true, true, true, true, true, true, true, true, true, true, true, true, true, true, false, false, false, false, false, false, false, false, false, false] rfl rfl (any_of HT_.out (by kernel_rfl)) (fun _ _ _ h => h) (Or.inl ⟨by rfl, ?_⟩) ?_ ?_
                     rotate_left
                     ·intro w'
                      go_simp
                      with_reducible rfl
                     rotate_left
                     ·simp only [Act.put, List.setIfInBounds_toArray, List.set_cons_zero, List.set_cons_succ, i64_w, i32_w]
                      rfl
                     refine pure_ (i := 15) (N := some 72) (v := ?_) (a' := ?_) #[true, true, true, true, true, true, true, true, true, true, true, true, true, true, true, true, false, false, false, false, false, false, false, false, false] rfl rfl (any_of HT_.out (by kernel_rfl)) (fun _ _ _ h => h) (Or.inl ⟨by rfl, ?_⟩) ?_ ?_
                     rotate_left
                     ·intro w'
                      go_simp
                      with_reducible rfl
                     rotate_left
                     ·simp only [Act.put, List.setIfInBounds_toArray, List.set_cons_zero, List.set_cons_succ, i64_w, i32_w]
                      rfl
                     refine pure_ (i := 16) (N := some 73) (v := ?_) (a' := ?_) #[true, true, true, true, true, true, true, true, true, true, true, true, true, true, true, true, true, false, false, false, false, false, false, false, false] rfl rfl (any_of HT_.out (by kernel_rfl)) (fun _ _ _ h => h) (Or.inl ⟨by rfl, ?_⟩) ?_ ?_
                     rotate_left
                     ·intro w'
                      go_simp
                      with_reducible rfl
                     rotate_left
                     ·simp only [Act.put, List.setIfInBounds_toArray, List.set_cons_zero, List.set_cons_succ, i64_w, i32_w]
                      rfl
                     refine pure_ (i := 17) (N := some 74) (v := ?_) (a' := ?_) #[true, true, true, true, true, true, true, true, true, true, true, true, true, true, true, true, true, true, false, false, false, false, false, false, false] rfl rfl (any_of HT_.out (by kernel_rfl)) (fun _ _ _ h => h) (Or.inl ⟨by rfl, ?_⟩) ?_ ?_
                     rotate_left
                     ·intro w'
                      go_simp
                      with_reducible rfl
                     rotate_left
                     ·simp only [Act.put, List.setIfInBounds_toArray, List.set_cons_zero, List.set_cons_succ, i64_w, i32_w]
                      rfl
                     refine pure_ (i := 18) (N := some 75) (v := ?_) (a' := ?_) #[true, true, true, true, true, true, true, true, true, true, true, true, true, true, true, true, true, true, true, false, false, false, false, false, false] rfl rfl (any_of HT_.out (by kernel_rfl)) (fun _ _ _ h => h) (Or.inl ⟨by rfl, ?_⟩) ?_ ?_
                     rotate_left
                     ·intro w'
                      go_simp
                      with_reducible rfl
                     rotate_left
                     ·simp only [Act.put, List.setIfInBounds_toArray, List.set_cons_zero, List.set_cons_succ, i64_w, i32_w]
                      rfl
                     refine pure_ (i := 21) (N := some 78) (v := ?_) (a' := ?_) #[true, true, true, true, true, true, true, true, true, true, true, true, true, true, true, true, true, true, true, false, false, true, false, false, false] rfl rfl (any_of HT_.out (by kernel_rfl)) (fun _ _ _ h => h) (Or.inl ⟨by rfl, ?_⟩) ?_ ?_
                     rotate_left
                     ·intro w'
                      go_simp
                      with_reducible rfl
                     rotate_left
                     ·simp only [Act.put, List.setIfInBounds_toArray, List.set_cons_zero, List.set_cons_succ, i64_w, i32_w]
                      rfl
                     refine take_ (i := 19) (N := some 76) (v := ?_) (a' := ?_) #[true, true, true, true, true, true, true, true, true, true, true, true, true, true, true, true, true, true, true, true, false, true, false, false, false] rfl rfl (take_ofW HT_.out HW_.out (by kernel_rfl)) (fun _ _ _ h => h) (Or.inl ⟨by rfl, ?_⟩) hHeld ?_ ?_
                     rotate_left
                     ·rintro w' ⟨s0, s1, s2, s3, s4, s5, s6, s7, s8⟩
                      go_simp
                      with_reducible rfl
                     rotate_left
                     ·simp only [Act.put, List.setIfInBounds_toArray, List.set_cons_zero, List.set_cons_succ, i64_w, i32_w]
                      rfl
                     refine pure_ (i := 20) (N := some 77) (v := ?_) (a' := ?_) #[true, true, true, true, true, true, true, true, true, true, true, true, true, true, true, true, true, true, true, true, true, true, false, false, false] rfl rfl (any_of HT_.out (by kernel_rfl)) (fun _ _ _ h => h) (Or.inl ⟨by rfl, ?_⟩) ?_ ?_
                     rotate_left
                     ·intro w'
                      go_simp
                      with_reducible rfl
                     rotate_left
                     ·simp only [Act.put, List.setIfInBounds_toArray, List.set_cons_zero, List.set_cons_succ, i64_w, i32_w]
                      rfl
                     refine take_ (i := 22) (N := some 79) (v := ?_) (a' := ?_) #[true, true, true, true, true, true, true, true, true, true, true, true, true, true, true, true, true, true, true, true, true, true, true, false, false] rfl rfl (take_ofW HT_.out HW_.out (by kernel_rfl)) (fun _ _ _ h => h) (Or.inl ⟨by rfl, ?_⟩) hHeld ?_ ?_
                     rotate_left
                     ·rintro w' ⟨s0, s1, s2, s3, s4, s5, s6, s7, s8⟩
                      go_simp
                      with_reducible rfl
                     rotate_left
                     ·simp only [Act.put, List.setIfInBounds_toArray, List.set_cons_zero, List.set_cons_succ, i64_w, i32_w]
                      rfl
                     refine pure_ (i := 23) (N := some 80) (v := ?_) (a' := ?_) #[true, true, true, true, true, true, true, true, true, true, true, true, true, true, true, true, true, true, true, true, true, true, true, true, false] rfl rfl (any_of HT_.out (by kernel_rfl)) (fun _ _ _ h => h) (Or.inl ⟨by rfl, ?_⟩) ?_ ?_
                     rotate_left
                     ·intro w'
                      go_simp
                      with_reducible rfl
                     rotate_left
                     ·simp only [Act.put, List.setIfInBounds_toArray, List.set_cons_zero, List.set_cons_succ, i64_w, i32_w]
                      rfl
                     refine pure_ (i := 24) (N := some 81) (v := ?_) (a' := ?_) #[true, true, true, true, true, true, true, true, true, true, true, true, true, true, true, true, true, true, true, true, true, true, true, true, true] rfl rfl (any_of HT_.out (by kernel_rfl)) (fun _ _ _ h => h) (Or.inl ⟨by rfl, ?_⟩) ?_ ?_
                     rotate_left
                     ·intro w'
                      go_simp
                      with_reducible rfl
                     rotate_left
                     ·simp only [Act.put, List.setIfInBounds_toArray, List.set_cons_zero, List.set_cons_succ, i64_w, i32_w]
                      rfl
                     refine done_ (done_of HT_.out (by kernel_rfl)) ?_
                     have hcz45_0 : w44.cell? ⟨gb654, 0, none⟩ = some (.string ((rd_T79 x5_1 x7_2).f0)) := (blk_cell BK654.out 0).trans rfl
                     have hcz45_1 : w44.cell? ⟨gb654, 1, none⟩ = some (.int .i64 ((rd_T79 x5_1 x7_2).f1)) := (blk_cell BK654.out 1).trans rfl
                     have hcz45_2 : w44.cell? ⟨gb654, 2, none⟩ = some (.int .i64 ((rd_T79 x5_1 x7_2).f2)) := (blk_cell BK654.out 2).trans rfl
                     have hfz45_0 := blk_frozen BK654.out 0
                     have hfz45_1 := blk_frozen BK654.out 1
                     have hfz45_2 := blk_frozen BK654.out 2
                     have p35 : 0 ≤ ((ji30) : Int) := of_decide_eq_true (by first | (with_reducible assumption) | assumption)
                     have q35 : ((ji30) : Int) < ((x6_1.length : Int) : Int) := of_decide_eq_true (by first | (with_reducible assumption) | assumption)
                     obtain ⟨go35, co35, eo35, gb35, gl35, cl35, HG35⟩ := Kd.R_form HO_6.out (by omega)
                     (first | cases eo35 | (injection eo35 with ea_ en_ ec_; (first | subst ea_ | (injection ea_ with ea_; subst ea_)); subst ec_; clear en_))
                     have GB35 := Aside0.mk gb35
                     have GG35 := Aside0.mk HG35
                     clear gb35 gl35 HG35
                     (first | simp only [add_plain] at hx669_0 | skip)
                     (first | simp only [add_plain] at hx669_1 | skip)
                     (first | simp only [add_plain] at hx669_2 | skip)
                     (first | simp only [add_plain] at hx670_0 | skip)
                     (first | simp only [add_plain] at hx670_1 | skip)
                     (first | simp only [add_plain] at hx670_2 | skip)
                     obtain ⟨ce35, hcl35, hM35, hcc35, hfr35⟩ := Kd.R_elem HO_6.out z79 ((ji30) : Int) p35 q35
                     obtain rfl := k79_openM hM35
                     have hx35_0 : w44.cell? ⟨go35, ((ji30) : Int).toNat * 3, none⟩ = some (.string ((rd_T79 x6_1 (ji30)).f0)) := hcc35 0 _ rfl
                     have hx35_1 : w44.cell? ⟨go35, ((ji30) : Int).toNat * 3 + 1, none⟩ = some (.int .i64 ((rd_T79 x6_1 (ji30)).f1)) := hcc35 1 _ rfl
                     have hx35_2 : w44.cell? ⟨go35, ((ji30) : Int).toNat * 3 + 2, none⟩ = some (.int .i64 ((rd_T79 x6_1 (ji30)).f2)) := hcc35 2 _ rfl
                     have hf35_0 : w44.frozen? ⟨go35, ((ji30) : Int).toNat * 3, none⟩ = false := hfr35 0
                     have hf35_1 : w44.frozen? ⟨go35, ((ji30) : Int).toNat * 3 + 1, none⟩ = false := hfr35 1
                     have hf35_2 : w44.frozen? ⟨go35, ((ji30) : Int).toNat * 3 + 2, none⟩ = false := hfr35 2
                     clear hcl35 hcc35 hfr35 hM35
                     replace p35 := eq_true p35
                     replace q35 := eq_true q35
                     have n_ := Aside0.mk (Kd.R_mono (ok' := (fun k_ => some k_ ≠ (.slice (some ad653) x5_1.length co9 : Value).ownBlock ∧ some k_ ≠ (v667 : Value).ownBlock ∧ k_ ≠ gb654)) HO_6.out (fun k_ hk => ⟨hk.1.1, ⟨hk.2, hk.1.2⟩⟩))
                     clear HO_6
                     have HO_6 := n_
                     clear n_
                     have HX46 := Aside0.mk (show Kd.R k79 79 w44 w.heap.size (fun k_ => some k_ ≠ (.slice (some ad653) x5_1.length co9 : Value).ownBlock ∧ some k_ ≠ (v667 : Value).ownBlock ∧ k_ ≠ gb654) (.slice (some ⟨go35, 0, none⟩) x6_1.length co43) x6_1 from (by (with_reducible repeat (first | apply Kd.R_alloc | apply Kd.R_drewN | apply Kd.R_drew)); exact HO_6.out))
                     obtain ⟨ce46, hcl46, hM46, hcc46, hfr46⟩ := Kd.R_elem HX46.out z79 ((ji30) : Int) (of_decide_eq_true (by first | (with_reducible assumption) | assumption)) (by have h_ : ((ji30) : Int) < ((x6_1.length : Int) : Int) := of_decide_eq_true (by first | (with_reducible assumption) | assumption); first | exact h_ | (have e_ := (Kd.R_reads' HO_6.out).1; omega) | simpa using h_)
                     obtain rfl := k79_openM hM46
                     have HP46 := Kd.R_seg HX46.out ((ji30) : Int) (of_decide_eq_true (by first | (with_reducible assumption) | assumption)) (by have h_ : ((ji30) : Int) < ((x6_1.length : Int) : Int) := of_decide_eq_true (by first | (with_reducible assumption) | assumption); first | exact h_ | (have e_ := (Kd.R_reads' HO_6.out).1; omega) | simpa using h_) (seg := [.int .i64 ((rd_T79 x5_1 x7_2).f2)]) (j := 2) hcl46 hcc46 (show 3 ≤ 3 from by decide) (x' := (⟨(rd_T79 x6_1 (ji30)).f0, (rd_T79 x6_1 (ji30)).f1, (rd_T79 x5_1 x7_2).f2⟩ : S79)) (k79_mkM _ _ _ (⟨(rd_T79 x6_1 (ji30)).f0, (rd_T79 x6_1 (ji30)).f1, (rd_T79 x5_1 x7_2).f2⟩ : S79) ) (fun _ hk => hk)
                     have hx46_2 := hcc46 2 _ rfl
                     (try simp only [show (k79).sz = 3 from rfl, Nat.mul_one, Nat.add_zero] at hx46_2)
                     have hf46_2 := hfr46 2
                     (try simp only [show (k79).sz = 3 from rfl, Nat.mul_one, Nat.add_zero] at hf46_2)
                     clear hcl46 hcc46 hfr46 hM46
                     try go_wp2_with (first | ((with_reducible refine gate_store (t := 3) (p := 88) rfl ?_); refine store_event (t := 3) (p := 88) (v := ?vo_w47) (w1 := (w44.setCell ⟨go35, ((ji30) : Int).toNat * 3 + 2, none⟩ (.int .i64 ((rd_T79 x5_1 x7_2).f2)))) ?hg ?ho ?hn ?hr ?_; (case ho => rfl); (case hg => rfl); (case hn => rfl); (case hr => first | (go_simp; done) | (go_simp; rfl)); intro w47 hw; have hg : w44.grownBy w47 (some go35) := (by rw [hw]; exact HP46.2); have hp_ : Kd.R k79 79 w47 w.heap.size (fun k_ => some k_ ≠ (.slice (some ad653) x5_1.length co9 : Value).ownBlock ∧ some k_ ≠ (v667 : Value).ownBlock ∧ k_ ≠ gb654) (.slice (some ⟨go35, 0, none⟩) x6_1.length co43) y671 := (by rw [hw, Ny671.out]; exact HP46.1); clear HP46; have n0_ := Aside0.mk (Kd.R_after (v := (.slice (some ⟨go35, 0, none⟩) x6_1.length co43)) (v1 := (.slice (some ⟨go35, 0, none⟩) x6_1.length co43)) (ok := (fun k_ => some k_ ≠ (v667 : Value).ownBlock ∧ k_ ≠ gb654)) (by (with_reducible repeat (first | apply Kd.R_alloc | apply Kd.R_drewN | apply Kd.R_drew)); exact Kd.R_mono HO_5.out (fun _ hk => ⟨⟨hk.2, hk.1.2⟩, hk.1.1⟩)) hg (.inl rfl)); have n1_ := Aside0.mk (hp_); have n2_ := Aside0.mk (blk_grown (g := gb654) (o := .cells #[.string ((rd_T79 x5_1 x7_2).f0), .int .i64 ((rd_T79 x5_1 x7_2).f1), .int .i64 ((rd_T79 x5_1 x7_2).f2)] 79 (0, 0)) (by (with_reducible repeat (first | refine blk_drewN ?_ _ | refine blk_drew ?_ | refine blk_alloc ?_ _)); exact BK654.out) hg (Kd.R_away HO_6.out (fun _ hk => hk.2.2))); have n3_ := Aside0.mk (Kd.R_after (v := (.slice (some ⟨go35, 0, none⟩) x6_1.length co43)) (v1 := (.slice (some ⟨go35, 0, none⟩) x6_1.length co43)) (ok := (fun k_ => some k_ ≠ (.slice (some ad653) x5_1.length co9 : Value).ownBlock ∧ k_ ≠ gb654)) (by (with_reducible repeat (first | apply Kd.R_alloc | apply Kd.R_drewN | apply Kd.R_drew)); exact Kd.R_mono HO668.out (fun _ hk => ⟨⟨hk.1, hk.2.2⟩, hk.2.1⟩)) hg (.inl rfl)); have n4_ := Aside0.mk ((by rw [hw]; exact below_set (HB.out) GB35.out : Below w.heap.size w w47)); have n5_ := Aside0.mk ((show Kd.C k79 w47 (some ad653) y655.length y655 from by rw [Ny655.out]; exact Kd.C_take (m := (x7_2 : Int).toNat) ((Kd.R_reads' (Kd.R_after (v := (.slice (some ⟨go35, 0, none⟩) x6_1.length co43)) (v1 := (.slice (some ⟨go35, 0, none⟩) x6_1.length co43)) (ok := (fun k_ => some k_ ≠ (v667 : Value).ownBlock ∧ k_ ≠ gb654)) (by (with_reducible repeat (first | apply Kd.R_alloc | apply Kd.R_drewN | apply Kd.R_drew)); exact Kd.R_mono HO_5.out (fun _ hk => ⟨⟨hk.2, hk.1.2⟩, hk.1.1⟩)) hg (.inl rfl))).2.2) KL39.out)); have n6_ := Aside0.mk ((show Kd.C k79 w47 A41 y662.length y662 from by rw [Ny662.out, KA41.out]; exact Kd.C_drop (m := ((ji25) : Int).toNat) (c := co9) ((Kd.R_reads' (Kd.R_after (v := (.slice (some ⟨go35, 0, none⟩) x6_1.length co43)) (v1 := (.slice (some ⟨go35, 0, none⟩) x6_1.length co43)) (ok := (fun k_ => some k_ ≠ (v667 : Value).ownBlock ∧ k_ ≠ gb654)) (by (with_reducible repeat (first | apply Kd.R_alloc | apply Kd.R_drewN | apply Kd.R_drew)); exact Kd.R_mono HO_5.out (fun _ hk => ⟨⟨hk.2, hk.1.2⟩, hk.1.1⟩)) hg (.inl rfl))).2.2) KL41.out ((Kd.R_reads' (Kd.R_after (v := (.slice (some ⟨go35, 0, none⟩) x6_1.length co43)) (v1 := (.slice (some ⟨go35, 0, none⟩) x6_1.length co43)) (ok := (fun k_ => some k_ ≠ (v667 : Value).ownBlock ∧ k_ ≠ gb654)) (by (with_reducible repeat (first | apply Kd.R_alloc | apply Kd.R_drewN | apply Kd.R_drew)); exact Kd.R_mono HO_5.out (fun _ hk => ⟨⟨hk.2, hk.1.2⟩, hk.1.1⟩)) hg (.inl rfl))).2.1))); clear HO_5; clear HO_6; clear BK654; clear HO668; clear HB; clear HR658; clear HR665; have HO_5 := n0_; have HO_6 := n1_; have BK654 := n2_; have HO668 := n3_; have HB := n4_; have HR658 := n5_; have HR665 := n6_; clear n0_ n1_ n2_ n3_ n4_ n5_ n6_; clear hg hw hp_))
                     go_roundg k2
                     case measure => have := HK1.out; have := HK2.out; omega
                     case rel => exact ⟨(y666), (y671), H', ⟨by have := HK1.out; have := HK2.out; omega⟩, ⟨by (with_reducible repeat (first | apply Kd.R_alloc | apply Kd.R_drewN | apply Kd.R_drew)); exact Kd.R_mono HO668.out (fun _ hk => hk.2)⟩, ⟨by (with_reducible repeat (first | apply Kd.R_alloc | apply Kd.R_drewN | apply Kd.R_drew)); exact Kd.R_mono HO_6.out (fun _ hk => hk.2.1)⟩, ⟨by repeat (first | (with_reducible first | exact HB.out | apply below_alloc | apply pw_below_drewN | apply below_drew1 | refine below_set ?_ GE654.out) | exact HB.out)⟩⟩
                    ·rw [if_neg c34] at H
                     have c34b0 : ((wrap64 (((rd_T79 x6_1 (ji30)).f2) + 1)) == ((rd_T79 x5_1 x7_2).f1)) = false := beq_eq_false_iff_ne.mpr c34
                     have c34b1 : ((wrap64 (((rd_T79 x6_1 (ji30)).f2) + 1)) != ((rd_T79 x5_1 x7_2).f1)) = true := bne_iff_ne.mpr c34
                     by_cases c48 : x6_1.length < 4398046511104
                     ·rw [if_pos c48] at H
                      have LMc48 := Aside0.mk c48
                      clear c48
                      obtain ⟨y672, hy672⟩ : ∃ y_ : List (S79), y_ = (x6_1 ++ [(⟨(rd_T79 x5_1 x7_2).f0, (rd_T79 x5_1 x7_2).f1, (rd_T79 x5_1 x7_2).f2⟩ : S79)]) := ⟨_, rfl⟩
                      replace H : (wigeonref01_Join.l0 k2 y666 y672) = some (r1, r2) := by first | (rw [hy672]; with_reducible exact H) | (have H2_ := (Option.bind_some _ _).symm.trans H; rw [hy672]; with_reducible exact H2_) | (have H2_ := (Option.bind_some _ _).symm.trans H; with_reducible exact H2_) | with_reducible exact H | (rw [hy672]; exact H) | exact H
                      have Ny672 := Aside0.mk hy672
                      clear hy672
                      have H' := Aside0.mk H
                      clear H
                      have p653 : 0 ≤ (x7_2 : Int) := of_decide_eq_true (by first | (with_reducible assumption) | assumption)
                      have q653 : x7_2 < (x5_1.length : Int) := of_decide_eq_true (by first | (with_reducible assumption) | assumption)
                      obtain ⟨ad653, e653, hx653_0, hx653_1, hx653_2⟩ := at_T79 (Kd.R_reads' HO_5.out).2.2 x7_2 p653 q653
                      cases e653
                      replace p653 := eq_true p653
                      replace q653 := eq_true q653
                      try go_wp2_with (first | ((with_reducible refine gate_dst (N := 9) rfl ?_); refine box_event ?hg (N := 9) ?hd (cs := #[.string (⟨#[]⟩ : ByteArray), .int .i64 0, .int .i64 0]) (t := 79) ?hr ?_; (case hd => rfl); (case hg => rfl); (case hr => first | (go_simp; done) | (go_simp; rfl)); intro gb654 hg w49 hbox hb; have n0_ := Aside0.mk (Kd.R_below (Kd.R_elderB (by (with_reducible repeat (first | apply Kd.R_alloc | apply Kd.R_drewN | apply Kd.R_drew)); exact HO_5.out) gb654 (Nat.le_of_eq hg.symm)) hb); have n1_ := Aside0.mk (Kd.R_below (Kd.R_elderB (by (with_reducible repeat (first | apply Kd.R_alloc | apply Kd.R_drewN | apply Kd.R_drew)); exact HO_6.out) gb654 (Nat.le_of_eq hg.symm)) hb); have n2_ := Aside0.mk (below_step (by repeat (first | (with_reducible first | exact HB.out | apply below_alloc | apply pw_below_drewN | apply below_drew1) | exact HB.out)) hb); have n3_ := Aside0.mk (hbox); have n4_ := Aside0.mk ((by rw [hg]; exact (below_size (by repeat (first | (with_reducible first | exact HB.out | apply below_alloc | apply pw_below_drewN | apply below_drew1) | exact HB.out))) : w.heap.size ≤ gb654)); have n5_ := Aside0.mk ((by rw [hg]; exact (below_size (by repeat (first | (with_reducible first | exact HB.out | apply below_alloc | apply pw_below_drewN | apply below_drew1) | exact HB.out))) : w.heap.size ≤ gb654)); clear HO_5; clear HO_6; clear HB; have HO_5 := n0_; have HO_6 := n1_; have HB := n2_; have BK654 := n3_; have GW654 := n4_; have GE654 := n5_; clear n0_ n1_ n2_ n3_ n4_ n5_; clear hb hbox hg; have hcz50_0 : w49.cell? ⟨gb654, 0, none⟩ = some (.string (⟨#[]⟩ : ByteArray)) := (blk_cell BK654.out 0).trans rfl; have hcz50_1 : w49.cell? ⟨gb654, 1, none⟩ = some (.int .i64 0) := (blk_cell BK654.out 1).trans rfl; have hcz50_2 : w49.cell? ⟨gb654, 2, none⟩ = some (.int .i64 0) := (blk_cell BK654.out 2).trans rfl; have hfz50_0 := blk_frozen BK654.out 0; have hfz50_1 := blk_frozen BK654.out 1; have hfz50_2 := blk_frozen BK654.out 2) | ((with_reducible refine gate_store (t := 79) (p := 9) rfl ?_); refine store_event (t := 79) (p := 9) (v := ?vo_w51) (w1 := (((w49.setCell ⟨gb654, 0, none⟩ (.string ((rd_T79 x5_1 x7_2).f0))).setCell ⟨gb654, 1, none⟩ (.int .i64 ((rd_T79 x5_1 x7_2).f1))).setCell ⟨gb654, 2, none⟩ (.int .i64 ((rd_T79 x5_1 x7_2).f2)))) ?hg ?ho ?hn ?hr ?_; (case ho => rfl); (case hg => rfl); (case hn => rfl); (case hr => first | (go_simp; done) | (go_simp; rfl)); intro w51 hw; have n0_ : Aside0 (Kd.R k79 79 w51 w.heap.size (fun k_ => some k_ ≠ (u6 : Value).ownBlock ∧ k_ ≠ gb654) (.slice (some ad653) x5_1.length co9) x5_1) := ⟨(by rw [hw]; exact (by (with_reducible repeat (first | apply Kd.R_alloc | apply Kd.R_drewN | apply Kd.R_drew)); exact Kd.R_mono (Kd.R_far (p := ⟨gb654, 2, none⟩) (Kd.R_far (p := ⟨gb654, 1, none⟩) (Kd.R_far (p := ⟨gb654, 0, none⟩) (Kd.R_mono HO_5.out (fun k_ hk => (⟨hk, hk.2⟩ : _ ∧ k_ ≠ gb654))) (fun _ hk => hk.2) (.string ((rd_T79 x5_1 x7_2).f0))) (fun _ hk => hk.2) (.int .i64 ((rd_T79 x5_1 x7_2).f1))) (fun _ hk => hk.2) (.int .i64 ((rd_T79 x5_1 x7_2).f2))) (fun _ hk => ⟨hk.1.1, hk.1.2⟩)))⟩; have n1_ : Aside0 (Kd.R k79 79 w51 w.heap.size (fun k_ => some k_ ≠ (.slice (some ad653) x5_1.length co9 : Value).ownBlock ∧ k_ ≠ gb654) u6 x6_1) := ⟨(by rw [hw]; exact (by (with_reducible repeat (first | apply Kd.R_alloc | apply Kd.R_drewN | apply Kd.R_drew)); exact Kd.R_mono (Kd.R_far (p := ⟨gb654, 2, none⟩) (Kd.R_far (p := ⟨gb654, 1, none⟩) (Kd.R_far (p := ⟨gb654, 0, none⟩) (Kd.R_mono HO_6.out (fun k_ hk => (⟨hk, hk.2⟩ : _ ∧ k_ ≠ gb654))) (fun _ hk => hk.2) (.string ((rd_T79 x5_1 x7_2).f0))) (fun _ hk => hk.2) (.int .i64 ((rd_T79 x5_1 x7_2).f1))) (fun _ hk => hk.2) (.int .i64 ((rd_T79 x5_1 x7_2).f2))) (fun _ hk => ⟨hk.1.1, hk.1.2⟩)))⟩; have n2_ : Aside0 (w51.heap[gb654]? = some (.cells #[.string ((rd_T79 x5_1 x7_2).f0), .int .i64 ((rd_T79 x5_1 x7_2).f1), .int .i64 ((rd_T79 x5_1 x7_2).f2)] 79 (0, 0))) := ⟨(by rw [hw]; exact (by (with_reducible repeat (first | refine blk_drewN ?_ _ | refine blk_drew ?_ | refine blk_alloc ?_ _)); refine blk_put (cs := #[.string ((rd_T79 x5_1 x7_2).f0), .int .i64 ((rd_T79 x5_1 x7_2).f1), .int .i64 0]) ?_ 2 _ rfl; (with_reducible repeat (first | refine blk_drewN ?_ _ | refine blk_drew ?_ | refine blk_alloc ?_ _)); refine blk_put (cs := #[.string ((rd_T79 x5_1 x7_2).f0), .int .i64 0, .int .i64 0]) ?_ 1 _ rfl; (with_reducible repeat (first | refine blk_drewN ?_ _ | refine blk_drew ?_ | refine blk_alloc ?_ _)); refine blk_put (cs := #[.string (⟨#[]⟩ : ByteArray), .int .i64 0, .int .i64 0]) ?_ 0 _ rfl; (with_reducible repeat (first | refine blk_drewN ?_ _ | refine blk_drew ?_ | refine blk_alloc ?_ _)); exact BK654.out))⟩; have n3_ : Aside0 (Below w.heap.size w w51) := ⟨(by rw [hw]; exact (by repeat (first | (with_reducible first | exact HB.out | apply below_alloc | apply pw_below_drewN | apply below_drew1 | refine below_set ?_ GE654.out) | exact HB.out)))⟩; clear hw; clear HO_5; clear HO_6; clear BK654; clear HB; have HO_5 := n0_; have HO_6 := n1_; have BK654 := n2_; have HB := n3_; clear n0_ n1_ n2_ n3_; have q52 : (x7_2 : Int) ≤ ((x5_1.length : Int) : Int) := of_decide_eq_true (by first | (with_reducible assumption) | assumption); obtain ⟨i052, hi052, _, hsz52, _⟩ := info_parts info79; have hroom52 : x5_1.length ≤ co9 := (Kd.R_reads' HO_5.out).2.1; have hC52 : Kd.C k79 _ (some ad653) x5_1.length x5_1 := (Kd.R_reads' HO_5.out).2.2; have hcut52 := cut_to (P := Try.prog) 48 79 .i64 Try.underlying48 hi052 (some ad653) x5_1.length co9 x7_2 (of_decide_eq_true (by first | (with_reducible assumption) | assumption)) q52 hroom52; have hr52 := Kd.C_take (m := (x7_2 : Int).toNat) hC52 (by omega); have hy52 : y655.length = (x7_2 : Int).toNat := (by rw [Ny655.out, List.length_take]; omega); rw [← Ny655.out] at hr52; rw [← hy52] at hcut52; have HR658 := Aside0.mk hr52; have HC658 := Aside0.mk (show y655.length ≤ co9 from by omega); clear hr52 hC52 hroom52 hi052 hsz52; have KY52 := Aside0.mk hy52; clear hy52; have KL52 := Aside0.mk (show (x7_2 : Int).toNat ≤ x5_1.length from by omega); replace q52 := eq_true q52) | ((with_reducible refine gate_builtin (b := .append) (xs := #[.tmp 43, .tmp 46]) rfl ?_); at_builtin; refine Kd.R_append_rows k79 (w0 := w) w.heap.size rfl (.tmp 43) (.tmp 46) 48 79 (.agg #[(.string ⟨#[]⟩), (.int .i64 0), (.int .i64 0)]) 32 rfl Try.underlying48 info79 rfl (by decide) (by omega) (.slice none 0 0) ([] : List (S79)) y655 _ _ _ (fun k_ => some k_ ≠ (.slice (some ad653) x5_1.length co9 : Value).ownBlock ∧ some k_ ≠ (u6 : Value).ownBlock ∧ k_ ≠ gb654) (fun _ => False) rfl rfl ?aO ?aR (fun _ _ h => h) (fun _ h => h.elim) ?aF ?aB ?aS ?aL ?_; (case aR => repeat (first | exact (by repeat (first | (with_reducible exact HR658.out) | (with_reducible refine Kd.C_alloc ?_ _) | (with_reducible refine Kd.C_drewN ?_ _) | (with_reducible refine Kd.C_drew ?_) | exact HR658.out)) | (with_reducible refine Kd.C_alloc ?_ _) | (with_reducible refine Kd.C_drewN ?_ _) | (with_reducible refine Kd.C_drew ?_))); (case aB => exact (by repeat (first | (with_reducible first | exact HB.out | apply below_alloc | apply pw_below_drewN | apply below_drew1 | refine below_set ?_ GE654.out) | exact HB.out))); (case aF => exact (fun k_ hk => ⟨Kd.fresh' (Kd.R_lt (by (with_reducible repeat (first | apply Kd.R_alloc | apply Kd.R_drewN | apply Kd.R_drew)); exact HO_5.out)) k_ hk, Kd.fresh' (Kd.R_lt (by (with_reducible repeat (first | apply Kd.R_alloc | apply Kd.R_drewN | apply Kd.R_drew)); exact HO_6.out)) k_ hk, Kd.freshB (g := gb654) (o := .cells #[.string ((rd_T79 x5_1 x7_2).f0), .int .i64 ((rd_T79 x5_1 x7_2).f1), .int .i64 ((rd_T79 x5_1 x7_2).f2)] 79 (0, 0)) (by (with_reducible repeat (first | refine blk_drewN ?_ _ | refine blk_drew ?_ | refine blk_alloc ?_ _)); exact BK654.out) k_ hk⟩)); (case aO => exact ((Kd.R_nil _ _ _ _ (fun k_ => some k_ ≠ (.slice (some ad653) x5_1.length co9 : Value).ownBlock ∧ some k_ ≠ (u6 : Value).ownBlock ∧ k_ ≠ gb654)))); (case aS => exact (below_size (by repeat (first | (with_reducible first | exact HB.out | apply below_alloc | apply pw_below_drewN | apply below_drew1 | refine below_set ?_ GE654.out) | exact HB.out)))); (case aL => have := LMc24.out; omega); intro v660 w53 ho hb hg hat; rw [← Ny659.out] at ho; have n0_ := Aside0.mk (Kd.R_after (Kd.R_apart_nil (by (with_reducible repeat (first | apply Kd.R_alloc | apply Kd.R_drewN | apply Kd.R_drew)); exact HO_5.out)) hg hat); have n1_ := Aside0.mk (Kd.R_after (Kd.R_apart_nil (by (with_reducible repeat (first | apply Kd.R_alloc | apply Kd.R_drewN | apply Kd.R_drew)); exact HO_6.out)) hg hat); have n2_ := Aside0.mk (blk_grown (g := gb654) (o := .cells #[.string ((rd_T79 x5_1 x7_2).f0), .int .i64 ((rd_T79 x5_1 x7_2).f1), .int .i64 ((rd_T79 x5_1 x7_2).f2)] 79 (0, 0)) (by (with_reducible repeat (first | refine blk_drewN ?_ _ | refine blk_drew ?_ | refine blk_alloc ?_ _)); exact BK654.out) hg (by simp [Value.ownBlock])); have n3_ := Aside0.mk (hb); have n4_ := Aside0.mk ((show Kd.C k79 w53 (some ad653) y655.length y655 from by rw [Ny655.out]; exact Kd.C_take (m := (x7_2 : Int).toNat) ((Kd.R_reads' (Kd.R_after (Kd.R_apart_nil (by (with_reducible repeat (first | apply Kd.R_alloc | apply Kd.R_drewN | apply Kd.R_drew)); exact HO_5.out)) hg hat)).2.2) KL52.out)); have n5_ := Aside0.mk (ho); clear HO_5; clear HO_6; clear BK654; clear HB; clear HR658; have HO_5 := n0_; have HO_6 := n1_; have BK654 := n2_; have HB := n3_; have HR658 := n4_; have HO661 := n5_; clear n0_ n1_ n2_ n3_ n4_ n5_; clear ho hb hg hat; have q54 : ((ji25) : Int) ≤ ((x5_1.length : Int) : Int) := of_decide_eq_true (by first | (with_reducible assumption) | assumption); obtain ⟨i054, hi054, _, hsz54, _⟩ := info_parts info79; have hroom54 : x5_1.length ≤ co9 := (Kd.R_reads' HO_5.out).2.1; have hC54 : Kd.C k79 _ (some ad653) x5_1.length x5_1 := (Kd.R_reads' HO_5.out).2.2; have q054 : (0 : Int) ≤ ((ji25) : Int) := of_decide_eq_true (by first | (with_reducible assumption) | assumption); have hcut54 := cut_from (P := Try.prog) 48 79 .i64 Try.underlying48 hi054 3 hsz54 (some ad653) x5_1.length co9 (ji25) q054 q54; have hr54 := Kd.C_drop (m := ((ji25) : Int).toNat) (c := co9) hC54 (by omega) hroom54; obtain ⟨A54, hA54⟩ : ∃ A1, A1 = (if co9 = ((ji25) : Int).toNat then (some ad653) else ((some ad653) : Option Addr).map (·.add (((ji25) : Int).toNat * 3))) := ⟨_, rfl⟩; obtain ⟨c54, hc54⟩ : ∃ c1, c1 = co9 - ((ji25) : Int).toNat := ⟨_, rfl⟩; have hy54 : y662.length = x5_1.length - ((ji25) : Int).toNat := (by rw [Ny662.out, List.length_drop] <;> omega); rw [show (x5_1).drop ((ji25) : Int).toNat = y662 from Ny662.out.symm] at hr54; replace hr54 : Kd.C k79 _ A54 y662.length y662 := (by rw [hA54]; exact hr54); rw [← hy54, ← hA54, ← hc54] at hcut54; have HR665 := Aside0.mk hr54; have HC665 := Aside0.mk (show y662.length ≤ c54 from by rw [hy54, hc54]; exact Nat.sub_le_sub_right hroom54 _); clear hr54 hC54 hroom54 hi054 hsz54 hc54; have KY54 := Aside0.mk hy54; have KA54 := Aside0.mk hA54; clear hy54 hA54; have KL54 := Aside0.mk (show ((ji25) : Int).toNat ≤ x5_1.length from by omega); replace q54 := eq_true q54) | ((with_reducible refine gate_builtin (b := .append) (xs := #[.tmp 48, .tmp 52]) rfl ?_); at_builtin; refine Kd.R_append_rows k79 (w0 := w) w.heap.size rfl (.tmp 48) (.tmp 52) 48 79 (.agg #[(.string ⟨#[]⟩), (.int .i64 0), (.int .i64 0)]) 32 rfl Try.underlying48 info79 rfl (by decide) (by omega) v660 y659 y662 _ _ _ (fun k_ => some k_ ≠ (.slice (some ad653) x5_1.length co9 : Value).ownBlock ∧ some k_ ≠ (u6 : Value).ownBlock ∧ k_ ≠ gb654) (fun _ => False) rfl rfl ?aO ?aR (fun _ _ h => h) (fun _ h => h.elim) ?aF ?aB ?aS ?aL ?_; (case aR => repeat (first | exact (by repeat (first | (with_reducible exact HR665.out) | (with_reducible refine Kd.C_alloc ?_ _) | (with_reducible refine Kd.C_drewN ?_ _) | (with_reducible refine Kd.C_drew ?_) | exact HR665.out)) | (with_reducible refine Kd.C_alloc ?_ _) | (with_reducible refine Kd.C_drewN ?_ _) | (with_reducible refine Kd.C_drew ?_))); (case aB => exact (by repeat (first | (with_reducible first | exact HB.out | apply below_alloc | apply pw_below_drewN | apply below_drew1 | refine below_set ?_ GE654.out) | exact HB.out))); (case aF => exact (fun k_ hk => ⟨Kd.fresh' (Kd.R_lt (by (with_reducible repeat (first | apply Kd.R_alloc | apply Kd.R_drewN | apply Kd.R_drew)); exact HO_5.out)) k_ hk, Kd.fresh' (Kd.R_lt (by (with_reducible repeat (first | apply Kd.R_alloc | apply Kd.R_drewN | apply Kd.R_drew)); exact HO_6.out)) k_ hk, Kd.freshB (g := gb654) (o := .cells #[.string ((rd_T79 x5_1 x7_2).f0), .int .i64 ((rd_T79 x5_1 x7_2).f1), .int .i64 ((rd_T79 x5_1 x7_2).f2)] 79 (0, 0)) (by (with_reducible repeat (first | refine blk_drewN ?_ _ | refine blk_drew ?_ | refine blk_alloc ?_ _)); exact BK654.out) k_ hk⟩)); (case aO => exact (by (with_reducible repeat (first | apply Kd.R_alloc | apply Kd.R_drewN | apply Kd.R_drew)); exact HO661.out)); (case aS => exact (below_size (by repeat (first | (with_reducible first | exact HB.out | apply below_alloc | apply pw_below_drewN | apply below_drew1 | refine below_set ?_ GE654.out) | exact HB.out)))); (case aL => have := LMc28.out; omega); intro v667 w55 ho hb hg hat; rw [← Ny666.out] at ho; have n0_ := Aside0.mk (Kd.R_after (ok := (fun k_ => some k_ ≠ (u6 : Value).ownBlock ∧ k_ ≠ gb654)) (by (with_reducible repeat (first | apply Kd.R_alloc | apply Kd.R_drewN | apply Kd.R_drew)); exact HO_5.out) hg hat); have n1_ := Aside0.mk (Kd.R_after (ok := (fun k_ => some k_ ≠ (.slice (some ad653) x5_1.length co9 : Value).ownBlock ∧ k_ ≠ gb654)) (by (with_reducible repeat (first | apply Kd.R_alloc | apply Kd.R_drewN | apply Kd.R_drew)); exact HO_6.out) hg hat); have n2_ := Aside0.mk (blk_grown (g := gb654) (o := .cells #[.string ((rd_T79 x5_1 x7_2).f0), .int .i64 ((rd_T79 x5_1 x7_2).f1), .int .i64 ((rd_T79 x5_1 x7_2).f2)] 79 (0, 0)) (by (with_reducible repeat (first | refine blk_drewN ?_ _ | refine blk_drew ?_ | refine blk_alloc ?_ _)); exact BK654.out) hg (Kd.R_away HO661.out (fun _ hk => hk.2.2))); have n3_ := Aside0.mk (hb); have n4_ := Aside0.mk ((show Kd.C k79 w55 (some ad653) y655.length y655 from by rw [Ny655.out]; exact Kd.C_take (m := (x7_2 : Int).toNat) ((Kd.R_reads' (Kd.R_after (ok := (fun k_ => some k_ ≠ (u6 : Value).ownBlock ∧ k_ ≠ gb654)) (by (with_reducible repeat (first | apply Kd.R_alloc | apply Kd.R_drewN | apply Kd.R_drew)); exact HO_5.out) hg hat)).2.2) KL52.out)); have n5_ := Aside0.mk ((show Kd.C k79 w55 A54 y662.length y662 from by rw [Ny662.out, KA54.out]; exact Kd.C_drop (m := ((ji25) : Int).toNat) (c := co9) ((Kd.R_reads' (Kd.R_after (ok := (fun k_ => some k_ ≠ (u6 : Value).ownBlock ∧ k_ ≠ gb654)) (by (with_reducible repeat (first | apply Kd.R_alloc | apply Kd.R_drewN | apply Kd.R_drew)); exact HO_5.out) hg hat)).2.2) KL54.out ((Kd.R_reads' (Kd.R_after (ok := (fun k_ => some k_ ≠ (u6 : Value).ownBlock ∧ k_ ≠ gb654)) (by (with_reducible repeat (first | apply Kd.R_alloc | apply Kd.R_drewN | apply Kd.R_drew)); exact HO_5.out) hg hat)).2.1))); have n6_ := Aside0.mk (ho); clear HO_5; clear HO_6; clear BK654; clear HB; clear HR658; clear HR665; clear HO661; have HO_5 := n0_; have HO_6 := n1_; have BK654 := n2_; have HB := n3_; have HR658 := n4_; have HR665 := n5_; have HO668 := n6_; clear n0_ n1_ n2_ n3_ n4_ n5_ n6_; clear ho hb hg hat; obtain ⟨Ao56, co56, eo56⟩ := Kd.R_slice HO_6.out; subst eo56))
                      have n0_ := Aside0.mk (Kd.R_drew HO_5.out)
                      have n1_ := Aside0.mk (Kd.R_drew HO_6.out)
                      have n2_ := Aside0.mk (Kd.R_drew HO668.out)
                      have n3_ := Aside0.mk (blk_drew BK654.out)
                      have n4_ := Aside0.mk (Kd.C_drew HR658.out)
                      have n5_ := Aside0.mk (Kd.C_drew HR665.out)
                      have n6_ := Aside0.mk (below_drew1 HB.out)
                      clear HO_5
                      clear HO_6
                      clear HO668
                      clear BK654
                      clear HR658
                      clear HR665
                      clear HB
                      have HO_5 := n0_
                      have HO_6 := n1_
                      have HO668 := n2_
                      have BK654 := n3_
                      have HR658 := n4_
                      have HR665 := n5_
                      have HB := n6_
                      clear n0_ n1_ n2_ n3_ n4_ n5_ n6_
                      have p669 : 0 ≤ ((ji30) : Int) := of_decide_eq_true (by first | (with_reducible assumption) | assumption)
                      have q669 : (ji30) < (x6_1.length : Int) := of_decide_eq_true (by first | (with_reducible assumption) | assumption)
                      obtain ⟨ad669, e669, hx669_0, hx669_1, hx669_2⟩ := at_T79 (Kd.R_reads' HO_6.out).2.2 (ji30) p669 q669
                      cases e669
                      replace p669 := eq_true p669
                      replace q669 := eq_true q669
                      have p670 : 0 ≤ ((ji30) : Int) := of_decide_eq_true (by first | (with_reducible assumption) | assumption)
                      have q670 : (ji30) < (x6_1.length : Int) := of_decide_eq_true (by first | (with_reducible assumption) | assumption)
                      obtain ⟨ad670, e670, hx670_0, hx670_1, hx670_2⟩ := at_T79 (Kd.R_reads' HO_6.out).2.2 (ji30) p670 q670
                      obtain rfl : ad669 = ad670 := (by injection e670)
                      replace p670 := eq_true p670
                      replace q670 := eq_true q670
                      refine start_ (n := 25) (S := fun w' => w'.cell? ⟨gb654, 0, none⟩ = some (.string ((rd_T79 x5_1 x7_2).f0)) ∧ w'.cell? ⟨gb654, 1, none⟩ = some (.int .i64 ((rd_T79 x5_1 x7_2).f1)) ∧ w'.cell? ⟨gb654, 2, none⟩ = some (.int .i64 ((rd_T79 x5_1 x7_2).f2)) ∧ w'.cell? (ad669.add (((ji30)).toNat * 3)) = some (.string ((rd_T79 x6_1 (ji30)).f0)) ∧ w'.cell? ⟨(ad669.add (((ji30)).toNat * 3)).block, (ad669.add (((ji30)).toNat * 3)).off + 1, none⟩ = some (.int .i64 ((rd_T79 x6_1 (ji30)).f1)) ∧ w'.cell? ⟨(ad669.add (((ji30)).toNat * 3)).block, (ad669.add (((ji30)).toNat * 3)).off + 2, none⟩ = some (.int .i64 ((rd_T79 x6_1 (ji30)).f2)) ∧ w'.cell? (ad669.add (((ji30)).toNat * 3)) = some (.string ((rd_T79 x6_1 (ji30)).f0)) ∧ w'.cell? ⟨(ad669.add (((ji30)).toNat * 3)).block, (ad669.add (((ji30)).toNat * 3)).off + 1, none⟩ = some (.int .i64 ((rd_T79 x6_1 (ji30)).f1)) ∧ w'.cell? ⟨(ad669.add (((ji30)).toNat * 3)).block, (ad669.add (((ji30)).toNat * 3)).off + 2, none⟩ = some (.int .i64 ((rd_T79 x6_1 (ji30)).f2))) (ds := []) #[false, false, false, false, false, false, false, false, false, false, false, false, false, false, false, false, false, false, false, false, false, false, false, false, false] (by kernel_rfl) rfl rfl ⟨(blk_cell BK654.out 0).trans rfl, (blk_cell BK654.out 1).trans rfl, (blk_cell BK654.out 2).trans rfl, hx669_0, hx669_1, hx669_2, hx670_0, hx670_1, hx670_2⟩ (fun hHeld => ?_); refine with_tabW wigeonref01_Join.tab19 wigeonref01_Join.bits19 (fun HT_ HW_ => ?_)
                      generalize w55.drew = w57 at HO_5 HO_6 HO668 BK654 HR658 HR665 HB hx669_0 hx669_1 hx669_2 hx670_0 hx670_1 hx670_2 hHeld ⊢
                      refine pure_ (i := 0) (N := some 57) (v := ?_) (a' := ?_) #[true, false, false, false, false, false, false, false, false, false, false, false, false, false, false, false, false, false, false, false, false, false, false, false, false] rfl rfl (any_of HT_.out (by kernel_rfl)) (fun _ _ _ h => h) (Or.inl ⟨by rfl, ?_⟩) ?_ ?_
                      rotate_left
                      ·intro w'
                       go_simp
                       with_reducible rfl
                      rotate_left
                      ·simp only [Act.put, List.setIfInBounds_toArray, List.set_cons_zero, List.set_cons_succ, i64_w, i32_w]
                       rfl
                      refine pure_ (i := 1) (N := some 58) (v := ?_) (a' := ?_) #[true, true, false, false, false, false, false, false, false, false, false, false, false, false, false, false, false, false, false, false, false, false, false, false, false] rfl rfl (any_of HT_.out (by kernel_rfl)) (fun _ _ _ h => h) (Or.inl ⟨by rfl, ?_⟩) ?_ ?_
                      rotate_left
                      ·intro w'
                       go_simp
                       with_reducible rfl
                      rotate_left
                      ·simp only [Act.put, List.setIfInBounds_toArray, List.set_cons_zero, List.set_cons_succ, i64_w, i32_w]
                       rfl
                      refine pure_ (i := 2) (N := some 59) (v := ?_) (a' := ?_) #[true, true, true, false, false, false, false, false, false, false, false, false, false, false, false, false, false, false, false, false, false, false, false, false, false] rfl rfl (any_of HT_.out (by kernel_rfl)) (fun _ _ _ h => h) (Or.inl ⟨by rfl, ?_⟩) ?_ ?_
                      rotate_left
                      ·intro w'
                       go_simp
                       with_reducible rfl
                      rotate_left
                      ·simp only [Act.put, List.setIfInBounds_toArray, List.set_cons_zero, List.set_cons_succ, i64_w, i32_w]
                       rfl
                      refine pure_ (i := 3) (N := some 60) (v := ?_) (a' := ?_) #[true, true, true, true, false, false, false, false, false, false, false, false, false, false, false, false, false, false, false, false, false, false, false, false, false] rfl rfl (any_of HT_.out (by kernel_rfl)) (fun _ _ _ h => h) (Or.inl ⟨by rfl, ?_⟩) ?_ ?_
                      rotate_left
                      ·intro w'
                       go_simp
                       with_reducible rfl
                      rotate_left
                      ·simp only [Act.put, List.setIfInBounds_toArray, List.set_cons_zero, List.set_cons_succ, i64_w, i32_w]
                       rfl
                      refine pure_ (i := 4) (N := some 61) (v := ?_) (a' := ?_) #[true, true, true, true, true, false, false, false, false, false, false, false, false, false, false, false, false, false, false, false, false, false, false, false, false] rfl rfl (any_of HT_.out (by kernel_rfl)) (fun _ _ _ h => h) (Or.inl ⟨by rfl, ?_⟩) ?_ ?_
                      rotate_left
                      ·intro w'
                       go_simp
                       with_reducible rfl
                      rotate_left
                      ·simp only [Act.put, List.setIfInBounds_toArray, List.set_cons_zero, List.set_cons_succ, i64_w, i32_w]
                       rfl
                      refine pure_ (i := 5) (N := some 62) (v := ?_) (a' := ?_) #[true, true, true, true, true, true, false, false, false, false, false, false, false, false, false, false, false, false, false, false, false, false, false, false, false] rfl rfl (any_of HT_.out (by kernel_rfl)) (fun _ _ _ h => h) (Or.inl ⟨by rfl, ?_⟩) ?_ ?_
                      rotate_left
                      ·intro w'
                       go_simp
                       with_reducible rfl
                      rotate_left
                      ·simp only [Act.put, List.setIfInBounds_toArray, List.set_cons_zero, List.set_cons_succ, i64_w, i32_w]
                       rfl
                      refine pure_ (i := 6) (N := some 63) (v := ?_) (a' := ?_) #[true, true, true, true, true, true, true, false, false, false, false, false, false, false, false, false, false, false, false, false, false, false, false, false, false] rfl rfl (any_of HT_.out (by kernel_rfl)) (fun _ _ _ h => h) (Or.inl ⟨by rfl, ?_⟩) ?_ ?_
                      rotate_left
                      ·intro w'
                       go_simp
                       with_reducible rfl
                      rotate_left
                      ·simp only [Act.put, List.setIfInBounds_toArray, List.set_cons_zero, List.set_cons_succ, i64_w, i32_w]
                       rfl
                      refine pure_ (i := 7) (N := some 64) (v := ?_) (a' := ?_) #[true, true, true, true, true, true, true, true, false, false, false, false, false, false, false, false, false, false, false, false, false, false, false, false, false] rfl rfl (any_of HT_.out (by kernel_rfl)) (fun _ _ _ h => h) (Or.inl ⟨by rfl, ?_⟩) ?_ ?_
                      rotate_left
                      ·intro w'
                       go_simp
                       with_reducible rfl
                      rotate_left
                      ·simp only [Act.put, List.setIfInBounds_toArray, List.set_cons_zero, List.set_cons_succ, i64_w, i32_w]
                       rfl
                      refine pure_ (i := 9) (N := some 66) (v := ?_) (a' := ?_) #[true, true, true, true, true, true, true, true, false, true, false, false, false, false, false, false, false, false, false, false, false, false, false, false, false] rfl rfl (any_of HT_.out (by kernel_rfl)) (fun _ _ _ h => h) (Or.inl ⟨by rfl, ?_⟩) ?_ ?_
                      rotate_left
                      ·intro w'
                       go_simp
                       with_reducible rfl
                      rotate_left
                      ·simp only [Act.put, List.setIfInBounds_toArray, List.set_cons_zero, List.set_cons_succ, i64_w, i32_w]
                       rfl
                      refine take_ (i := 8) (N := some 65) (v := ?_) (a' := ?_) #[true, true, true, true, true, true, true, true, true, true, false, false, false, false, false, false, false, false, false, false, false, false, false, false, false] rfl rfl (take_ofW HT_.out HW_.out (by kernel_rfl)) (fun _ _ _ h => h) (Or.inl ⟨by rfl, ?_⟩) hHeld ?_ ?_
                      rotate_left
                      ·rintro w' ⟨s0, s1, s2, s3, s4, s5, s6, s7, s8⟩
                       go_simp
                       with_reducible rfl
                      rotate_left
                      ·simp only [Act.put, List.setIfInBounds_toArray, List.set_cons_zero, List.set_cons_succ, i64_w, i32_w]
                       rfl
                      refine take_ (i := 10) (N := some 67) (v := ?_) (a' := ?_) #[true, true, true, true, true, true, true, true, true, true, true, false, false, false, false, false, false, false, false, false, false, false, false, false, false] rfl rfl (take_ofW HT_.out HW_.out (by kernel_rfl)) (fun _ _ _ h => h) (Or.inl ⟨by rfl, ?_⟩) hHeld ?_ ?_
                      rotate_left
                      ·rintro w' ⟨s0, s1, s2, s3, s4, s5, s6, s7, s8⟩
                       go_simp
                       with_reducible rfl
                      rotate_left
                      ·simp only [Act.put, List.setIfInBounds_toArray, List.set_cons_zero, List.set_cons_succ, i64_w, i32_w]
                       rfl
                      refine pure_ (i := 11) (N := some 68) (v := ?_) (a' := ?_) #[true, true, true, true, true, true, true, true, true, true, true, true, false, false, false, false, false, false, false, false, false, false, false, false, false] rfl rfl (any_of HT_.out (by kernel_rfl)) (fun _ _ _ h => h) (Or.inl ⟨by rfl, ?_⟩) ?_ ?_
                      rotate_left
                      ·intro w'
                       go_simp
                       with_reducible rfl
                      rotate_left
                      ·simp only [Act.put, List.setIfInBounds_toArray, List.set_cons_zero, List.set_cons_succ, i64_w, i32_w]
                       rfl
                      refine pure_ (i := 12) (N := some 69) (v := ?_) (a' := ?_) #[true, true, true, true, true, true, true, true, true, true, true, true, true, false, false, false, false, false, false, false, false, false, false, false, false] rfl rfl (any_of HT_.out (by kernel_rfl)) (fun _ _ _ h => h) (Or.inl ⟨by rfl, ?_⟩) ?_ ?_
                      rotate_left
                      ·intro w'
                       go_simp
                       with_reducible rfl
                      rotate_left
                      ·simp only [Act.put, List.setIfInBounds_toArray, List.set_cons_zero, List.set_cons_succ, i64_w, i32_w]
                       rfl
                      refine pure_ (i := 13) (N := some 70) (v := ?_) (a' := ?_) #[true, true, true, true, true, true, true, true, true, true, true, true, true, true, false, false, false, false, false, false, false, false, false, false, false] rfl rfl (any_of HT_.out (by kernel_rfl)) (fun _ _ _ h => h) (Or.inl ⟨by rfl, ?_⟩) ?_ ?_
                      rotate_left
                      ·intro w'
                       go_simp
                       with_reducible rfl
                      rotate_left
                      ·simp only [Act.put, List.setIfInBounds_toArray, List.set_cons_zero, List.set_cons_succ, i64_w, i32_w]
                       rfl
                      refine pure_ (i := 14) (N := some 71) (v := ?_) (a' := ?_) #[true, true, true, true, true, true, true, true, true, true, true, true, true, true, true, false, false, false, false, false, false, false, false, false, false] rfl rfl (any_of HT_.out (by kernel_rfl)) (fun _ _ _ h => h) (Or.inl ⟨by rfl, ?_⟩) ?_ ?_
                      rotate_left
                      ·intro w'
                       go_simp
                       with_reducible rfl
                      rotate_left
                      ·simp only [Act.put, List.setIfInBounds_toArray, List.set_cons_zero, List.set_cons_succ, i64_w, i32_w]
                       rfl
                      refine pure_ (i := 15) (N := some 72) (v := ?_) (a' := ?_) #[true, true, true, true, true, true, true, true, true, true, true, true, true, true, true, true, false, false, false, false, false, false, false, false, false] rfl rfl (any_of HT_.out (by kernel_rfl)) (fun _ _ _ h => h) (Or.inl ⟨by rfl, ?_⟩) ?_ ?_
                      rotate_left
                      ·intro w'
                       go_simp
                       with_reducible rfl
                      rotate_left
                      ·simp only [Act.put, List.setIfInBounds_toArray, List.set_cons_zero, List.set_cons_succ, i64_w, i32_w]
                       rfl
                      refine pure_ (i := 16) (N := some 73) (v := ?_) (a' := ?_) #[true, true, true, true, true, true, true, true, true, true, true, true, true, true, true, true, true, false, false, false, false, false, false, false, false] rfl rfl (any_of HT_.out (by kernel_rfl)) (fun _ _ _ h => h) (Or.inl ⟨by rfl, ?_⟩) ?_ ?_
                      rotate_left
                      ·intro w'
                       go_simp
                       with_reducible rfl
                      rotate_left
                      ·simp only [Act.put, List.setIfInBounds_toArray, List.set_cons_zero, List.set_cons_succ, i64_w, i32_w]
                       rfl
                      refine pure_ (i := 17) (N := some 74) (v := ?_) (a' := ?_) #[true, true, true, true, true, true, true, true, true, true, true, true, true, true, true, true, true, true, false, false, false, false, false, false, false] rfl rfl (any_of HT_.out (by kernel_rfl)) (fun _ _ _ h => h) (Or.inl ⟨by rfl, ?_⟩) ?_ ?_
                      rotate_left
                      ·intro w'
                       go_simp
                       with_reducible rfl
                      rotate_left
                      ·simp only [Act.put, List.setIfInBounds_toArray, List.set_cons_zero, List.set_cons_succ, i64_w, i32_w]
                       rfl
                      refine pure_ (i := 18) (N := some 75) (v := ?_) (a' := ?_) #[true, true, true, true, true, true, true, true, true, true, true, true, true, true, true, true, true, true, true, false, false, false, false, false, false] rfl rfl (any_of HT_.out (by kernel_rfl)) (fun _ _ _ h => h) (Or.inl ⟨by rfl, ?_⟩) ?_ ?_
                      rotate_left
                      ·intro w'
                       go_simp
                       with_reducible rfl
                      rotate_left
                      ·simp only [Act.put, List.setIfInBounds_toArray, List.set_cons_zero, List.set_cons_succ, i64_w, i32_w]
                       rfl
                      refine pure_ (i := 21) (N := some 78) (v := ?_) (a' := ?_) #[true, true, true, true, true, true, true, true, true, true, true, true, true, true, true, true, true, true, true, false, false, true, false, false, false] rfl rfl (any_of HT_.out (by kernel_rfl)) (fun _ _ _ h => h) (Or.inl ⟨by rfl, ?_⟩) ?_ ?_
                      rotate_left
                      ·intro w'
                       go_simp
                       with_reducible rfl
                      rotate_left
                      ·simp only [Act.put, List.setIfInBounds_toArray, List.set_cons_zero, List.set_cons_succ, i64_w, i32_w]
                       rfl
                      refine take_ (i := 19) (N := some 76) (v := ?_) (a' := ?_) #[true, true, true, true, true, true, true, true, true, true, true, true, true, true, true, true, true, true, true, true, false, true, false, false, false] rfl rfl (take_ofW HT_.out HW_.out (by kernel_rfl)) (fun _ _ _ h => h) (Or.inl ⟨by rfl, ?_⟩) hHeld ?_ ?_
                      rotate_left
                      ·rintro w' ⟨s0, s1, s2, s3, s4, s5, s6, s7, s8⟩
                       go_simp
                       with_reducible rfl
                      rotate_left
                      ·simp only [Act.put, List.setIfInBounds_toArray, List.set_cons_zero, List.set_cons_succ, i64_w, i32_w]
                       rfl
                      refine pure_ (i := 20) (N := some 77) (v := ?_) (a' := ?_) #[true, true, true, true, true, true, true, true, true, true, true, true, true, true, true, true, true, true, true, true, true, true, false, false, false] rfl rfl (any_of HT_.out (by kernel_rfl)) (fun _ _ _ h => h) (Or.inl ⟨by rfl, ?_⟩) ?_ ?_
                      rotate_left
                      ·intro w'
                       go_simp
                       with_reducible rfl
                      rotate_left
                      ·simp only [Act.put, List.setIfInBounds_toArray, List.set_cons_zero, List.set_cons_succ, i64_w, i32_w]
                       rfl
                      refine take_ (i := 22) (N := some 79) (v := ?_) (a' := ?_) #[true, true, true, true, true, true, true, true, true, true, true, true, true, true, true, true, true, true, true, true, true, true, true, false, false] rfl rfl (take_ofW HT_.out HW_.out (by kernel_rfl)) (fun _ _ _ h => h) (Or.inl ⟨by rfl, ?_⟩) hHeld ?_ ?_
                      rotate_left
                      ·rintro w' ⟨s0, s1, s2, s3, s4, s5, s6, s7, s8⟩
                       go_simp
                       with_reducible rfl
                      rotate_left
                      ·simp only [Act.put, List.setIfInBounds_toArray, List.set_cons_zero, List.set_cons_succ, i64_w, i32_w]
                       rfl
                      refine pure_ (i := 23) (N := some 80) (v := ?_) (a' := ?_) #[true, true, true, true, true, true, true, true, true, true, true, true, true, true, true, true, true, true, true, true, true, true, true, true, false] rfl rfl (any_of HT_.out (by kernel_rfl)) (fun _ _ _ h => h) (Or.inl ⟨by rfl, ?_⟩) ?_ ?_
                      rotate_left
                      ·intro w'
                       go_simp
                       with_reducible rfl
                      rotate_left
                      ·simp only [Act.put, List.setIfInBounds_toArray, List.set_cons_zero, List.set_cons_succ, i64_w, i32_w]
                       rfl
                      refine pure_ (i := 24) (N := some 81) (v := ?_) (a' := ?_) #[true, true, true, true, true, true, true, true, true, true, true, true, true, true, true, true, true, true, true, true, true, true, true, true, true] rfl rfl (any_of HT_.out (by kernel_rfl)) (fun _ _ _ h => h) (Or.inl ⟨by rfl, ?_⟩) ?_ ?_
                      rotate_left
                      ·intro w'
                       go_simp
                       with_reducible rfl
                      rotate_left
                      ·simp only [Act.put, List.setIfInBounds_toArray, List.set_cons_zero, List.set_cons_succ, i64_w, i32_w]
                       rfl
                      refine done_ (done_of HT_.out (by kernel_rfl)) ?_
                      have hcz58_0 : w57.cell? ⟨gb654, 0, none⟩ = some (.string ((rd_T79 x5_1 x7_2).f0)) := (blk_cell BK654.out 0).trans rfl
                      have hcz58_1 : w57.cell? ⟨gb654, 1, none⟩ = some (.int .i64 ((rd_T79 x5_1 x7_2).f1)) := (blk_cell BK654.out 1).trans rfl
                      have hcz58_2 : w57.cell? ⟨gb654, 2, none⟩ = some (.int .i64 ((rd_T79 x5_1 x7_2).f2)) := (blk_cell BK654.out 2).trans rfl
                      have hfz58_0 := blk_frozen BK654.out 0
                      have hfz58_1 := blk_frozen BK654.out 1
                      have hfz58_2 := blk_frozen BK654.out 2
                      try go_wp2_with (first | ((with_reducible refine gate_builtin (b := .append) (xs := #[.tmp 89, .tmp 91]) rfl ?_); at_builtin; refine Kd.R_append k79 (w0 := w) w.heap.size rfl (.tmp 89) (.tmp 91) 48 79 (.agg #[(.string ⟨#[]⟩), (.int .i64 0), (.int .i64 0)]) 32 rfl Try.underlying48 info79 rfl (by decide) (by omega) (.slice (some ad669) x6_1.length co56) x6_1 (⟨(rd_T79 x5_1 x7_2).f0, (rd_T79 x5_1 x7_2).f1, (rd_T79 x5_1 x7_2).f2⟩ : S79) [.string ((rd_T79 x5_1 x7_2).f0), .int .i64 ((rd_T79 x5_1 x7_2).f1), .int .i64 ((rd_T79 x5_1 x7_2).f2)] (fun k_ => some k_ ≠ (.slice (some ad653) x5_1.length co9 : Value).ownBlock ∧ some k_ ≠ (v667 : Value).ownBlock ∧ k_ ≠ gb654) (fun _ => False) rfl rfl ?aP (fun _ hk => hk.elim) ?aF ?aO ?aB ?aS ?aL ?_; (case aP => exact k79_mkM _ _ _ (⟨(rd_T79 x5_1 x7_2).f0, (rd_T79 x5_1 x7_2).f1, (rd_T79 x5_1 x7_2).f2⟩ : S79)); (case aB => exact (by repeat (first | (with_reducible first | exact HB.out | apply below_alloc | apply pw_below_drewN | apply below_drew1 | refine below_set ?_ GE654.out) | exact HB.out))); (case aF => exact (fun k_ hk => ⟨Kd.fresh' (Kd.R_lt (by (with_reducible repeat (first | apply Kd.R_alloc | apply Kd.R_drewN | apply Kd.R_drew)); exact HO_5.out)) k_ hk, Kd.fresh' (Kd.R_lt (by (with_reducible repeat (first | apply Kd.R_alloc | apply Kd.R_drewN | apply Kd.R_drew)); exact HO668.out)) k_ hk, Kd.freshB (g := gb654) (o := .cells #[.string ((rd_T79 x5_1 x7_2).f0), .int .i64 ((rd_T79 x5_1 x7_2).f1), .int .i64 ((rd_T79 x5_1 x7_2).f2)] 79 (0, 0)) (by (with_reducible repeat (first | refine blk_drewN ?_ _ | refine blk_drew ?_ | refine blk_alloc ?_ _)); exact BK654.out) k_ hk⟩)); (case aO => exact (by (with_reducible repeat (first | apply Kd.R_alloc | apply Kd.R_drewN | apply Kd.R_drew)); exact Kd.R_mono HO_6.out (fun _ hk => ⟨hk.1.1, ⟨hk.2, hk.1.2⟩⟩))); (case aS => exact (below_size (by repeat (first | (with_reducible first | exact HB.out | apply below_alloc | apply pw_below_drewN | apply below_drew1 | refine below_set ?_ GE654.out) | exact HB.out)))); (case aL => have := LMc48.out; omega); intro v673 w59 ho hb hg hat; rw [← Ny672.out] at ho; have n0_ := Aside0.mk (Kd.R_after (ok := (fun k_ => some k_ ≠ (v667 : Value).ownBlock ∧ k_ ≠ gb654)) (by (with_reducible repeat (first | apply Kd.R_alloc | apply Kd.R_drewN | apply Kd.R_drew)); exact Kd.R_mono HO_5.out (fun _ hk => ⟨⟨hk.2, hk.1.2⟩, hk.1.1⟩)) hg hat); have n1_ := Aside0.mk (blk_grown (g := gb654) (o := .cells #[.string ((rd_T79 x5_1 x7_2).f0), .int .i64 ((rd_T79 x5_1 x7_2).f1), .int .i64 ((rd_T79 x5_1 x7_2).f2)] 79 (0, 0)) (by (with_reducible repeat (first | refine blk_drewN ?_ _ | refine blk_drew ?_ | refine blk_alloc ?_ _)); exact BK654.out) hg (Kd.R_away HO_6.out (fun _ hk => hk.1.2))); have n2_ := Aside0.mk (Kd.R_after (ok := (fun k_ => some k_ ≠ (.slice (some ad653) x5_1.length co9 : Value).ownBlock ∧ k_ ≠ gb654)) (by (with_reducible repeat (first | apply Kd.R_alloc | apply Kd.R_drewN | apply Kd.R_drew)); exact Kd.R_mono HO668.out (fun _ hk => ⟨⟨hk.1, hk.2.2⟩, hk.2.1⟩)) hg hat); have n3_ := Aside0.mk (hb); have n4_ := Aside0.mk ((show Kd.C k79 w59 (some ad653) y655.length y655 from by rw [Ny655.out]; exact Kd.C_take (m := (x7_2 : Int).toNat) ((Kd.R_reads' (Kd.R_after (ok := (fun k_ => some k_ ≠ (v667 : Value).ownBlock ∧ k_ ≠ gb654)) (by (with_reducible repeat (first | apply Kd.R_alloc | apply Kd.R_drewN | apply Kd.R_drew)); exact Kd.R_mono HO_5.out (fun _ hk => ⟨⟨hk.2, hk.1.2⟩, hk.1.1⟩)) hg hat)).2.2) KL52.out)); have n5_ := Aside0.mk ((show Kd.C k79 w59 A54 y662.length y662 from by rw [Ny662.out, KA54.out]; exact Kd.C_drop (m := ((ji25) : Int).toNat) (c := co9) ((Kd.R_reads' (Kd.R_after (ok := (fun k_ => some k_ ≠ (v667 : Value).ownBlock ∧ k_ ≠ gb654)) (by (with_reducible repeat (first | apply Kd.R_alloc | apply Kd.R_drewN | apply Kd.R_drew)); exact Kd.R_mono HO_5.out (fun _ hk => ⟨⟨hk.2, hk.1.2⟩, hk.1.1⟩)) hg hat)).2.2) KL54.out ((Kd.R_reads' (Kd.R_after (ok := (fun k_ => some k_ ≠ (v667 : Value).ownBlock ∧ k_ ≠ gb654)) (by (with_reducible repeat (first | apply Kd.R_alloc | apply Kd.R_drewN | apply Kd.R_drew)); exact Kd.R_mono HO_5.out (fun _ hk => ⟨⟨hk.2, hk.1.2⟩, hk.1.1⟩)) hg hat)).2.1))); have n6_ := Aside0.mk (ho); clear HO_5; clear BK654; clear HO668; clear HB; clear HR658; clear HR665; clear HO_6; have HO_5 := n0_; have BK654 := n1_; have HO668 := n2_; have HB := n3_; have HR658 := n4_; have HR665 := n5_; have HO674 := n6_; clear n0_ n1_ n2_ n3_ n4_ n5_ n6_; clear ho hb hg hat))
                      go_roundg k2
                      case measure => have := HK1.out; have := HK2.out; omega
                      case rel => exact ⟨(y666), (y672), H', ⟨by have := HK1.out; have := HK2.out; omega⟩, ⟨by (with_reducible repeat (first | apply Kd.R_alloc | apply Kd.R_drewN | apply Kd.R_drew)); exact Kd.R_mono HO668.out (fun _ hk => hk.2)⟩, ⟨by (with_reducible repeat (first | apply Kd.R_alloc | apply Kd.R_drewN | apply Kd.R_drew)); exact Kd.R_mono HO674.out (fun _ hk => hk.2.1)⟩, ⟨by repeat (first | (with_reducible first | exact HB.out | apply below_alloc | apply pw_below_drewN | apply below_drew1 | refine below_set ?_ GE654.out) | exact HB.out)⟩⟩
                     ·rw [if_neg c48] at H
                      exact absurd H (by simp)
                   ·rw [if_neg c33] at H
                    have c33b0 : (((rd_T79 x6_1 (ji30)).f0).toList == ((rd_T79 x5_1 x7_2).f0).toList) = false := beq_eq_false_iff_ne.mpr c33
                    have c33b1 : (((rd_T79 x6_1 (ji30)).f0).toList != ((rd_T79 x5_1 x7_2).f0).toList) = true := bne_iff_ne.mpr c33
                    by_cases c60 : x6_1.length < 4398046511104
                    ·rw [if_pos c60] at H
                     have LMc60 := Aside0.mk c60
                     clear c60
                     obtain ⟨y675, hy675⟩ : ∃ y_ : List (S79), y_ = (x6_1 ++ [(⟨(rd_T79 x5_1 x7_2).f0, (rd_T79 x5_1 x7_2).f1, (rd_T79 x5_1 x7_2).f2⟩ : S79)]) := ⟨_, rfl⟩
                     replace H : (wigeonref01_Join.l0 k2 y666 y675) = some (r1, r2) := by first | (rw [hy675]; with_reducible exact H) | (have H2_ := (Option.bind_some _ _).symm.trans H; rw [hy675]; with_reducible exact H2_) | (have H2_ := (Option.bind_some _ _).symm.trans H; with_reducible exact H2_) | with_reducible exact H | (rw [hy675]; exact H) | exact H
                     have Ny675 := Aside0.mk hy675
                     clear hy675
                     have H' := Aside0.mk H
                     clear H
                     have p653 : 0 ≤ (x7_2 : Int) := of_decide_eq_true (by first | (with_reducible assumption) | assumption)
                     have q653 : x7_2 < (x5_1.length : Int) := of_decide_eq_true (by first | (with_reducible assumption) | assumption)
                     obtain ⟨ad653, e653, hx653_0, hx653_1, hx653_2⟩ := at_T79 (Kd.R_reads' HO_5.out).2.2 x7_2 p653 q653
                     cases e653
                     replace p653 := eq_true p653
                     replace q653 := eq_true q653
                     try go_wp2_with (first | ((with_reducible refine gate_dst (N := 9) rfl ?_); refine box_event ?hg (N := 9) ?hd (cs := #[.string (⟨#[]⟩ : ByteArray), .int .i64 0, .int .i64 0]) (t := 79) ?hr ?_; (case hd => rfl); (case hg => rfl); (case hr => first | (go_simp; done) | (go_simp; rfl)); intro gb654 hg w61 hbox hb; have n0_ := Aside0.mk (Kd.R_below (Kd.R_elderB (by (with_reducible repeat (first | apply Kd.R_alloc | apply Kd.R_drewN | apply Kd.R_drew)); exact HO_5.out) gb654 (Nat.le_of_eq hg.symm)) hb); have n1_ := Aside0.mk (Kd.R_below (Kd.R_elderB (by (with_reducible repeat (first | apply Kd.R_alloc | apply Kd.R_drewN | apply Kd.R_drew)); exact HO_6.out) gb654 (Nat.le_of_eq hg.symm)) hb); have n2_ := Aside0.mk (below_step (by repeat (first | (with_reducible first | exact HB.out | apply below_alloc | apply pw_below_drewN | apply below_drew1) | exact HB.out)) hb); have n3_ := Aside0.mk (hbox); have n4_ := Aside0.mk ((by rw [hg]; exact (below_size (by repeat (first | (with_reducible first | exact HB.out | apply below_alloc | apply pw_below_drewN | apply below_drew1) | exact HB.out))) : w.heap.size ≤ gb654)); have n5_ := Aside0.mk ((by rw [hg]; exact (below_size (by repeat (first | (with_reducible first | exact HB.out | apply below_alloc | apply pw_below_drewN | apply below_drew1) | exact HB.out))) : w.heap.size ≤ gb654)); clear HO_5; clear HO_6; clear HB; have HO_5 := n0_; have HO_6 := n1_; have HB := n2_; have BK654 := n3_; have GW654 := n4_; have GE654 := n5_; clear n0_ n1_ n2_ n3_ n4_ n5_; clear hb hbox hg; have hcz62_0 : w61.cell? ⟨gb654, 0, none⟩ = some (.string (⟨#[]⟩ : ByteArray)) := (blk_cell BK654.out 0).trans rfl; have hcz62_1 : w61.cell? ⟨gb654, 1, none⟩ = some (.int .i64 0) := (blk_cell BK654.out 1).trans rfl; have hcz62_2 : w61.cell? ⟨gb654, 2, none⟩ = some (.int .i64 0) := (blk_cell BK654.out 2).trans rfl; have hfz62_0 := blk_frozen BK654.out 0; have hfz62_1 := blk_frozen BK654.out 1; have hfz62_2 := blk_frozen BK654.out 2) | ((with_reducible refine gate_store (t := 79) (p := 9) rfl ?_); refine store_event (t := 79) (p := 9) (v := ?vo_w63) (w1 := (((w61.setCell ⟨gb654, 0, none⟩ (.string ((rd_T79 x5_1 x7_2).f0))).setCell ⟨gb654, 1, none⟩ (.int .i64 ((rd_T79 x5_1 x7_2).f1))).setCell ⟨gb654, 2, none⟩ (.int .i64 ((rd_T79 x5_1 x7_2).f2)))) ?hg ?ho ?hn ?hr ?_; (case ho => rfl); (case hg => rfl); (case hn => rfl); (case hr => first | (go_simp; done) | (go_simp; rfl)); intro w63 hw; have n0_ : Aside0 (Kd.R k79 79 w63 w.heap.size (fun k_ => some k_ ≠ (u6 : Value).ownBlock ∧ k_ ≠ gb654) (.slice (some ad653) x5_1.length co9) x5_1) := ⟨(by rw [hw]; exact (by (with_reducible repeat (first | apply Kd.R_alloc | apply Kd.R_drewN | apply Kd.R_drew)); exact Kd.R_mono (Kd.R_far (p := ⟨gb654, 2, none⟩) (Kd.R_far (p := ⟨gb654, 1, none⟩) (Kd.R_far (p := ⟨gb654, 0, none⟩) (Kd.R_mono HO_5.out (fun k_ hk => (⟨hk, hk.2⟩ : _ ∧ k_ ≠ gb654))) (fun _ hk => hk.2) (.string ((rd_T79 x5_1 x7_2).f0))) (fun _ hk => hk.2) (.int .i64 ((rd_T79 x5_1 x7_2).f1))) (fun _ hk => hk.2) (.int .i64 ((rd_T79 x5_1 x7_2).f2))) (fun _ hk => ⟨hk.1.1, hk.1.2⟩)))⟩; have n1_ : Aside0 (Kd.R k79 79 w63 w.heap.size (fun k_ => some k_ ≠ (.slice (some ad653) x5_1.length co9 : Value).ownBlock ∧ k_ ≠ gb654) u6 x6_1) := ⟨(by rw [hw]; exact (by (with_reducible repeat (first | apply Kd.R_alloc | apply Kd.R_drewN | apply Kd.R_drew)); exact Kd.R_mono (Kd.R_far (p := ⟨gb654, 2, none⟩) (Kd.R_far (p := ⟨gb654, 1, none⟩) (Kd.R_far (p := ⟨gb654, 0, none⟩) (Kd.R_mono HO_6.out (fun k_ hk => (⟨hk, hk.2⟩ : _ ∧ k_ ≠ gb654))) (fun _ hk => hk.2) (.string ((rd_T79 x5_1 x7_2).f0))) (fun _ hk => hk.2) (.int .i64 ((rd_T79 x5_1 x7_2).f1))) (fun _ hk => hk.2) (.int .i64 ((rd_T79 x5_1 x7_2).f2))) (fun _ hk => ⟨hk.1.1, hk.1.2⟩)))⟩; have n2_ : Aside0 (w63.heap[gb654]? = some (.cells #[.string ((rd_T79 x5_1 x7_2).f0), .int .i64 ((rd_T79 x5_1 x7_2).f1), .int .i64 ((rd_T79 x5_1 x7_2).f2)] 79 (0, 0))) := ⟨(by rw [hw]; exact (by (with_reducible repeat (first | refine blk_drewN ?_ _ | refine blk_drew ?_ | refine blk_alloc ?_ _)); refine blk_put (cs := #[.string ((rd_T79 x5_1 x7_2).f0), .int .i64 ((rd_T79 x5_1 x7_2).f1), .int .i64 0]) ?_ 2 _ rfl; (with_reducible repeat (first | refine blk_drewN ?_ _ | refine blk_drew ?_ | refine blk_alloc ?_ _)); refine blk_put (cs := #[.string ((rd_T79 x5_1 x7_2).f0), .int .i64 0, .int .i64 0]) ?_ 1 _ rfl; (with_reducible repeat (first | refine blk_drewN ?_ _ | refine blk_drew ?_ | refine blk_alloc ?_ _)); refine blk_put (cs := #[.string (⟨#[]⟩ : ByteArray), .int .i64 0, .int .i64 0]) ?_ 0 _ rfl; (with_reducible repeat (first | refine blk_drewN ?_ _ | refine blk_drew ?_ | refine blk_alloc ?_ _)); exact BK654.out))⟩; have n3_ : Aside0 (Below w.heap.size w w63) := ⟨(by rw [hw]; exact (by repeat (first | (with_reducible first | exact HB.out | apply below_alloc | apply pw_below_drewN | apply below_drew1 | refine below_set ?_ GE654.out) | exact HB.out)))⟩; clear hw; clear HO_5; clear HO_6; clear BK654; clear HB; have HO_5 := n0_; have HO_6 := n1_; have BK654 := n2_; have HB := n3_; clear n0_ n1_ n2_ n3_; have q64 : (x7_2 : Int) ≤ ((x5_1.length : Int) : Int) := of_decide_eq_true (by first | (with_reducible assumption) | assumption); obtain ⟨i064, hi064, _, hsz64, _⟩ := info_parts info79; have hroom64 : x5_1.length ≤ co9 := (Kd.R_reads' HO_5.out).2.1; have hC64 : Kd.C k79 _ (some ad653) x5_1.length x5_1 := (Kd.R_reads' HO_5.out).2.2; have hcut64 := cut_to (P := Try.prog) 48 79 .i64 Try.underlying48 hi064 (some ad653) x5_1.length co9 x7_2 (of_decide_eq_true (by first | (with_reducible assumption) | assumption)) q64 hroom64; have hr64 := Kd.C_take (m := (x7_2 : Int).toNat) hC64 (by omega); have hy64 : y655.length = (x7_2 : Int).toNat := (by rw [Ny655.out, List.length_take]; omega); rw [← Ny655.out] at hr64; rw [← hy64] at hcut64; have HR658 := Aside0.mk hr64; have HC658 := Aside0.mk (show y655.length ≤ co9 from by omega); clear hr64 hC64 hroom64 hi064 hsz64; have KY64 := Aside0.mk hy64; clear hy64; have KL64 := Aside0.mk (show (x7_2 : Int).toNat ≤ x5_1.length from by omega); replace q64 := eq_true q64) | ((with_reducible refine gate_builtin (b := .append) (xs := #[.tmp 43, .tmp 46]) rfl ?_); at_builtin; refine Kd.R_append_rows k79 (w0 := w) w.heap.size rfl (.tmp 43) (.tmp 46) 48 79 (.agg #[(.string ⟨#[]⟩), (.int .i64 0), (.int .i64 0)]) 32 rfl Try.underlying48 info79 rfl (by decide) (by omega) (.slice none 0 0) ([] : List (S79)) y655 _ _ _ (fun k_ => some k_ ≠ (.slice (some ad653) x5_1.length co9 : Value).ownBlock ∧ some k_ ≠ (u6 : Value).ownBlock ∧ k_ ≠ gb654) (fun _ => False) rfl rfl ?aO ?aR (fun _ _ h => h) (fun _ h => h.elim) ?aF ?aB ?aS ?aL ?_; (case aR => repeat (first | exact (by repeat (first | (with_reducible exact HR658.out) | (with_reducible refine Kd.C_alloc ?_ _) | (with_reducible refine Kd.C_drewN ?_ _) | (with_reducible refine Kd.C_drew ?_) | exact HR658.out)) | (with_reducible refine Kd.C_alloc ?_ _) | (with_reducible refine Kd.C_drewN ?_ _) | (with_reducible refine Kd.C_drew ?_))); (case aB => exact (by repeat (first | (with_reducible first | exact HB.out | apply below_alloc | apply pw_below_drewN | apply below_drew1 | refine below_set ?_ GE654.out) | exact HB.out))); (case aF => exact (fun k_ hk => ⟨Kd.fresh' (Kd.R_lt (by (with_reducible repeat (first | apply Kd.R_alloc | apply Kd.R_drewN | apply Kd.R_drew)); exact HO_5.out)) k_ hk, Kd.fresh' (Kd.R_lt (by (with_reducible repeat (first | apply Kd.R_alloc | apply Kd.R_drewN | apply Kd.R_drew)); exact HO_6.out)) k_ hk, Kd.freshB (g := gb654) (o := .cells #[.string ((rd_T79 x5_1 x7_2).f0), .int .i64 ((rd_T79 x5_1 x7_2).f1), .int .i64 ((rd_T79 x5_1 x7_2).f2)] 79 (0, 0)) (by (with_reducible repeat (first | refine blk_drewN ?_ _ | refine blk_drew ?_ | refine blk_alloc ?_ _)); exact BK654.out) k_ hk⟩)); (case aO => exact ((Kd.R_nil _ _ _ _ (fun k_ => some k_ ≠ (.slice (some ad653) x5_1.length co9 : Value).ownBlock ∧ some k_ ≠ (u6 : Value).ownBlock ∧ k_ ≠ gb654)))); (case aS => exact (below_size (by repeat (first | (with_reducible first | exact HB.out | apply below_alloc | apply pw_below_drewN | apply below_drew1 | refine below_set ?_ GE654.out) | exact HB.out)))); (case aL => have := LMc24.out; omega); intro v660 w65 ho hb hg hat; rw [← Ny659.out] at ho; have n0_ := Aside0.mk (Kd.R_after (Kd.R_apart_nil (by (with_reducible repeat (first | apply Kd.R_alloc | apply Kd.R_drewN | apply Kd.R_drew)); exact HO_5.out)) hg hat); have n1_ := Aside0.mk (Kd.R_after (Kd.R_apart_nil (by (with_reducible repeat (first | apply Kd.R_alloc | apply Kd.R_drewN | apply Kd.R_drew)); exact HO_6.out)) hg hat); have n2_ := Aside0.mk (blk_grown (g := gb654) (o := .cells #[.string ((rd_T79 x5_1 x7_2).f0), .int .i64 ((rd_T79 x5_1 x7_2).f1), .int .i64 ((rd_T79 x5_1 x7_2).f2)] 79 (0, 0)) (by (with_reducible repeat (first | refine blk_drewN ?_ _ | refine blk_drew ?_ | refine blk_alloc ?_ _)); exact BK654.out) hg (by simp [Value.ownBlock])); have n3_ := Aside0.mk (hb); have n4_ := Aside0.mk ((show Kd.C k79 w65 (some ad653) y655.length y655 from by rw [Ny655.out]; exact Kd.C_take (m := (x7_2 : Int).toNat) ((Kd.R_reads' (Kd.R_after (Kd.R_apart_nil (by (with_reducible repeat (first | apply Kd.R_alloc | apply Kd.R_drewN | apply Kd.R_drew)); exact HO_5.out)) hg hat)).2.2) KL64.out)); have n5_ := Aside0.mk (ho); clear HO_5; clear HO_6; clear BK654; clear HB; clear HR658; have HO_5 := n0_; have HO_6 := n1_; have BK654 := n2_; have HB := n3_; have HR658 := n4_; have HO661 := n5_; clear n0_ n1_ n2_ n3_ n4_ n5_; clear ho hb hg hat; have q66 : ((ji25) : Int) ≤ ((x5_1.length : Int) : Int) := of_decide_eq_true (by first | (with_reducible assumption) | assumption); obtain ⟨i066, hi066, _, hsz66, _⟩ := info_parts info79; have hroom66 : x5_1.length ≤ co9 := (Kd.R_reads' HO_5.out).2.1; have hC66 : Kd.C k79 _ (some ad653) x5_1.length x5_1 := (Kd.R_reads' HO_5.out).2.2; have q066 : (0 : Int) ≤ ((ji25) : Int) := of_decide_eq_true (by first | (with_reducible assumption) | assumption); have hcut66 := cut_from (P := Try.prog) 48 79 .i64 Try.underlying48 hi066 3 hsz66 (some ad653) x5_1.length co9 (ji25) q066 q66; have hr66 := Kd.C_drop (m := ((ji25) : Int).toNat) (c := co9) hC66 (by omega) hroom66; obtain ⟨A66, hA66⟩ : ∃ A1, A1 = (if co9 = ((ji25) : Int).toNat then (some ad653) else ((some ad653) : Option Addr).map (·.add (((ji25) : Int).toNat * 3))) := ⟨_, rfl⟩; obtain ⟨c66, hc66⟩ : ∃ c1, c1 = co9 - ((ji25) : Int).toNat := ⟨_, rfl⟩; have hy66 : y662.length = x5_1.length - ((ji25) : Int).toNat := (by rw [Ny662.out, List.length_drop] <;> omega); rw [show (x5_1).drop ((ji25) : Int).toNat = y662 from Ny662.out.symm] at hr66; replace hr66 : Kd.C k79 _ A66 y662.length y662 := (by rw [hA66]; exact hr66); rw [← hy66, ← hA66, ← hc66] at hcut66; have HR665 := Aside0.mk hr66; have HC665 := Aside0.mk (show y662.length ≤ c66 from by rw [hy66, hc66]; exact Nat.sub_le_sub_right hroom66 _); clear hr66 hC66 hroom66 hi066 hsz66 hc66; have KY66 := Aside0.mk hy66; have KA66 := Aside0.mk hA66; clear hy66 hA66; have KL66 := Aside0.mk (show ((ji25) : Int).toNat ≤ x5_1.length from by omega); replace q66 := eq_true q66) | ((with_reducible refine gate_builtin (b := .append) (xs := #[.tmp 48, .tmp 52]) rfl ?_); at_builtin; refine Kd.R_append_rows k79 (w0 := w) w.heap.size rfl (.tmp 48) (.tmp 52) 48 79 (.agg #[(.string ⟨#[]⟩), (.int .i64 0), (.int .i64 0)]) 32 rfl Try.underlying48 info79 rfl (by decide) (by omega) v660 y659 y662 _ _ _ (fun k_ => some k_ ≠ (.slice (some ad653) x5_1.length co9 : Value).ownBlock ∧ some k_ ≠ (u6 : Value).ownBlock ∧ k_ ≠ gb654) (fun _ => False) rfl rfl ?aO ?aR (fun _ _ h => h) (fun _ h => h.elim) ?aF ?aB ?aS ?aL ?_; (case aR => repeat (first | exact (by repeat (first | (with_reducible exact HR665.out) | (with_reducible refine Kd.C_alloc ?_ _) | (with_reducible refine Kd.C_drewN ?_ _) | (with_reducible refine Kd.C_drew ?_) | exact HR665.out)) | (with_reducible refine Kd.C_alloc ?_ _) | (with_reducible refine Kd.C_drewN ?_ _) | (with_reducible refine Kd.C_drew ?_))); (case aB => exact (by repeat (first | (with_reducible first | exact HB.out | apply below_alloc | apply pw_below_drewN | apply below_drew1 | refine below_set ?_ GE654.out) | exact HB.out))); (case aF => exact (fun k_ hk => ⟨Kd.fresh' (Kd.R_lt (by (with_reducible repeat (first | apply Kd.R_alloc | apply Kd.R_drewN | apply Kd.R_drew)); exact HO_5.out)) k_ hk, Kd.fresh' (Kd.R_lt (by (with_reducible repeat (first | apply Kd.R_alloc | apply Kd.R_drewN | apply Kd.R_drew)); exact HO_6.out)) k_ hk, Kd.freshB (g := gb654) (o := .cells #[.string ((rd_T79 x5_1 x7_2).f0), .int .i64 ((rd_T79 x5_1 x7_2).f1), .int .i64 ((rd_T79 x5_1 x7_2).f2)] 79 (0, 0)) (by (with_reducible repeat (first | refine blk_drewN ?_ _ | refine blk_drew ?_ | refine blk_alloc ?_ _)); exact BK654.out) k_ hk⟩)); (case aO => exact (by (with_reducible repeat (first | apply Kd.R_alloc | apply Kd.R_drewN | apply Kd.R_drew)); exact HO661.out)); (case aS => exact (below_size (by repeat (first | (with_reducible first | exact HB.out | apply below_alloc | apply pw_below_drewN | apply below_drew1 | refine below_set ?_ GE654.out) | exact HB.out)))); (case aL => have := LMc28.out; omega); intro v667 w67 ho hb hg hat; rw [← Ny666.out] at ho; have n0_ := Aside0.mk (Kd.R_after (ok := (fun k_ => some k_ ≠ (u6 : Value).ownBlock ∧ k_ ≠ gb654)) (by (with_reducible repeat (first | apply Kd.R_alloc | apply Kd.R_drewN | apply Kd.R_drew)); exact HO_5.out) hg hat); have n1_ := Aside0.mk (Kd.R_after (ok := (fun k_ => some k_ ≠ (.slice (some ad653) x5_1.length co9 : Value).ownBlock ∧ k_ ≠ gb654)) (by (with_reducible repeat (first | apply Kd.R_alloc | apply Kd.R_drewN | apply Kd.R_drew)); exact HO_6.out) hg hat); have n2_ := Aside0.mk (blk_grown (g := gb654) (o := .cells #[.string ((rd_T79 x5_1 x7_2).f0), .int .i64 ((rd_T79 x5_1 x7_2).f1), .int .i64 ((rd_T79 x5_1 x7_2).f2)] 79 (0, 0)) (by (with_reducible repeat (first | refine blk_drewN ?_ _ | refine blk_drew ?_ | refine blk_alloc ?_ _)); exact BK654.out) hg (Kd.R_away HO661.out (fun _ hk => hk.2.2))); have n3_ := Aside0.mk (hb); have n4_ := Aside0.mk ((show Kd.C k79 w67 (some ad653) y655.length y655 from by rw [Ny655.out]; exact Kd.C_take (m := (x7_2 : Int).toNat) ((Kd.R_reads' (Kd.R_after (ok := (fun k_ => some k_ ≠ (u6 : Value).ownBlock ∧ k_ ≠ gb654)) (by (with_reducible repeat (first | apply Kd.R_alloc | apply Kd.R_drewN | apply Kd.R_drew)); exact HO_5.out) hg hat)).2.2) KL64.out)); have n5_ := Aside0.mk ((show Kd.C k79 w67 A66 y662.length y662 from by rw [Ny662.out, KA66.out]; exact Kd.C_drop (m := ((ji25) : Int).toNat) (c := co9) ((Kd.R_reads' (Kd.R_after (ok := (fun k_ => some k_ ≠ (u6 : Value).ownBlock ∧ k_ ≠ gb654)) (by (with_reducible repeat (first | apply Kd.R_alloc | apply Kd.R_drewN | apply Kd.R_drew)); exact HO_5.out) hg hat)).2.2) KL66.out ((Kd.R_reads' (Kd.R_after (ok := (fun k_ => some k_ ≠ (u6 : Value).ownBlock ∧ k_ ≠ gb654)) (by (with_reducible repeat (first | apply Kd.R_alloc | apply Kd.R_drewN | apply Kd.R_drew)); exact HO_5.out) hg hat)).2.1))); have n6_ := Aside0.mk (ho); clear HO_5; clear HO_6; clear BK654; clear HB; clear HR658; clear HR665; clear HO661; have HO_5 := n0_; have HO_6 := n1_; have BK654 := n2_; have HB := n3_; have HR658 := n4_; have HR665 := n5_; have HO668 := n6_; clear n0_ n1_ n2_ n3_ n4_ n5_ n6_; clear ho hb hg hat; obtain ⟨Ao68, co68, eo68⟩ := Kd.R_slice HO_6.out; subst eo68))
                     have n0_ := Aside0.mk (Kd.R_drew HO_5.out)
                     have n1_ := Aside0.mk (Kd.R_drew HO_6.out)
                     have n2_ := Aside0.mk (Kd.R_drew HO668.out)
                     have n3_ := Aside0.mk (blk_drew BK654.out)
                     have n4_ := Aside0.mk (Kd.C_drew HR658.out)
                     have n5_ := Aside0.mk (Kd.C_drew HR665.out)
                     have n6_ := Aside0.mk (below_drew1 HB.out)
                     clear HO_5
                     clear HO_6
                     clear HO668
                     clear BK654
                     clear HR658
                     clear HR665
                     clear HB
                     have HO_5 := n0_
                     have HO_6 := n1_
                     have HO668 := n2_
                     have BK654 := n3_
                     have HR658 := n4_
                     have HR665 := n5_
                     have HB := n6_
                     clear n0_ n1_ n2_ n3_ n4_ n5_ n6_
                     have p669 : 0 ≤ ((ji30) : Int) := of_decide_eq_true (by first | (with_reducible assumption) | assumption)
                     have q669 : (ji30) < (x6_1.length : Int) := of_decide_eq_true (by first | (with_reducible assumption) | assumption)
                     obtain ⟨ad669, e669, hx669_0, hx669_1, hx669_2⟩ := at_T79 (Kd.R_reads' HO_6.out).2.2 (ji30) p669 q669
                     cases e669
                     replace p669 := eq_true p669
                     replace q669 := eq_true q669
                     refine start_ (n := 25) (S := fun w' => w'.cell? ⟨gb654, 0, none⟩ = some (.string ((rd_T79 x5_1 x7_2).f0)) ∧ w'.cell? ⟨gb654, 1, none⟩ = some (.int .i64 ((rd_T79 x5_1 x7_2).f1)) ∧ w'.cell? ⟨gb654, 2, none⟩ = some (.int .i64 ((rd_T79 x5_1 x7_2).f2)) ∧ w'.cell? (ad669.add (((ji30)).toNat * 3)) = some (.string ((rd_T79 x6_1 (ji30)).f0)) ∧ w'.cell? ⟨(ad669.add (((ji30)).toNat * 3)).block, (ad669.add (((ji30)).toNat * 3)).off + 1, none⟩ = some (.int .i64 ((rd_T79 x6_1 (ji30)).f1)) ∧ w'.cell? ⟨(ad669.add (((ji30)).toNat * 3)).block, (ad669.add (((ji30)).toNat * 3)).off + 2, none⟩ = some (.int .i64 ((rd_T79 x6_1 (ji30)).f2))) (ds := []) #[false, false, false, false, false, false, false, false, false, false, false, false, false, false, false, false, false, false, false, false, false, false, false, false, false] (by kernel_rfl) rfl rfl ⟨(blk_cell BK654.out 0).trans rfl, (blk_cell BK654.out 1).trans rfl, (blk_cell BK654.out 2).trans rfl, hx669_0, hx669_1, hx669_2⟩ (fun hHeld => ?_); refine with_tabW wigeonref01_Join.tab19 wigeonref01_Join.bits19 (fun HT_ HW_ => ?_)
                     generalize w67.drew = w69 at HO_5 HO_6 HO668 BK654 HR658 HR665 HB hx669_0 hx669_1 hx669_2 hHeld ⊢
                     refine pure_ (i := 0) (N := some 57) (v := ?_) (a' := ?_) #[true, false, false, false, false, false, false, false, false, false, false, false, false, false, false, false, false, false, false, false, false, false, false, false, false] rfl rfl (any_of HT_.out (by kernel_rfl)) (fun _ _ _ h => h) (Or.inl ⟨by rfl, ?_⟩) ?_ ?_
                     rotate_left
                     ·intro w'
                      go_simp
                      with_reducible rfl
                     rotate_left
                     ·simp only [Act.put, List.setIfInBounds_toArray, List.set_cons_zero, List.set_cons_succ, i64_w, i32_w]
                      rfl
                     refine pure_ (i := 1) (N := some 58) (v := ?_) (a' := ?_) #[true, true, false, false, false, false, false, false, false, false, false, false, false, false, false, false, false, false, false, false, false, false, false, false, false] rfl rfl (any_of HT_.out (by kernel_rfl)) (fun _ _ _ h => h) (Or.inl ⟨by rfl, ?_⟩) ?_ ?_
                     rotate_left
                     ·intro w'
                      go_simp
                      with_reducible rfl
                     rotate_left
                     ·simp only [Act.put, List.setIfInBounds_toArray, List.set_cons_zero, List.set_cons_succ, i64_w, i32_w]
                      rfl
                     refine pure_ (i := 2) (N := some 59) (v := ?_) (a' := ?_) #[true, true, true, false, false, false, false, false, false, false, false, false, false, false, false, false, false, false, false, false, false, false, false, false, false] rfl rfl (any_of HT_.out (by kernel_rfl)) (fun _ _ _ h => h) (Or.inl ⟨by rfl, ?_⟩) ?_ ?_
                     rotate_left
                     ·intro w'
                      go_simp
                      with_reducible rfl
                     rotate_left
                     ·simp only [Act.put, List.setIfInBounds_toArray, List.set_cons_zero, List.set_cons_succ, i64_w, i32_w]
                      rfl
                     refine pure_ (i := 3) (N := some 60) (v := ?_) (a' := ?_) #[true, true, true, true, false, false, false, false, false, false, false, false, false, false, false, false, false, false, false, false, false, false, false, false, false] rfl rfl (any_of HT_.out (by kernel_rfl)) (fun _ _ _ h => h) (Or.inl ⟨by rfl, ?_⟩) ?_ ?_
                     rotate_left
                     ·intro w'
                      go_simp
                      with_reducible rfl
                     rotate_left
                     ·simp only [Act.put, List.setIfInBounds_toArray, List.set_cons_zero, List.set_cons_succ, i64_w, i32_w]
                      rfl
                     refine pure_ (i := 4) (N := some 61) (v := ?_) (a' := ?_) #[true, true, true, true, true, false, false, false, false, false, false, false, false, false, false, false, false, false, false, false, false, false, false, false, false] rfl rfl (any_of HT_.out (by kernel_rfl)) (fun _ _ _ h => h) (Or.inl ⟨by rfl, ?_⟩) ?_ ?_
                     rotate_left
                     ·intro w'
                      go_simp
                      with_reducible rfl
                     rotate_left
                     ·simp only [Act.put, List.setIfInBounds_toArray, List.set_cons_zero, List.set_cons_succ, i64_w, i32_w]
                      rfl
                     refine pure_ (i := 5) (N := some 62) (v := ?_) (a' := ?_) #[true, true, true, true, true, true, false, false, false, false, false, false, false, false, false, false, false, false, false, false, false, false, false, false, false] rfl rfl (any_of HT_.out (by kernel_rfl)) (fun _ _ _ h => h) (Or.inl ⟨by rfl, ?_⟩) ?_ ?_
                     rotate_left
                     ·intro w'
                      go_simp
                      with_reducible rfl
                     rotate_left
                     ·simp only [Act.put, List.setIfInBounds_toArray, List.set_cons_zero, List.set_cons_succ, i64_w, i32_w]
                      rfl
                     refine pure_ (i := 6) (N := some 63) (v := ?_) (a' := ?_) #[true, true, true, true, true, true, true, false, false, false, false, false, false, false, false, false, false, false, false, false, false, false, false, false, false] rfl rfl (any_of HT_.out (by kernel_rfl)) (fun _ _ _ h => h) (Or.inl ⟨by rfl, ?_⟩) ?_ ?_
                     rotate_left
                     ·intro w'
                      go_simp
                      with_reducible rfl
                     rotate_left
                     ·simp only [Act.put, List.setIfInBounds_toArray, List.set_cons_zero, List.set_cons_succ, i64_w, i32_w]
                      rfl
                     refine pure_ (i := 7) (N := some 64) (v := ?_) (a' := ?_) #[true, true, true, true, true, true, true, true, false, false, false, false, false, false, false, false, false, false, false, false, false, false, false, false, false] rfl rfl (any_of HT_.out (by kernel_rfl)) (fun _ _ _ h => h) (Or.inl ⟨by rfl, ?_⟩) ?_ ?_
                     rotate_left
                     ·intro w'
                      go_simp
                      with_reducible rfl
                     rotate_left
                     ·simp only [Act.put, List.setIfInBounds_toArray, List.set_cons_zero, List.set_cons_succ, i64_w, i32_w]
                      rfl
                     refine pure_ (i := 9) (N := some 66) (v := ?_) (a' := ?_) #[true, true, true, true, true, true, true, true, false, true, false, false, false, false, false, false, false, false, false, false, false, false, false, false, false] rfl rfl (any_of HT_.out (by kernel_rfl)) (fun _ _ _ h => h) (Or.inl ⟨by rfl, ?_⟩) ?_ ?_
                     rotate_left
                     ·intro w'
                      go_simp
                      with_reducible rfl
                     rotate_left
                     ·simp only [Act.put, List.setIfInBounds_toArray, List.set_cons_zero, List.set_cons_succ, i64_w, i32_w]
                      rfl
                     refine take_ (i := 8) (N := some 65) (v := ?_) (a' := ?_) #[true, true, true, true, true, true, true, true, true, true, false, false, false, false, false, false, false, false, false, false, false, false, false, false, false] rfl rfl (take_ofW HT_.out HW_.out (by kernel_rfl)) (fun _ _ _ h => h) (Or.inl ⟨by rfl, ?_⟩) hHeld ?_ ?_
                     rotate_left
                     ·rintro w' ⟨s0, s1, s2, s3, s4, s5⟩
                      go_simp
                      with_reducible rfl
                     rotate_left
                     ·simp only [Act.put, List.setIfInBounds_toArray, List.set_cons_zero, List.set_cons_succ, i64_w, i32_w]
                      rfl
                     refine take_ (i := 10) (N := some 67) (v := ?_) (a' := ?_) #[true, true, true, true, true, true, true, true, true, true, true, false, false, false, false, false, false, false, false, false, false, false, false, false, false] rfl rfl (take_ofW HT_.out HW_.out (by kernel_rfl)) (fun _ _ _ h => h) (Or.inl ⟨by rfl, ?_⟩) hHeld ?_ ?_
                     rotate_left
                     ·rintro w' ⟨s0, s1, s2, s3, s4, s5⟩
                      go_simp
                      with_reducible rfl
                     rotate_left
                     ·simp only [Act.put, List.setIfInBounds_toArray, List.set_cons_zero, List.set_cons_succ, i64_w, i32_w]
                      rfl
                     refine pure_ (i := 11) (N := some 68) (v := ?_) (a' := ?_) #[true, true, true, true, true, true, true, true, true, true, true, true, false, false, false, false, false, false, false, false, false, false, false, false, false] rfl rfl (any_of HT_.out (by kernel_rfl)) (fun _ _ _ h => h) (Or.inl ⟨by rfl, ?_⟩) ?_ ?_
                     rotate_left
                     ·intro w'
                      go_simp
                      with_reducible rfl
                     rotate_left
                     ·simp only [Act.put, List.setIfInBounds_toArray, List.set_cons_zero, List.set_cons_succ, i64_w, i32_w]
                      rfl
                     refine pure_ (i := 12) (N := some 69) (v := ?_) (a' := ?_) #[true, true, true, true, true, true, true, true, true, true, true, true, true, false, false, false, false, false, false, false, false, false, false, false, false] rfl rfl (any_of HT_.out (by kernel_rfl)) (fun _ _ _ h => h) (Or.inl ⟨by rfl, ?_⟩) ?_ ?_
                     rotate_left
                     ·intro w'
                      go_simp
                      with_reducible rfl
                     rotate_left
                     ·simp only [Act.put, List.setIfInBounds_toArray, List.set_cons_zero, List.set_cons_succ, i64_w, i32_w]
                      rfl
                     refine pure_ (i := 13) (N := some 70) (v := ?_) (a' := ?_) #[true, true, true, true, true, true, true, true, true, true, true, true, true, true, false, false, false, false, false, false, false, false, false, false, false] rfl rfl (any_of HT_.out (by kernel_rfl)) (fun _ _ _ h => h) (Or.inl ⟨by rfl, ?_⟩) ?_ ?_
                     rotate_left
                     ·intro w'
                      go_simp
                      with_reducible rfl
                     rotate_left
                     ·simp only [Act.put, List.setIfInBounds_toArray, List.set_cons_zero, List.set_cons_succ, i64_w, i32_w]
                      rfl
                     refine pure_ (i := 14) (N := some 71) (v := undef) (a' := ?_) #[true, true, true, true, true, true, true, true, true, true, true, true, true, true, true, false, false, false, false, false, false, false, false, false, false] rfl rfl (any_of HT_.out (by kernel_rfl)) (fun _ _ _ h => h) (Or.inr ⟨by rfl, rfl⟩) ?_ ?_
                     rotate_left
                     ·simp only [Act.put, List.setIfInBounds_toArray, List.set_cons_zero, List.set_cons_succ, i64_w, i32_w]
                      rfl
                     refine pure_ (i := 15) (N := some 72) (v := undef) (a' := ?_) #[true, true, true, true, true, true, true, true, true, true, true, true, true, true, true, true, false, false, false, false, false, false, false, false, false] rfl rfl (any_of HT_.out (by kernel_rfl)) (fun _ _ _ h => h) (Or.inr ⟨by rfl, rfl⟩) ?_ ?_
                     rotate_left
                     ·simp only [Act.put, List.setIfInBounds_toArray, List.set_cons_zero, List.set_cons_succ, i64_w, i32_w]
                      rfl
                     refine pure_ (i := 16) (N := some 73) (v := undef) (a' := ?_) #[true, true, true, true, true, true, true, true, true, true, true, true, true, true, true, true, true, false, false, false, false, false, false, false, false] rfl rfl (any_of HT_.out (by kernel_rfl)) (fun _ _ _ h => h) (Or.inr ⟨by rfl, rfl⟩) ?_ ?_
                     rotate_left
                     ·simp only [Act.put, List.setIfInBounds_toArray, List.set_cons_zero, List.set_cons_succ, i64_w, i32_w]
                      rfl
                     refine pure_ (i := 17) (N := some 74) (v := undef) (a' := ?_) #[true, true, true, true, true, true, true, true, true, true, true, true, true, true, true, true, true, true, false, false, false, false, false, false, false] rfl rfl (any_of HT_.out (by kernel_rfl)) (fun _ _ _ h => h) (Or.inr ⟨by rfl, rfl⟩) ?_ ?_
                     rotate_left
                     ·simp only [Act.put, List.setIfInBounds_toArray, List.set_cons_zero, List.set_cons_succ, i64_w, i32_w]
                      rfl
                     refine pure_ (i := 18) (N := some 75) (v := undef) (a' := ?_) #[true, true, true, true, true, true, true, true, true, true, true, true, true, true, true, true, true, true, true, false, false, false, false, false, false] rfl rfl (any_of HT_.out (by kernel_rfl)) (fun _ _ _ h => h) (Or.inr ⟨by rfl, rfl⟩) ?_ ?_
                     rotate_left
                     ·simp only [Act.put, List.setIfInBounds_toArray, List.set_cons_zero, List.set_cons_succ, i64_w, i32_w]
                      rfl
                     refine pure_ (i := 19) (N := some 76) (v := undef) (a' := ?_) #[true, true, true, true, true, true, true, true, true, true, true, true, true, true, true, true, true, true, true, true, false, false, false, false, false] rfl rfl (any_of HT_.out (by kernel_rfl)) (fun _ _ _ h => h) (Or.inr ⟨by rfl, rfl⟩) ?_ ?_
                     rotate_left
                     ·simp only [Act.put, List.setIfInBounds_toArray, List.set_cons_zero, List.set_cons_succ, i64_w, i32_w]
                      rfl
                     refine pure_ (i := 20) (N := some 77) (v := undef) (a' := ?_) #[true, true, true, true, true, true, true, true, true, true, true, true, true, true, true, true, true, true, true, true, true, false, false, false, false] rfl rfl (any_of HT_.out (by kernel_rfl)) (fun _ _ _ h => h) (Or.inr ⟨by rfl, rfl⟩) ?_ ?_
                     rotate_left
                     ·simp only [Act.put, List.setIfInBounds_toArray, List.set_cons_zero, List.set_cons_succ, i64_w, i32_w]
                      rfl
                     refine pure_ (i := 21) (N := some 78) (v := undef) (a' := ?_) #[true, true, true, true, true, true, true, true, true, true, true, true, true, true, true, true, true, true, true, true, true, true, false, false, false] rfl rfl (any_of HT_.out (by kernel_rfl)) (fun _ _ _ h => h) (Or.inr ⟨by rfl, rfl⟩) ?_ ?_
                     rotate_left
                     ·simp only [Act.put, List.setIfInBounds_toArray, List.set_cons_zero, List.set_cons_succ, i64_w, i32_w]
                      rfl
                     refine pure_ (i := 22) (N := some 79) (v := undef) (a' := ?_) #[true, true, true, true, true, true, true, true, true, true, true, true, true, true, true, true, true, true, true, true, true, true, true, false, false] rfl rfl (any_of HT_.out (by kernel_rfl)) (fun _ _ _ h => h) (Or.inr ⟨by rfl, rfl⟩) ?_ ?_
                     rotate_left
                     ·simp only [Act.put, List.setIfInBounds_toArray, List.set_cons_zero, List.set_cons_succ, i64_w, i32_w]
                      rfl
                     refine pure_ (i := 23) (N := some 80) (v := undef) (a' := ?_) #[true, true, true, true, true, true, true, true, true, true, true, true, true, true, true, true, true, true, true, true, true, true, true, true, false] rfl rfl (any_of HT_.out (by kernel_rfl)) (fun _ _ _ h => h) (Or.inr ⟨by rfl, rfl⟩) ?_ ?_
                     rotate_left
                     ·simp only [Act.put, List.setIfInBounds_toArray, List.set_cons_zero, List.set_cons_succ, i64_w, i32_w]
                      rfl
                     refine pure_ (i := 24) (N := some 81) (v := ?_) (a' := ?_) #[true, true, true, true, true, true, true, true, true, true, true, true, true, true, true, true, true, true, true, true, true, true, true, true, true] rfl rfl (any_of HT_.out (by kernel_rfl)) (fun _ _ _ h => h) (Or.inl ⟨by rfl, ?_⟩) ?_ ?_
                     rotate_left
                     ·intro w'
                      go_simp
                      with_reducible rfl
                     rotate_left
                     ·simp only [Act.put, List.setIfInBounds_toArray, List.set_cons_zero, List.set_cons_succ, i64_w, i32_w]
                      rfl
                     refine done_ (done_of HT_.out (by kernel_rfl)) ?_
                     have hcz70_0 : w69.cell? ⟨gb654, 0, none⟩ = some (.string ((rd_T79 x5_1 x7_2).f0)) := (blk_cell BK654.out 0).trans rfl
                     have hcz70_1 : w69.cell? ⟨gb654, 1, none⟩ = some (.int .i64 ((rd_T79 x5_1 x7_2).f1)) := (blk_cell BK654.out 1).trans rfl
                     have hcz70_2 : w69.cell? ⟨gb654, 2, none⟩ = some (.int .i64 ((rd_T79 x5_1 x7_2).f2)) := (blk_cell BK654.out 2).trans rfl
                     have hfz70_0 := blk_frozen BK654.out 0
                     have hfz70_1 := blk_frozen BK654.out 1
                     have hfz70_2 := blk_frozen BK654.out 2
                     try go_wp2_with (first | ((with_reducible refine gate_builtin (b := .append) (xs := #[.tmp 89, .tmp 91]) rfl ?_); at_builtin; refine Kd.R_append k79 (w0 := w) w.heap.size rfl (.tmp 89) (.tmp 91) 48 79 (.agg #[(.string ⟨#[]⟩), (.int .i64 0), (.int .i64 0)]) 32 rfl Try.underlying48 info79 rfl (by decide) (by omega) (.slice (some ad669) x6_1.length co68) x6_1 (⟨(rd_T79 x5_1 x7_2).f0, (rd_T79 x5_1 x7_2).f1, (rd_T79 x5_1 x7_2).f2⟩ : S79) [.string ((rd_T79 x5_1 x7_2).f0), .int .i64 ((rd_T79 x5_1 x7_2).f1), .int .i64 ((rd_T79 x5_1 x7_2).f2)] (fun k_ => some k_ ≠ (.slice (some ad653) x5_1.length co9 : Value).ownBlock ∧ some k_ ≠ (v667 : Value).ownBlock ∧ k_ ≠ gb654) (fun _ => False) rfl rfl ?aP (fun _ hk => hk.elim) ?aF ?aO ?aB ?aS ?aL ?_; (case aP => exact k79_mkM _ _ _ (⟨(rd_T79 x5_1 x7_2).f0, (rd_T79 x5_1 x7_2).f1, (rd_T79 x5_1 x7_2).f2⟩ : S79)); (case aB => exact (by repeat (first | (with_reducible first | exact HB.out | apply below_alloc | apply pw_below_drewN | apply below_drew1 | refine below_set ?_ GE654.out) | exact HB.out))); (case aF => exact (fun k_ hk => ⟨Kd.fresh' (Kd.R_lt (by (with_reducible repeat (first | apply Kd.R_alloc | apply Kd.R_drewN | apply Kd.R_drew)); exact HO_5.out)) k_ hk, Kd.fresh' (Kd.R_lt (by (with_reducible repeat (first | apply Kd.R_alloc | apply Kd.R_drewN | apply Kd.R_drew)); exact HO668.out)) k_ hk, Kd.freshB (g := gb654) (o := .cells #[.string ((rd_T79 x5_1 x7_2).f0), .int .i64 ((rd_T79 x5_1 x7_2).f1), .int .i64 ((rd_T79 x5_1 x7_2).f2)] 79 (0, 0)) (by (with_reducible repeat (first | refine blk_drewN ?_ _ | refine blk_drew ?_ | refine blk_alloc ?_ _)); exact BK654.out) k_ hk⟩)); (case aO => exact (by (with_reducible repeat (first | apply Kd.R_alloc | apply Kd.R_drewN | apply Kd.R_drew)); exact Kd.R_mono HO_6.out (fun _ hk => ⟨hk.1.1, ⟨hk.2, hk.1.2⟩⟩))); (case aS => exact (below_size (by repeat (first | (with_reducible first | exact HB.out | apply below_alloc | apply pw_below_drewN | apply below_drew1 | refine below_set ?_ GE654.out) | exact HB.out)))); (case aL => have := LMc60.out; omega); intro v676 w71 ho hb hg hat; rw [← Ny675.out] at ho; have n0_ := Aside0.mk (Kd.R_after (ok := (fun k_ => some k_ ≠ (v667 : Value).ownBlock ∧ k_ ≠ gb654)) (by (with_reducible repeat (first | apply Kd.R_alloc | apply Kd.R_drewN | apply Kd.R_drew)); exact Kd.R_mono HO_5.out (fun _ hk => ⟨⟨hk.2, hk.1.2⟩, hk.1.1⟩)) hg hat); have n1_ := Aside0.mk (blk_grown (g := gb654) (o := .cells #[.string ((rd_T79 x5_1 x7_2).f0), .int .i64 ((rd_T79 x5_1 x7_2).f1), .int .i64 ((rd_T79 x5_1 x7_2).f2)] 79 (0, 0)) (by (with_reducible repeat (first | refine blk_drewN ?_ _ | refine blk_drew ?_ | refine blk_alloc ?_ _)); exact BK654.out) hg (Kd.R_away HO_6.out (fun _ hk => hk.1.2))); have n2_ := Aside0.mk (Kd.R_after (ok := (fun k_ => some k_ ≠ (.slice (some ad653) x5_1.length co9 : Value).ownBlock ∧ k_ ≠ gb654)) (by (with_reducible repeat (first | apply Kd.R_alloc | apply Kd.R_drewN | apply Kd.R_drew)); exact Kd.R_mono HO668.out (fun _ hk => ⟨⟨hk.1, hk.2.2⟩, hk.2.1⟩)) hg hat); have n3_ := Aside0.mk (hb); have n4_ := Aside0.mk ((show Kd.C k79 w71 (some ad653) y655.length y655 from by rw [Ny655.out]; exact Kd.C_take (m := (x7_2 : Int).toNat) ((Kd.R_reads' (Kd.R_after (ok := (fun k_ => some k_ ≠ (v667 : Value).ownBlock ∧ k_ ≠ gb654)) (by (with_reducible repeat (first | apply Kd.R_alloc | apply Kd.R_drewN | apply Kd.R_drew)); exact Kd.R_mono HO_5.out (fun _ hk => ⟨⟨hk.2, hk.1.2⟩, hk.1.1⟩)) hg hat)).2.2) KL64.out)); have n5_ := Aside0.mk ((show Kd.C k79 w71 A66 y662.length y662 from by rw [Ny662.out, KA66.out]; exact Kd.C_drop (m := ((ji25) : Int).toNat) (c := co9) ((Kd.R_reads' (Kd.R_after (ok := (fun k_ => some k_ ≠ (v667 : Value).ownBlock ∧ k_ ≠ gb654)) (by (with_reducible repeat (first | apply Kd.R_alloc | apply Kd.R_drewN | apply Kd.R_drew)); exact Kd.R_mono HO_5.out (fun _ hk => ⟨⟨hk.2, hk.1.2⟩, hk.1.1⟩)) hg hat)).2.2) KL66.out ((Kd.R_reads' (Kd.R_after (ok := (fun k_ => some k_ ≠ (v667 : Value).ownBlock ∧ k_ ≠ gb654)) (by (with_reducible repeat (first | apply Kd.R_alloc | apply Kd.R_drewN | apply Kd.R_drew)); exact Kd.R_mono HO_5.out (fun _ hk => ⟨⟨hk.2, hk.1.2⟩, hk.1.1⟩)) hg hat)).2.1))); have n6_ := Aside0.mk (ho); clear HO_5; clear BK654; clear HO668; clear HB; clear HR658; clear HR665; clear HO_6; have HO_5 := n0_; have BK654 := n1_; have HO668 := n2_; have HB := n3_; have HR658 := n4_; have HR665 := n5_; have HO677 := n6_; clear n0_ n1_ n2_ n3_ n4_ n5_ n6_; clear ho hb hg hat))
                     go_roundg k2
                     case measure => have := HK1.out; have := HK2.out; omega
                     case rel => exact ⟨(y666), (y675), H', ⟨by have := HK1.out; have := HK2.out; omega⟩, ⟨by (with_reducible repeat (first | apply Kd.R_alloc | apply Kd.R_drewN | apply Kd.R_drew)); exact Kd.R_mono HO668.out (fun _ hk => hk.2)⟩, ⟨by (with_reducible repeat (first | apply Kd.R_alloc | apply Kd.R_drewN | apply Kd.R_drew)); exact Kd.R_mono HO677.out (fun _ hk => hk.2.1)⟩, ⟨by repeat (first | (with_reducible first | exact HB.out | apply below_alloc | apply pw_below_drewN | apply below_drew1 | refine below_set ?_ GE654.out) | exact HB.out)⟩⟩
                    ·rw [if_neg c60] at H
                     exact absurd H (by simp)
                  ·rw [if_neg c32] at H
                   exact absurd H (by simp)
                 ·rw [if_neg c31] at H
                  exact absurd H (by simp)
                ·rw [if_neg c29] at H
                 have c29b0 : decide (0 < (x6_1.length : Int)) = false := decide_eq_false c29
                 have c29b1 : decide (0 < x6_1.length) = false := decide_eq_false (by omega)
                 clear c29
                 by_cases c72 : x6_1.length < 4398046511104
                 ·rw [if_pos c72] at H
                  have LMc72 := Aside0.mk c72
                  clear c72
                  obtain ⟨y678, hy678⟩ : ∃ y_ : List (S79), y_ = (x6_1 ++ [(⟨(rd_T79 x5_1 x7_2).f0, (rd_T79 x5_1 x7_2).f1, (rd_T79 x5_1 x7_2).f2⟩ : S79)]) := ⟨_, rfl⟩
                  replace H : (wigeonref01_Join.l0 k2 y666 y678) = some (r1, r2) := by first | (rw [hy678]; with_reducible exact H) | (have H2_ := (Option.bind_some _ _).symm.trans H; rw [hy678]; with_reducible exact H2_) | (have H2_ := (Option.bind_some _ _).symm.trans H; with_reducible exact H2_) | with_reducible exact H | (rw [hy678]; exact H) | exact H
                  have Ny678 := Aside0.mk hy678
                  clear hy678
                  have H' := Aside0.mk H
                  clear H
                  have p653 : 0 ≤ (x7_2 : Int) := of_decide_eq_true (by first | (with_reducible assumption) | assumption)
                  have q653 : x7_2 < (x5_1.length : Int) := of_decide_eq_true (by first | (with_reducible assumption) | assumption)
                  obtain ⟨ad653, e653, hx653_0, hx653_1, hx653_2⟩ := at_T79 (Kd.R_reads' HO_5.out).2.2 x7_2 p653 q653
                  cases e653
                  replace p653 := eq_true p653
                  replace q653 := eq_true q653
                  try go_wp2_with (first | ((with_reducible refine gate_dst (N := 9) rfl ?_); refine box_event ?hg (N := 9) ?hd (cs := #[.string (⟨#[]⟩ : ByteArray), .int .i64 0, .int .i64 0]) (t := 79) ?hr ?_; (case hd => rfl); (case hg => rfl); (case hr => first | (go_simp; done) | (go_simp; rfl)); intro gb654 hg w73 hbox hb; have n0_ := Aside0.mk (Kd.R_below (Kd.R_elderB (by (with_reducible repeat (first | apply Kd.R_alloc | apply Kd.R_drewN | apply Kd.R_drew)); exact HO_5.out) gb654 (Nat.le_of_eq hg.symm)) hb); have n1_ := Aside0.mk (Kd.R_below (Kd.R_elderB (by (with_reducible repeat (first | apply Kd.R_alloc | apply Kd.R_drewN | apply Kd.R_drew)); exact HO_6.out) gb654 (Nat.le_of_eq hg.symm)) hb); have n2_ := Aside0.mk (below_step (by repeat (first | (with_reducible first | exact HB.out | apply below_alloc | apply pw_below_drewN | apply below_drew1) | exact HB.out)) hb); have n3_ := Aside0.mk (hbox); have n4_ := Aside0.mk ((by rw [hg]; exact (below_size (by repeat (first | (with_reducible first | exact HB.out | apply below_alloc | apply pw_below_drewN | apply below_drew1) | exact HB.out))) : w.heap.size ≤ gb654)); have n5_ := Aside0.mk ((by rw [hg]; exact (below_size (by repeat (first | (with_reducible first | exact HB.out | apply below_alloc | apply pw_below_drewN | apply below_drew1) | exact HB.out))) : w.heap.size ≤ gb654)); clear HO_5; clear HO_6; clear HB; have HO_5 := n0_; have HO_6 := n1_; have HB := n2_; have BK654 := n3_; have GW654 := n4_; have GE654 := n5_; clear n0_ n1_ n2_ n3_ n4_ n5_; clear hb hbox hg; have hcz74_0 : w73.cell? ⟨gb654, 0, none⟩ = some (.string (⟨#[]⟩ : ByteArray)) := (blk_cell BK654.out 0).trans rfl; have hcz74_1 : w73.cell? ⟨gb654, 1, none⟩ = some (.int .i64 0) := (blk_cell BK654.out 1).trans rfl; have hcz74_2 : w73.cell? ⟨gb654, 2, none⟩ = some (.int .i64 0) := (blk_cell BK654.out 2).trans rfl; have hfz74_0 := blk_frozen BK654.out 0; have hfz74_1 := blk_frozen BK654.out 1; have hfz74_2 := blk_frozen BK654.out 2) | ((with_reducible refine gate_store (t := 79) (p := 9) rfl ?_); refine store_event (t := 79) (p := 9) (v := ?vo_w75) (w1 := (((w73.setCell ⟨gb654, 0, none⟩ (.string ((rd_T79 x5_1 x7_2).f0))).setCell ⟨gb654, 1, none⟩ (.int .i64 ((rd_T79 x5_1 x7_2).f1))).setCell ⟨gb654, 2, none⟩ (.int .i64 ((rd_T79 x5_1 x7_2).f2)))) ?hg ?ho ?hn ?hr ?_; (case ho => rfl); (case hg => rfl); (case hn => rfl); (case hr => first | (go_simp; done) | (go_simp; rfl)); intro w75 hw; have n0_ : Aside0 (Kd.R k79 79 w75 w.heap.size (fun k_ => some k_ ≠ (u6 : Value).ownBlock ∧ k_ ≠ gb654) (.slice (some ad653) x5_1.length co9) x5_1) := ⟨(by rw [hw]; exact (by (with_reducible repeat (first | apply Kd.R_alloc | apply Kd.R_drewN | apply Kd.R_drew)); exact Kd.R_mono (Kd.R_far (p := ⟨gb654, 2, none⟩) (Kd.R_far (p := ⟨gb654, 1, none⟩) (Kd.R_far (p := ⟨gb654, 0, none⟩) (Kd.R_mono HO_5.out (fun k_ hk => (⟨hk, hk.2⟩ : _ ∧ k_ ≠ gb654))) (fun _ hk => hk.2) (.string ((rd_T79 x5_1 x7_2).f0))) (fun _ hk => hk.2) (.int .i64 ((rd_T79 x5_1 x7_2).f1))) (fun _ hk => hk.2) (.int .i64 ((rd_T79 x5_1 x7_2).f2))) (fun _ hk => ⟨hk.1.1, hk.1.2⟩)))⟩; have n1_ : Aside0 (Kd.R k79 79 w75 w.heap.size (fun k_ => some k_ ≠ (.slice (some ad653) x5_1.length co9 : Value).ownBlock ∧ k_ ≠ gb654) u6 x6_1) := ⟨(by rw [hw]; exact (by (with_reducible repeat (first | apply Kd.R_alloc | apply Kd.R_drewN | apply Kd.R_drew)); exact Kd.R_mono (Kd.R_far (p := ⟨gb654, 2, none⟩) (Kd.R_far (p := ⟨gb654, 1, none⟩) (Kd.R_far (p := ⟨gb654, 0, none⟩) (Kd.R_mono HO_6.out (fun k_ hk => (⟨hk, hk.2⟩ : _ ∧ k_ ≠ gb654))) (fun _ hk => hk.2) (.string ((rd_T79 x5_1 x7_2).f0))) (fun _ hk => hk.2) (.int .i64 ((rd_T79 x5_1 x7_2).f1))) (fun _ hk => hk.2) (.int .i64 ((rd_T79 x5_1 x7_2).f2))) (fun _ hk => ⟨hk.1.1, hk.1.2⟩)))⟩; have n2_ : Aside0 (w75.heap[gb654]? = some (.cells #[.string ((rd_T79 x5_1 x7_2).f0), .int .i64 ((rd_T79 x5_1 x7_2).f1), .int .i64 ((rd_T79 x5_1 x7_2).f2)] 79 (0, 0))) := ⟨(by rw [hw]; exact (by (with_reducible repeat (first | refine blk_drewN ?_ _ | refine blk_drew ?_ | refine blk_alloc ?_ _)); refine blk_put (cs := #[.string ((rd_T79 x5_1 x7_2).f0), .int .i64 ((rd_T79 x5_1 x7_2).f1), .int .i64 0]) ?_ 2 _ rfl; (with_reducible repeat (first | refine blk_drewN ?_ _ | refine blk_drew ?_ | refine blk_alloc ?_ _)); refine blk_put (cs := #[.string ((rd_T79 x5_1 x7_2).f0), .int .i64 0, .int .i64 0]) ?_ 1 _ rfl; (with_reducible repeat (first | refine blk_drewN ?_ _ | refine blk_drew ?_ | refine blk_alloc ?_ _)); refine blk_put (cs := #[.string (⟨#[]⟩ : ByteArray), .int .i64 0, .int .i64 0]) ?_ 0 _ rfl; (with_reducible repeat (first | refine blk_drewN ?_ _ | refine blk_drew ?_ | refine blk_alloc ?_ _)); exact BK654.out))⟩; have n3_ : Aside0 (Below w.heap.size w w75) := ⟨(by rw [hw]; exact (by repeat (first | (with_reducible first | exact HB.out | apply below_alloc | apply pw_below_drewN | apply below_drew1 | refine below_set ?_ GE654.out) | exact HB.out)))⟩; clear hw; clear HO_5; clear HO_6; clear BK654; clear HB; have HO_5 := n0_; have HO_6 := n1_; have BK654 := n2_; have HB := n3_; clear n0_ n1_ n2_ n3_; have q76 : (x7_2 : Int) ≤ ((x5_1.length : Int) : Int) := of_decide_eq_true (by first | (with_reducible assumption) | assumption); obtain ⟨i076, hi076, _, hsz76, _⟩ := info_parts info79; have hroom76 : x5_1.length ≤ co9 := (Kd.R_reads' HO_5.out).2.1; have hC76 : Kd.C k79 _ (some ad653) x5_1.length x5_1 := (Kd.R_reads' HO_5.out).2.2; have hcut76 := cut_to (P := Try.prog) 48 79 .i64 Try.underlying48 hi076 (some ad653) x5_1.length co9 x7_2 (of_decide_eq_true (by first | (with_reducible assumption) | assumption)) q76 hroom76; have hr76 := Kd.C_take (m := (x7_2 : Int).toNat) hC76 (by omega); have hy76 : y655.length = (x7_2 : Int).toNat := (by rw [Ny655.out, List.length_take]; omega); rw [← Ny655.out] at hr76; rw [← hy76] at hcut76; have HR658 := Aside0.mk hr76; have HC658 := Aside0.mk (show y655.length ≤ co9 from by omega); clear hr76 hC76 hroom76 hi076 hsz76; have KY76 := Aside0.mk hy76; clear hy76; have KL76 := Aside0.mk (show (x7_2 : Int).toNat ≤ x5_1.length from by omega); replace q76 := eq_true q76) | ((with_reducible refine gate_builtin (b := .append) (xs := #[.tmp 43, .tmp 46]) rfl ?_); at_builtin; refine Kd.R_append_rows k79 (w0 := w) w.heap.size rfl (.tmp 43) (.tmp 46) 48 79 (.agg #[(.string ⟨#[]⟩), (.int .i64 0), (.int .i64 0)]) 32 rfl Try.underlying48 info79 rfl (by decide) (by omega) (.slice none 0 0) ([] : List (S79)) y655 _ _ _ (fun k_ => some k_ ≠ (.slice (some ad653) x5_1.length co9 : Value).ownBlock ∧ some k_ ≠ (u6 : Value).ownBlock ∧ k_ ≠ gb654) (fun _ => False) rfl rfl ?aO ?aR (fun _ _ h => h) (fun _ h => h.elim) ?aF ?aB ?aS ?aL ?_; (case aR => repeat (first | exact (by repeat (first | (with_reducible exact HR658.out) | (with_reducible refine Kd.C_alloc ?_ _) | (with_reducible refine Kd.C_drewN ?_ _) | (with_reducible refine Kd.C_drew ?_) | exact HR658.out)) | (with_reducible refine Kd.C_alloc ?_ _) | (with_reducible refine Kd.C_drewN ?_ _) | (with_reducible refine Kd.C_drew ?_))); (case aB => exact (by repeat (first | (with_reducible first | exact HB.out | apply below_alloc | apply pw_below_drewN | apply below_drew1 | refine below_set ?_ GE654.out) | exact HB.out))); (case aF => exact (fun k_ hk => ⟨Kd.fresh' (Kd.R_lt (by (with_reducible repeat (first | apply Kd.R_alloc | apply Kd.R_drewN | apply Kd.R_drew)); exact HO_5.out)) k_ hk, Kd.fresh' (Kd.R_lt (by (with_reducible repeat (first | apply Kd.R_alloc | apply Kd.R_drewN | apply Kd.R_drew)); exact HO_6.out)) k_ hk, Kd.freshB (g := gb654) (o := .cells #[.string ((rd_T79 x5_1 x7_2).f0), .int .i64 ((rd_T79 x5_1 x7_2).f1), .int .i64 ((rd_T79 x5_1 x7_2).f2)] 79 (0, 0)) (by (with_reducible repeat (first | refine blk_drewN ?_ _ | refine blk_drew ?_ | refine blk_alloc ?_ _)); exact BK654.out) k_ hk⟩)); (case aO => exact ((Kd.R_nil _ _ _ _ (fun k_ => some k_ ≠ (.slice (some ad653) x5_1.length co9 : Value).ownBlock ∧ some k_ ≠ (u6 : Value).ownBlock ∧ k_ ≠ gb654)))); (case aS => exact (below_size (by repeat (first | (with_reducible first | exact HB.out | apply below_alloc | apply pw_below_drewN | apply below_drew1 | refine below_set ?_ GE654.out) | exact HB.out)))); (case aL => have := LMc24.out; omega); intro v660 w77 ho hb hg hat; rw [← Ny659.out] at ho; have n0_ := Aside0.mk (Kd.R_after (Kd.R_apart_nil (by (with_reducible repeat (first | apply Kd.R_alloc | apply Kd.R_drewN | apply Kd.R_drew)); exact HO_5.out)) hg hat); have n1_ := Aside0.mk (Kd.R_after (Kd.R_apart_nil (by (with_reducible repeat (first | apply Kd.R_alloc | apply Kd.R_drewN | apply Kd.R_drew)); exact HO_6.out)) hg hat); have n2_ := Aside0.mk (blk_grown (g := gb654) (o := .cells #[.string ((rd_T79 x5_1 x7_2).f0), .int .i64 ((rd_T79 x5_1 x7_2).f1), .int .i64 ((rd_T79 x5_1 x7_2).f2)] 79 (0, 0)) (by (with_reducible repeat (first | refine blk_drewN ?_ _ | refine blk_drew ?_ | refine blk_alloc ?_ _)); exact BK654.out) hg (by simp [Value.ownBlock])); have n3_ := Aside0.mk (hb); have n4_ := Aside0.mk ((show Kd.C k79 w77 (some ad653) y655.length y655 from by rw [Ny655.out]; exact Kd.C_take (m := (x7_2 : Int).toNat) ((Kd.R_reads' (Kd.R_after (Kd.R_apart_nil (by (with_reducible repeat (first | apply Kd.R_alloc | apply Kd.R_drewN | apply Kd.R_drew)); exact HO_5.out)) hg hat)).2.2) KL76.out)); have n5_ := Aside0.mk (ho); clear HO_5; clear HO_6; clear BK654; clear HB; clear HR658; have HO_5 := n0_; have HO_6 := n1_; have BK654 := n2_; have HB := n3_; have HR658 := n4_; have HO661 := n5_; clear n0_ n1_ n2_ n3_ n4_ n5_; clear ho hb hg hat; have q78 : ((ji25) : Int) ≤ ((x5_1.length : Int) : Int) := of_decide_eq_true (by first | (with_reducible assumption) | assumption); obtain ⟨i078, hi078, _, hsz78, _⟩ := info_parts info79; have hroom78 : x5_1.length ≤ co9 := (Kd.R_reads' HO_5.out).2.1; have hC78 : Kd.C k79 _ (some ad653) x5_1.length x5_1 := (Kd.R_reads' HO_5.out).2.2; have q078 : (0 : Int) ≤ ((ji25) : Int) := of_decide_eq_true (by first | (with_reducible assumption) | assumption); have hcut78 := cut_from (P := Try.prog) 48 79 .i64 Try.underlying48 hi078 3 hsz78 (some ad653) x5_1.length co9 (ji25) q078 q78; have hr78 := Kd.C_drop (m := ((ji25) : Int).toNat) (c := co9) hC78 (by omega) hroom78; obtain ⟨A78, hA78⟩ : ∃ A1, A1 = (if co9 = ((ji25) : Int).toNat then (some ad653) else ((some ad653) : Option Addr).map (·.add (((ji25) : Int).toNat * 3))) := ⟨_, rfl⟩; obtain ⟨c78, hc78⟩ : ∃ c1, c1 = co9 - ((ji25) : Int).toNat := ⟨_, rfl⟩; have hy78 : y662.length = x5_1.length - ((ji25) : Int).toNat := (by rw [Ny662.out, List.length_drop] <;> omega); rw [show (x5_1).drop ((ji25) : Int).toNat = y662 from Ny662.out.symm] at hr78; replace hr78 : Kd.C k79 _ A78 y662.length y662 := (by rw [hA78]; exact hr78); rw [← hy78, ← hA78, ← hc78] at hcut78; have HR665 := Aside0.mk hr78; have HC665 := Aside0.mk (show y662.length ≤ c78 from by rw [hy78, hc78]; exact Nat.sub_le_sub_right hroom78 _); clear hr78 hC78 hroom78 hi078 hsz78 hc78; have KY78 := Aside0.mk hy78; have KA78 := Aside0.mk hA78; clear hy78 hA78; have KL78 := Aside0.mk (show ((ji25) : Int).toNat ≤ x5_1.length from by omega); replace q78 := eq_true q78) | ((with_reducible refine gate_builtin (b := .append) (xs := #[.tmp 48, .tmp 52]) rfl ?_); at_builtin; refine Kd.R_append_rows k79 (w0 := w) w.heap.size rfl (.tmp 48) (.tmp 52) 48 79 (.agg #[(.string ⟨#[]⟩), (.int .i64 0), (.int .i64 0)]) 32 rfl Try.underlying48 info79 rfl (by decide) (by omega) v660 y659 y662 _ _ _ (fun k_ => some k_ ≠ (.slice (some ad653) x5_1.length co9 : Value).ownBlock ∧ some k_ ≠ (u6 : Value).ownBlock ∧ k_ ≠ gb654) (fun _ => False) rfl rfl ?aO ?aR (fun _ _ h => h) (fun _ h => h.elim) ?aF ?aB ?aS ?aL ?_; (case aR => repeat (first | exact (by repeat (first | (with_reducible exact HR665.out) | (with_reducible refine Kd.C_alloc ?_ _) | (with_reducible refine Kd.C_drewN ?_ _) | (with_reducible refine Kd.C_drew ?_) | exact HR665.out)) | (with_reducible refine Kd.C_alloc ?_ _) | (with_reducible refine Kd.C_drewN ?_ _) | (with_reducible refine Kd.C_drew ?_))); (case aB => exact (by repeat (first | (with_reducible first | exact HB.out | apply below_alloc | apply pw_below_drewN | apply below_drew1 | refine below_set ?_ GE654.out) | exact HB.out))); (case aF => exact (fun k_ hk => ⟨Kd.fresh' (Kd.R_lt (by (with_reducible repeat (first | apply Kd.R_alloc | apply Kd.R_drewN | apply Kd.R_drew)); exact HO_5.out)) k_ hk, Kd.fresh' (Kd.R_lt (by (with_reducible repeat (first | apply Kd.R_alloc | apply Kd.R_drewN | apply Kd.R_drew)); exact HO_6.out)) k_ hk, Kd.freshB (g := gb654) (o := .cells #[.string ((rd_T79 x5_1 x7_2).f0), .int .i64 ((rd_T79 x5_1 x7_2).f1), .int .i64 ((rd_T79 x5_1 x7_2).f2)] 79 (0, 0)) (by (with_reducible repeat (first | refine blk_drewN ?_ _ | refine blk_drew ?_ | refine blk_alloc ?_ _)); exact BK654.out) k_ hk⟩)); (case aO => exact (by (with_reducible repeat (first | apply Kd.R_alloc | apply Kd.R_drewN | apply Kd.R_drew)); exact HO661.out)); (case aS => exact (below_size (by repeat (first | (with_reducible first | exact HB.out | apply below_alloc | apply pw_below_drewN | apply below_drew1 | refine below_set ?_ GE654.out) | exact HB.out)))); (case aL => have := LMc28.out; omega); intro v667 w79 ho hb hg hat; rw [← Ny666.out] at ho; have n0_ := Aside0.mk (Kd.R_after (ok := (fun k_ => some k_ ≠ (u6 : Value).ownBlock ∧ k_ ≠ gb654)) (by (with_reducible repeat (first | apply Kd.R_alloc | apply Kd.R_drewN | apply Kd.R_drew)); exact HO_5.out) hg hat); have n1_ := Aside0.mk (Kd.R_after (ok := (fun k_ => some k_ ≠ (.slice (some ad653) x5_1.length co9 : Value).ownBlock ∧ k_ ≠ gb654)) (by (with_reducible repeat (first | apply Kd.R_alloc | apply Kd.R_drewN | apply Kd.R_drew)); exact HO_6.out) hg hat); have n2_ := Aside0.mk (blk_grown (g := gb654) (o := .cells #[.string ((rd_T79 x5_1 x7_2).f0), .int .i64 ((rd_T79 x5_1 x7_2).f1), .int .i64 ((rd_T79 x5_1 x7_2).f2)] 79 (0, 0)) (by (with_reducible repeat (first | refine blk_drewN ?_ _ | refine blk_drew ?_ | refine blk_alloc ?_ _)); exact BK654.out) hg (Kd.R_away HO661.out (fun _ hk => hk.2.2))); have n3_ := Aside0.mk (hb); have n4_ := Aside0.mk ((show Kd.C k79 w79 (some ad653) y655.length y655 from by rw [Ny655.out]; exact Kd.C_take (m := (x7_2 : Int).toNat) ((Kd.R_reads' (Kd.R_after (ok := (fun k_ => some k_ ≠ (u6 : Value).ownBlock ∧ k_ ≠ gb654)) (by (with_reducible repeat (first | apply Kd.R_alloc | apply Kd.R_drewN | apply Kd.R_drew)); exact HO_5.out) hg hat)).2.2) KL76.out)); have n5_ := Aside0.mk ((show Kd.C k79 w79 A78 y662.length y662 from by rw [Ny662.out, KA78.out]; exact Kd.C_drop (m := ((ji25) : Int).toNat) (c := co9) ((Kd.R_reads' (Kd.R_after (ok := (fun k_ => some k_ ≠ (u6 : Value).ownBlock ∧ k_ ≠ gb654)) (by (with_reducible repeat (first | apply Kd.R_alloc | apply Kd.R_drewN | apply Kd.R_drew)); exact HO_5.out) hg hat)).2.2) KL78.out ((Kd.R_reads' (Kd.R_after (ok := (fun k_ => some k_ ≠ (u6 : Value).ownBlock ∧ k_ ≠ gb654)) (by (with_reducible repeat (first | apply Kd.R_alloc | apply Kd.R_drewN | apply Kd.R_drew)); exact HO_5.out) hg hat)).2.1))); have n6_ := Aside0.mk (ho); clear HO_5; clear HO_6; clear BK654; clear HB; clear HR658; clear HR665; clear HO661; have HO_5 := n0_; have HO_6 := n1_; have BK654 := n2_; have HB := n3_; have HR658 := n4_; have HR665 := n5_; have HO668 := n6_; clear n0_ n1_ n2_ n3_ n4_ n5_ n6_; clear ho hb hg hat; obtain ⟨Ao80, co80, eo80⟩ := Kd.R_slice HO_6.out; subst eo80))
                  have n0_ := Aside0.mk (Kd.R_drew HO_5.out)
                  have n1_ := Aside0.mk (Kd.R_drew HO_6.out)
                  have n2_ := Aside0.mk (Kd.R_drew HO668.out)
                  have n3_ := Aside0.mk (blk_drew BK654.out)
                  have n4_ := Aside0.mk (Kd.C_drew HR658.out)
                  have n5_ := Aside0.mk (Kd.C_drew HR665.out)
                  have n6_ := Aside0.mk (below_drew1 HB.out)
                  clear HO_5
                  clear HO_6
                  clear HO668
                  clear BK654
                  clear HR658
                  clear HR665
                  clear HB
                  have HO_5 := n0_
                  have HO_6 := n1_
                  have HO668 := n2_
                  have BK654 := n3_
                  have HR658 := n4_
                  have HR665 := n5_
                  have HB := n6_
                  clear n0_ n1_ n2_ n3_ n4_ n5_ n6_
                  refine start_ (n := 25) (S := fun w' => True) (ds := []) #[false, false, false, false, false, false, false, false, false, false, false, false, false, false, false, false, false, false, false, false, false, false, false, false, false] (by kernel_rfl) rfl rfl trivial (fun hHeld => ?_); refine with_tabW wigeonref01_Join.tab19 wigeonref01_Join.bits19 (fun HT_ HW_ => ?_)
                  generalize w79.drew = w81 at HO_5 HO_6 HO668 BK654 HR658 HR665 HB hHeld ⊢
                  refine pure_ (i := 0) (N := some 57) (v := ?_) (a' := ?_) #[true, false, false, false, false, false, false, false, false, false, false, false, false, false, false, false, false, false, false, false, false, false, false, false, false] rfl rfl (any_of HT_.out (by kernel_rfl)) (fun _ _ _ h => h) (Or.inl ⟨by rfl, ?_⟩) ?_ ?_
                  rotate_left
                  ·intro w'
                   go_simp
                   with_reducible rfl
                  rotate_left
                  ·simp only [Act.put, List.setIfInBounds_toArray, List.set_cons_zero, List.set_cons_succ, i64_w, i32_w]
                   rfl
                  refine pure_ (i := 1) (N := some 58) (v := ?_) (a' := ?_) #[true, true, false, false, false, false, false, false, false, false, false, false, false, false, false, false, false, false, false, false, false, false, false, false, false] rfl rfl (any_of HT_.out (by kernel_rfl)) (fun _ _ _ h => h) (Or.inl ⟨by rfl, ?_⟩) ?_ ?_
                  rotate_left
                  ·intro w'
                   go_simp
                   with_reducible rfl
                  rotate_left
                  ·simp only [Act.put, List.setIfInBounds_toArray, List.set_cons_zero, List.set_cons_succ, i64_w, i32_w]
                   rfl
                  refine pure_ (i := 2) (N := some 59) (v := ?_) (a' := ?_) #[true, true, true, false, false, false, false, false, false, false, false, false, false, false, false, false, false, false, false, false, false, false, false, false, false] rfl rfl (any_of HT_.out (by kernel_rfl)) (fun _ _ _ h => h) (Or.inl ⟨by rfl, ?_⟩) ?_ ?_
                  rotate_left
                  ·intro w'
                   go_simp
                   with_reducible rfl
                  rotate_left
                  ·simp only [Act.put, List.setIfInBounds_toArray, List.set_cons_zero, List.set_cons_succ, i64_w, i32_w]
                   rfl
                  refine pure_ (i := 3) (N := some 60) (v := undef) (a' := ?_) #[true, true, true, true, false, false, false, false, false, false, false, false, false, false, false, false, false, false, false, false, false, false, false, false, false] rfl rfl (any_of HT_.out (by kernel_rfl)) (fun _ _ _ h => h) (Or.inr ⟨by rfl, rfl⟩) ?_ ?_
                  rotate_left
                  ·simp only [Act.put, List.setIfInBounds_toArray, List.set_cons_zero, List.set_cons_succ, i64_w, i32_w]
                   rfl
                  refine pure_ (i := 4) (N := some 61) (v := undef) (a' := ?_) #[true, true, true, true, true, false, false, false, false, false, false, false, false, false, false, false, false, false, false, false, false, false, false, false, false] rfl rfl (any_of HT_.out (by kernel_rfl)) (fun _ _ _ h => h) (Or.inr ⟨by rfl, rfl⟩) ?_ ?_
                  rotate_left
                  ·simp only [Act.put, List.setIfInBounds_toArray, List.set_cons_zero, List.set_cons_succ, i64_w, i32_w]
                   rfl
                  refine pure_ (i := 5) (N := some 62) (v := undef) (a' := ?_) #[true, true, true, true, true, true, false, false, false, false, false, false, false, false, false, false, false, false, false, false, false, false, false, false, false] rfl rfl (any_of HT_.out (by kernel_rfl)) (fun _ _ _ h => h) (Or.inr ⟨by rfl, rfl⟩) ?_ ?_
                  rotate_left
                  ·simp only [Act.put, List.setIfInBounds_toArray, List.set_cons_zero, List.set_cons_succ, i64_w, i32_w]
                   rfl
                  refine pure_ (i := 6) (N := some 63) (v := undef) (a' := ?_) #[true, true, true, true, true, true, true, false, false, false, false, false, false, false, false, false, false, false, false, false, false, false, false, false, false] rfl rfl (any_of HT_.out (by kernel_rfl)) (fun _ _ _ h => h) (Or.inr ⟨by rfl, rfl⟩) ?_ ?_
                  rotate_left
                  ·simp only [Act.put, List.setIfInBounds_toArray, List.set_cons_zero, List.set_cons_succ, i64_w, i32_w]
                   rfl
                  refine pure_ (i := 7) (N := some 64) (v := undef) (a' := ?_) #[true, true, true, true, true, true, true, true, false, false, false, false, false, false, false, false, false, false, false, false, false, false, false, false, false] rfl rfl (any_of HT_.out (by kernel_rfl)) (fun _ _ _ h => h) (Or.inr ⟨by rfl, rfl⟩) ?_ ?_
                  rotate_left
                  ·simp only [Act.put, List.setIfInBounds_toArray, List.set_cons_zero, List.set_cons_succ, i64_w, i32_w]
                   rfl
                  refine pure_ (i := 8) (N := some 65) (v := undef) (a' := ?_) #[true, true, true, true, true, true, true, true, true, false, false, false, false, false, false, false, false, false, false, false, false, false, false, false, false] rfl rfl (any_of HT_.out (by kernel_rfl)) (fun _ _ _ h => h) (Or.inr ⟨by rfl, rfl⟩) ?_ ?_
                  rotate_left
                  ·simp only [Act.put, List.setIfInBounds_toArray, List.set_cons_zero, List.set_cons_succ, i64_w, i32_w]
                   rfl
                  refine pure_ (i := 9) (N := some 66) (v := undef) (a' := ?_) #[true, true, true, true, true, true, true, true, true, true, false, false, false, false, false, false, false, false, false, false, false, false, false, false, false] rfl rfl (any_of HT_.out (by kernel_rfl)) (fun _ _ _ h => h) (Or.inr ⟨by rfl, rfl⟩) ?_ ?_
                  rotate_left
                  ·simp only [Act.put, List.setIfInBounds_toArray, List.set_cons_zero, List.set_cons_succ, i64_w, i32_w]
                   rfl
                  refine pure_ (i := 10) (N := some 67) (v := undef) (a' := ?_) #[true, true, true, true, true, true, true, true, true, true, true, false, false, false, false, false, false, false, false, false, false, false, false, false, false] rfl rfl (any_of HT_.out (by kernel_rfl)) (fun _ _ _ h => h) (Or.inr ⟨by rfl, rfl⟩) ?_ ?_
                  rotate_left
                  ·simp only [Act.put, List.setIfInBounds_toArray, List.set_cons_zero, List.set_cons_succ, i64_w, i32_w]
                   rfl
                  refine pure_ (i := 11) (N := some 68) (v := undef) (a' := ?_) #[true, true, true, true, true, true, true, true, true, true, true, true, false, false, false, false, false, false, false, false, false, false, false, false, false] rfl rfl (any_of HT_.out (by kernel_rfl)) (fun _ _ _ h => h) (Or.inr ⟨by rfl, rfl⟩) ?_ ?_
                  rotate_left
                  ·simp only [Act.put, List.setIfInBounds_toArray, List.set_cons_zero, List.set_cons_succ, i64_w, i32_w]
                   rfl
                  refine pure_ (i := 12) (N := some 69) (v := ?_) (a' := ?_) #[true, true, true, true, true, true, true, true, true, true, true, true, true, false, false, false, false, false, false, false, false, false, false, false, false] rfl rfl (any_of HT_.out (by kernel_rfl)) (fun _ _ _ h => h) (Or.inl ⟨by rfl, ?_⟩) ?_ ?_
                  rotate_left
                  ·intro w'
                   go_simp
                   with_reducible rfl
                  rotate_left
                  ·simp only [Act.put, List.setIfInBounds_toArray, List.set_cons_zero, List.set_cons_succ, i64_w, i32_w]
                   rfl
                  refine pure_ (i := 13) (N := some 70) (v := ?_) (a' := ?_) #[true, true, true, true, true, true, true, true, true, true, true, true, true, true, false, false, false, false, false, false, false, false, false, false, false] rfl rfl (any_of HT_.out (by kernel_rfl)) (fun _ _ _ h => h) (Or.inl ⟨by rfl, ?_⟩) ?_ ?_
                  rotate_left
                  ·intro w'
                   go_simp
                   with_reducible rfl
                  rotate_left
                  ·simp only [Act.put, List.setIfInBounds_toArray, List.set_cons_zero, List.set_cons_succ, i64_w, i32_w]
                   rfl
                  refine pure_ (i := 14) (N := some 71) (v := undef) (a' := ?_) #[true, true, true, true, true, true, true, true, true, true, true, true, true, true, true, false, false, false, false, false, false, false, false, false, false] rfl rfl (any_of HT_.out (by kernel_rfl)) (fun _ _ _ h => h) (Or.inr ⟨by rfl, rfl⟩) ?_ ?_
                  rotate_left
                  ·simp only [Act.put, List.setIfInBounds_toArray, List.set_cons_zero, List.set_cons_succ, i64_w, i32_w]
                   rfl
                  refine pure_ (i := 15) (N := some 72) (v := undef) (a' := ?_) #[true, true, true, true, true, true, true, true, true, true, true, true, true, true, true, true, false, false, false, false, false, false, false, false, false] rfl rfl (any_of HT_.out (by kernel_rfl)) (fun _ _ _ h => h) (Or.inr ⟨by rfl, rfl⟩) ?_ ?_
                  rotate_left
                  ·simp only [Act.put, List.setIfInBounds_toArray, List.set_cons_zero, List.set_cons_succ, i64_w, i32_w]
                   rfl
                  refine pure_ (i := 16) (N := some 73) (v := undef) (a' := ?_) #[true, true, true, true, true, true, true, true, true, true, true, true, true, true, true, true, true, false, false, false, false, false, false, false, false] rfl rfl (any_of HT_.out (by kernel_rfl)) (fun _ _ _ h => h) (Or.inr ⟨by rfl, rfl⟩) ?_ ?_
                  rotate_left
                  ·simp only [Act.put, List.setIfInBounds_toArray, List.set_cons_zero, List.set_cons_succ, i64_w, i32_w]
                   rfl
                  refine pure_ (i := 17) (N := some 74) (v := undef) (a' := ?_) #[true, true, true, true, true, true, true, true, true, true, true, true, true, true, true, true, true, true, false, false, false, false, false, false, false] rfl rfl (any_of HT_.out (by kernel_rfl)) (fun _ _ _ h => h) (Or.inr ⟨by rfl, rfl⟩) ?_ ?_
                  rotate_left
                  ·simp only [Act.put, List.setIfInBounds_toArray, List.set_cons_zero, List.set_cons_succ, i64_w, i32_w]
                   rfl
                  refine pure_ (i := 18) (N := some 75) (v := undef) (a' := ?_) #[true, true, true, true, true, true, true, true, true, true, true, true, true, true, true, true, true, true, true, false, false, false, false, false, false] rfl rfl (any_of HT_.out (by kernel_rfl)) (fun _ _ _ h => h) (Or.inr ⟨by rfl, rfl⟩) ?_ ?_
                  rotate_left
                  ·simp only [Act.put, List.setIfInBounds_toArray, List.set_cons_zero, List.set_cons_succ, i64_w, i32_w]
                   rfl
                  refine pure_ (i := 19) (N := some 76) (v := undef) (a' := ?_) #[true, true, true, true, true, true, true, true, true, true, true, true, true, true, true, true, true, true, true, true, false, false, false, false, false] rfl rfl (any_of HT_.out (by kernel_rfl)) (fun _ _ _ h => h) (Or.inr ⟨by rfl, rfl⟩) ?_ ?_
                  rotate_left
                  ·simp only [Act.put, List.setIfInBounds_toArray, List.set_cons_zero, List.set_cons_succ, i64_w, i32_w]
                   rfl
                  refine pure_ (i := 20) (N := some 77) (v := undef) (a' := ?_) #[true, true, true, true, true, true, true, true, true, true, true, true, true, true, true, true, true, true, true, true, true, false, false, false, false] rfl rfl (any_of HT_.out (by kernel_rfl)) (fun _ _ _ h => h) (Or.inr ⟨by rfl, rfl⟩) ?_ ?_
                  rotate_left
                  ·simp only [Act.put, List.setIfInBounds_toArray, List.set_cons_zero, List.set_cons_succ, i64_w, i32_w]
                   rfl
                  refine pure_ (i := 21) (N := some 78) (v := undef) (a' := ?_) #[true, true, true, true, true, true, true, true, true, true, true, true, true, true, true, true, true, true, true, true, true, true, false, false, false] rfl rfl (any_of HT_.out (by kernel_rfl)) (fun _ _ _ h => h) (Or.inr ⟨by rfl, rfl⟩) ?_ ?_
                  rotate_left
                  ·simp only [Act.put, List.setIfInBounds_toArray, List.set_cons_zero, List.set_cons_succ, i64_w, i32_w]
                   rfl
                  refine pure_ (i := 22) (N := some 79) (v := undef) (a' := ?_) #[true, true, true, true, true, true, true, true, true, true, true, true, true, true, true, true, true, true, true, true, true, true, true, false, false] rfl rfl (any_of HT_.out (by kernel_rfl)) (fun _ _ _ h => h) (Or.inr ⟨by rfl, rfl⟩) ?_ ?_
                  rotate_left
                  ·simp only [Act.put, List.setIfInBounds_toArray, List.set_cons_zero, List.set_cons_succ, i64_w, i32_w]
                   rfl
                  refine pure_ (i := 23) (N := some 80) (v := undef) (a' := ?_) #[true, true, true, true, true, true, true, true, true, true, true, true, true, true, true, true, true, true, true, true, true, true, true, true, false] rfl rfl (any_of HT_.out (by kernel_rfl)) (fun _ _ _ h => h) (Or.inr ⟨by rfl, rfl⟩) ?_ ?_
                  rotate_left
                  ·simp only [Act.put, List.setIfInBounds_toArray, List.set_cons_zero, List.set_cons_succ, i64_w, i32_w]
                   rfl
                  refine pure_ (i := 24) (N := some 81) (v := ?_) (a' := ?_) #[true, true, true, true, true, true, true, true, true, true, true, true, true, true, true, true, true, true, true, true, true, true, true, true, true] rfl rfl (any_of HT_.out (by kernel_rfl)) (fun _ _ _ h => h) (Or.inl ⟨by rfl, ?_⟩) ?_ ?_
                  rotate_left
                  ·intro w'
                   go_simp
                   with_reducible rfl
                  rotate_left
                  ·simp only [Act.put, List.setIfInBounds_toArray, List.set_cons_zero, List.set_cons_succ, i64_w, i32_w]
                   rfl
                  refine done_ (done_of HT_.out (by kernel_rfl)) ?_
                  have hcz82_0 : w81.cell? ⟨gb654, 0, none⟩ = some (.string ((rd_T79 x5_1 x7_2).f0)) := (blk_cell BK654.out 0).trans rfl
                  have hcz82_1 : w81.cell? ⟨gb654, 1, none⟩ = some (.int .i64 ((rd_T79 x5_1 x7_2).f1)) := (blk_cell BK654.out 1).trans rfl
                  have hcz82_2 : w81.cell? ⟨gb654, 2, none⟩ = some (.int .i64 ((rd_T79 x5_1 x7_2).f2)) := (blk_cell BK654.out 2).trans rfl
                  have hfz82_0 := blk_frozen BK654.out 0
                  have hfz82_1 := blk_frozen BK654.out 1
                  have hfz82_2 := blk_frozen BK654.out 2
                  try go_wp2_with (first | ((with_reducible refine gate_builtin (b := .append) (xs := #[.tmp 89, .tmp 91]) rfl ?_); at_builtin; refine Kd.R_append k79 (w0 := w) w.heap.size rfl (.tmp 89) (.tmp 91) 48 79 (.agg #[(.string ⟨#[]⟩), (.int .i64 0), (.int .i64 0)]) 32 rfl Try.underlying48 info79 rfl (by decide) (by omega) (.slice Ao80 x6_1.length co80) x6_1 (⟨(rd_T79 x5_1 x7_2).f0, (rd_T79 x5_1 x7_2).f1, (rd_T79 x5_1 x7_2).f2⟩ : S79) [.string ((rd_T79 x5_1 x7_2).f0), .int .i64 ((rd_T79 x5_1 x7_2).f1), .int .i64 ((rd_T79 x5_1 x7_2).f2)] (fun k_ => some k_ ≠ (.slice (some ad653) x5_1.length co9 : Value).ownBlock ∧ some k_ ≠ (v667 : Value).ownBlock ∧ k_ ≠ gb654) (fun _ => False) rfl rfl ?aP (fun _ hk => hk.elim) ?aF ?aO ?aB ?aS ?aL ?_; (case aP => exact k79_mkM _ _ _ (⟨(rd_T79 x5_1 x7_2).f0, (rd_T79 x5_1 x7_2).f1, (rd_T79 x5_1 x7_2).f2⟩ : S79)); (case aB => exact (by repeat (first | (with_reducible first | exact HB.out | apply below_alloc | apply pw_below_drewN | apply below_drew1 | refine below_set ?_ GE654.out) | exact HB.out))); (case aF => exact (fun k_ hk => ⟨Kd.fresh' (Kd.R_lt (by (with_reducible repeat (first | apply Kd.R_alloc | apply Kd.R_drewN | apply Kd.R_drew)); exact HO_5.out)) k_ hk, Kd.fresh' (Kd.R_lt (by (with_reducible repeat (first | apply Kd.R_alloc | apply Kd.R_drewN | apply Kd.R_drew)); exact HO668.out)) k_ hk, Kd.freshB (g := gb654) (o := .cells #[.string ((rd_T79 x5_1 x7_2).f0), .int .i64 ((rd_T79 x5_1 x7_2).f1), .int .i64 ((rd_T79 x5_1 x7_2).f2)] 79 (0, 0)) (by (with_reducible repeat (first | refine blk_drewN ?_ _ | refine blk_drew ?_ | refine blk_alloc ?_ _)); exact BK654.out) k_ hk⟩)); (case aO => exact (by (with_reducible repeat (first | apply Kd.R_alloc | apply Kd.R_drewN | apply Kd.R_drew)); exact Kd.R_mono HO_6.out (fun _ hk => ⟨hk.1.1, ⟨hk.2, hk.1.2⟩⟩))); (case aS => exact (below_size (by repeat (first | (with_reducible first | exact HB.out | apply below_alloc | apply pw_below_drewN | apply below_drew1 | refine below_set ?_ GE654.out) | exact HB.out)))); (case aL => have := LMc72.out; omega); intro v679 w83 ho hb hg hat; rw [← Ny678.out] at ho; have n0_ := Aside0.mk (Kd.R_after (ok := (fun k_ => some k_ ≠ (v667 : Value).ownBlock ∧ k_ ≠ gb654)) (by (with_reducible repeat (first | apply Kd.R_alloc | apply Kd.R_drewN | apply Kd.R_drew)); exact Kd.R_mono HO_5.out (fun _ hk => ⟨⟨hk.2, hk.1.2⟩, hk.1.1⟩)) hg hat); have n1_ := Aside0.mk (blk_grown (g := gb654) (o := .cells #[.string ((rd_T79 x5_1 x7_2).f0), .int .i64 ((rd_T79 x5_1 x7_2).f1), .int .i64 ((rd_T79 x5_1 x7_2).f2)] 79 (0, 0)) (by (with_reducible repeat (first | refine blk_drewN ?_ _ | refine blk_drew ?_ | refine blk_alloc ?_ _)); exact BK654.out) hg (Kd.R_away HO_6.out (fun _ hk => hk.1.2))); have n2_ := Aside0.mk (Kd.R_after (ok := (fun k_ => some k_ ≠ (.slice (some ad653) x5_1.length co9 : Value).ownBlock ∧ k_ ≠ gb654)) (by (with_reducible repeat (first | apply Kd.R_alloc | apply Kd.R_drewN | apply Kd.R_drew)); exact Kd.R_mono HO668.out (fun _ hk => ⟨⟨hk.1, hk.2.2⟩, hk.2.1⟩)) hg hat); have n3_ := Aside0.mk (hb); have n4_ := Aside0.mk ((show Kd.C k79 w83 (some ad653) y655.length y655 from by rw [Ny655.out]; exact Kd.C_take (m := (x7_2 : Int).toNat) ((Kd.R_reads' (Kd.R_after (ok := (fun k_ => some k_ ≠ (v667 : Value).ownBlock ∧ k_ ≠ gb654)) (by (with_reducible repeat (first | apply Kd.R_alloc | apply Kd.R_drewN | apply Kd.R_drew)); exact Kd.R_mono HO_5.out (fun _ hk => ⟨⟨hk.2, hk.1.2⟩, hk.1.1⟩)) hg hat)).2.2) KL76.out)); have n5_ := Aside0.mk ((show Kd.C k79 w83 A78 y662.length y662 from by rw [Ny662.out, KA78.out]; exact Kd.C_drop (m := ((ji25) : Int).toNat) (c := co9) ((Kd.R_reads' (Kd.R_after (ok := (fun k_ => some k_ ≠ (v667 : Value).ownBlock ∧ k_ ≠ gb654)) (by (with_reducible repeat (first | apply Kd.R_alloc | apply Kd.R_drewN | apply Kd.R_drew)); exact Kd.R_mono HO_5.out (fun _ hk => ⟨⟨hk.2, hk.1.2⟩, hk.1.1⟩)) hg hat)).2.2) KL78.out ((Kd.R_reads' (Kd.R_after (ok := (fun k_ => some k_ ≠ (v667 : Value).ownBlock ∧ k_ ≠ gb654)) (by (with_reducible repeat (first | apply Kd.R_alloc | apply Kd.R_drewN | apply Kd.R_drew)); exact Kd.R_mono HO_5.out (fun _ hk => ⟨⟨hk.2, hk.1.2⟩, hk.1.1⟩)) hg hat)).2.1))); have n6_ := Aside0.mk (ho); clear HO_5; clear BK654; clear HO668; clear HB; clear HR658; clear HR665; clear HO_6; have HO_5 := n0_; have BK654 := n1_; have HO668 := n2_; have HB := n3_; have HR658 := n4_; have HR665 := n5_; have HO680 := n6_; clear n0_ n1_ n2_ n3_ n4_ n5_ n6_; clear ho hb hg hat))
                  go_roundg k2
                  case measure => have := HK1.out; have := HK2.out; omega
                  case rel => exact ⟨(y666), (y678), H', ⟨by have := HK1.out; have := HK2.out; omega⟩, ⟨by (with_reducible repeat (first | apply Kd.R_alloc | apply Kd.R_drewN | apply Kd.R_drew)); exact Kd.R_mono HO668.out (fun _ hk => hk.2)⟩, ⟨by (with_reducible repeat (first | apply Kd.R_alloc | apply Kd.R_drewN | apply Kd.R_drew)); exact Kd.R_mono HO680.out (fun _ hk => hk.2.1)⟩, ⟨by repeat (first | (with_reducible first | exact HB.out | apply below_alloc | apply pw_below_drewN | apply below_drew1 | refine below_set ?_ GE654.out) | exact HB.out)⟩⟩
                 ·rw [if_neg c72] at H
                  exact absurd H (by simp)
               ·rw [if_neg c28] at H
                exact absurd H (by simp)
              ·rw [if_neg c27] at H
               exact absurd H (by simp)
             ·rw [if_neg c26] at H
              exact absurd H (by simp)
            ·rw [if_neg c24] at H
             exact absurd H (by simp)
           ·rw [if_neg c23] at H
            exact absurd H (by simp)
          ·rw [if_neg c21] at H
           exact absurd H (by simp)
         ·rw [if_neg c20] at H
          exact absurd H (by simp)
     ·rw [if_neg c8] at H
      have c8b0 : decide (0 < (x5_1.length : Int)) = false := decide_eq_false c8
      have c8b1 : decide (0 < x5_1.length) = false := decide_eq_false (by omega)
      clear c8
      simp only [Option.some.injEq, Prod.mk.injEq] at H
      obtain ⟨rfl, rfl⟩ := H
      obtain ⟨Ao84, co84, eo84⟩ := Kd.R_slice HO_5.out
      subst eo84
      go_wp2
      go_ret2
      exact ⟨_, by first | rfl | (simp [errW_none, errW_some] <;> rfl) | (simp [*, errW_none, errW_some] <;> rfl), by (with_reducible repeat (first | apply Kd.R_alloc | apply Kd.R_drewN | apply Kd.R_drew)); exact Kd.R_mono HO_6.out (fun _ hk => trivial), by repeat (first | (with_reducible first | exact HB.out | apply below_alloc | apply pw_below_drewN | apply below_drew1) | exact HB.out)⟩
  ·rw [if_neg c4] at H
   exact absurd H (by simp)
 ·rw [if_neg c3] at H
  have c3b0 : (t643 == 0) = false := beq_eq_false_iff_ne.mpr c3
  have c3b1 : (t643 != 0) = true := bne_iff_ne.mpr c3
  simp only [Option.some.injEq, Prod.mk.injEq] at H
  obtain ⟨rfl, rfl⟩ := H
  go_enter Try.func54, Try.ntmps54
  go_wp2_with (first | ((with_reducible refine gate_callee (f := 47) rfl ?_); refine goesL_ (some 13) rfl rfl Try.func47 (by kernel_rfl) rfl #[.slice A0 l0.length c0] rfl (by (try simp only [List.map_toArray, List.map_cons, List.map_nil]); first | done | rfl | (simp only [List.length_drop, List.length_take]; rfl)) ?_; (with_reducible refine (wigeonref01_ValidateBlocks.calls k _ _ l0 t643 _ ?side1 ?side2 A2.out).mono ?_); (case side1 => repeat (first | exact HR0.out | (with_reducible refine Kd.C_alloc ?_ _) | (with_reducible refine Kd.C_drewN ?_ _) | (with_reducible refine Kd.C_drew ?_))); (case side2 => exact HC0.out); rintro e w' ⟨rfl, ⟨nd, rfl⟩⟩; refine ⟨_, rfl, ?_⟩))
  go_ret2
  exact ⟨_, by first | rfl | (simp [errW_none, errW_some] <;> rfl) | (simp [*, errW_none, errW_some] <;> rfl), by first | exact Kd.R_nil _ _ _ _ _ | exact Kd.N_nil _ _ _ _ _ | exact Kd.V_nil _ _ _ _ _ | exact Kd.Q_nil _ _ _ _ _ | exact Kd.S_nil _ _ _ _ _, by repeat (first | (with_reducible first | exact HB.out | apply below_alloc | apply pw_below_drewN | apply below_drew1) | exact HB.out)⟩

end Go.Proofs.Ytlbhighbhchdmaa.Q
