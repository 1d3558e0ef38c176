-- Written by a program of this session (wip/tools/gprint.py, over the kit's print); Lean checks it.
import Derived.Test.YtpkafcoflgbnaaaWh4
import Derived.Test.YtpkafcoflgbnaaaWh1
import Derived.Test.YtpkafcoflgbnaaaQx0
import Derived.Test.YtpkafcoflgbnaaaQx2
namespace Go.Proofs.Ytpkafcoflgbnaaa.Q
open Go.RowKit Go.Proofs.YtpkafcoflgbnaaaW.PrintWords Go.Proofs.YtpkafcoflgbnaaaW.PrintLast Go.Proofs.YtpkafcoflgbnaaaW.PrintMore
attribute [local go_sem] max2_int min2_int max_two min_two max_three min_three max_four min_four   -- for this text's walks alone
set_option linter.unusedVariables false
set_option linter.unusedSimpArgs false

-- NOT PRINTED: function 128 (slices_partitionOrdered_string)

-- NOT PRINTED: function 112 (slices_pdqsortOrdered_string)

-- NOT PRINTED: function 98 (slices_Sort_string_string)

/-! ### whistle_ends: function 52 -/
-- GIVEN wigeon/whistle.ends rounds=1 making=1
def whistle_ends.f (k : Nat) (l0 : List ByteArray) : Option (List ByteArray) := endsL k l0
theorem whistle_ends.mono : ∀ a0 k, LeO (whistle_ends.f k a0) (whistle_ends.f (k + 1) a0) := fun a0 k r h => endsL_mono k a0 r h
theorem whistle_ends.calls (k : Nat) (A0 : Option Addr) (c0 : Nat) (l0 : List ByteArray) (r : List ByteArray) (w : World) (hr0 : Kd.C Kd.string w A0 l0.length l0) (hc0 : l0.length ≤ c0) (h : whistle_ends.f k l0 = some r) :
  Calls Try.prog 52 #[.slice A0 l0.length c0] w fun e w' => ∃ v0_ : Value, e = .returned (v0_) ∧ Kd.R Kd.string 9 w' w.heap.size (fun _ => True) v0_ r ∧ Below w.heap.size w w' := by
 refine (ends_given k A0 c0 l0 r w hr0 h).mono ?_
 rintro e w' ⟨v, rfl, ho, hb⟩
 exact ⟨v, rfl, Kd.R_of_own ho (fun _ _ => trivial), hb⟩

-- NOT PRINTED: function 84 (slices_IndexFunc_string_string)

-- NOT PRINTED: function 54 (slices_ContainsFunc_string_string)

/-! ### whistle_IsSafe: function 21 -/
-- GIVEN wigeon/whistle.IsSafe rounds=1 making=1
def whistle_IsSafe.f (k : Nat) (l0 : List ByteArray) : Option (Bool × Int) := (whistle_Validate.f k l0).bind fun e => if e = 0 then (endsL k l0).map (fun r => (!(l0.any (Lib.containsS r)), 0)) else some (false, e)
theorem whistle_IsSafe.mono : ∀ a0 k, LeO (whistle_IsSafe.f k a0) (whistle_IsSafe.f (k + 1) a0) := by
 intro a0 k r h
 unfold whistle_IsSafe.f at h ⊢
 obtain ⟨e, he, h⟩ := Option.bind_eq_some_iff.1 h
 rw [whistle_Validate.mono _ _ _ he]
 show (if e = 0 then _ else _) = _
 split at h
 ·rename_i h0
  rw [if_pos h0]
  obtain ⟨o, ho, rfl⟩ := Option.map_eq_some_iff.1 h
  rw [endsL_mono _ _ _ ho]; rfl
 ·rename_i h0
  rw [if_neg h0]; exact h
theorem whistle_IsSafe.calls (k : Nat) (A0 : Option Addr) (c0 : Nat) (l0 : List ByteArray) (r1 : Bool) (r2 : Int) (w : World) (hr0 : Kd.C Kd.string w A0 l0.length l0) (hc0 : l0.length ≤ c0) (h : whistle_IsSafe.f k l0 = some (r1, r2)) :
  Calls Try.prog 21 #[.slice A0 l0.length c0] w fun e w' => e = .returned (.tuple #[.bool r1, .int .i64 r2]) ∧ Below w.heap.size w w' := by
 unfold whistle_IsSafe.f at h
 obtain ⟨e, he, h⟩ := Option.bind_eq_some_iff.1 h
 have hv := whistle_Validate.calls k A0 c0 l0 e w hr0 hc0 he
 by_cases h0 : e = 0
 ·rw [if_pos h0] at h
  obtain ⟨o, ho, hq⟩ := Option.map_eq_some_iff.1 h
  obtain ⟨rfl, rfl⟩ := Prod.mk.inj hq
  subst h0
  exact isSafe_ok k A0 c0 l0 o w hr0 ho hv
 ·rw [if_neg h0] at h
  obtain ⟨rfl, rfl⟩ := Prod.mk.inj (Option.some.inj h)
  exact isSafe_bad A0 c0 l0 e w h0 hv

/-! ### whistle_filled: function 60 -/
mutual
def whistle_filled.l0 : Nat → Int → Int → List Int → Int → Int → Option (Int × Int)
 | 0, _, _, _, _, _ => none
 | k + 1, x3, x4, x7, x8, x9 => if x9 < x8 then (if 0 ≤ x9 then (if x9 < (x7.length : Int) then (if 0 ≤ (rd x7 x9) then (whistle_filled.l0 k (wrap64 (x3 + (shr .i64 x4 (rd x7 x9)))) x4 x7 x8 (wrap64 (x9 + 1))) else (none)) else (none)) else (none)) else (whistle_filled.l1 k x3 x4)
def whistle_filled.l1 : Nat → Int → Int → Option (Int × Int)
 | 0, _, _ => none
 | k + 1, x3, x4 => if (Int.tmod x3 2) = 0 then (if (Int.tmod x4 2) = 0 then (whistle_filled.l1 k (wrap64 (Int.tdiv x3 2)) (wrap64 (Int.tdiv x4 2))) else (some (x3, x4))) else (some (x3, x4))
end
def whistle_filled.f (k : Nat) (l0 : List Int) : Option (Int × Int) := whistle_filled.l0 k 0 4096 l0 (l0.length : Int) 0
theorem whistle_filled.mono_l : ∀ k, (∀ y0 y1 y2 y3 y4, LeO (whistle_filled.l0 k y0 y1 y2 y3 y4) (whistle_filled.l0 (k + 1) y0 y1 y2 y3 y4)) ∧ (∀ y0 y1, LeO (whistle_filled.l1 k y0 y1) (whistle_filled.l1 (k + 1) y0 y1))
 | 0 => ⟨fun _ _ _ _ _ r h => by simp [whistle_filled.l0] at h, fun _ _ r h => by simp [whistle_filled.l1] at h⟩
 | k + 1 => by
  obtain ⟨ih0, ih1⟩ := whistle_filled.mono_l k
  refine ⟨?_, ?_⟩
  ·intro y0 y1 y2 y3 y4
   unfold whistle_filled.l0
   repeat' first
   | (with_reducible exact ih0 _ _ _ _ _)
   | (with_reducible exact ih1 _ _)
   | (with_reducible exact LeO.refl _)
   | (with_reducible exact LeO.none _)
   | (with_reducible refine LeO.ite ?_ ?_)
   | (with_reducible refine LeO.bind ?_ (fun _ => ?_))
   | exact ih0 _ _ _ _ _
   | exact ih1 _ _
   | exact LeO.none _
   | refine LeO.ite ?_ ?_
   | refine LeO.bind ?_ (fun _ => ?_)
  ·intro y0 y1
   unfold whistle_filled.l1
   repeat' first
   | (with_reducible exact ih0 _ _ _ _ _)
   | (with_reducible exact ih1 _ _)
   | (with_reducible exact LeO.refl _)
   | (with_reducible exact LeO.none _)
   | (with_reducible refine LeO.ite ?_ ?_)
   | (with_reducible refine LeO.bind ?_ (fun _ => ?_))
   | exact ih0 _ _ _ _ _
   | exact ih1 _ _
   | exact LeO.none _
   | refine LeO.ite ?_ ?_
   | refine LeO.bind ?_ (fun _ => ?_)
theorem whistle_filled.mono : ∀ a0 k, LeO (whistle_filled.f k a0) (whistle_filled.f (k + 1) a0) := by
 intro a0 k
 obtain ⟨ih0, ih1⟩ := whistle_filled.mono_l k
 unfold whistle_filled.f
 repeat' first
   | (with_reducible exact ih0 _ _ _ _ _)
   | (with_reducible exact ih1 _ _)
   | (with_reducible exact LeO.refl _)
   | (with_reducible exact LeO.none _)
   | (with_reducible refine LeO.ite ?_ ?_)
   | (with_reducible refine LeO.bind ?_ (fun _ => ?_))
   | exact ih0 _ _ _ _ _
   | exact ih1 _ _
   | exact LeO.none _
   | refine LeO.ite ?_ ?_
   | refine LeO.bind ?_ (fun _ => ?_)
set_option maxHeartbeats 8000000 in
set_option maxRecDepth 100000 in
theorem whistle_filled.calls (k : Nat) (A0 : Option Addr) (c0 : Nat) (l0 : List Int) (r1 : Int) (r2 : Int) (w : World) (hr0 : Kd.C (Kd.int .i64) w A0 l0.length l0) (hc0 : l0.length ≤ c0) (h : whistle_filled.f k l0 = some (r1, r2)) :
  Calls Try.prog 60 #[.slice A0 l0.length c0] w fun e w' => e = .returned (.agg #[.int .i64 r1, .int .i64 r2]) ∧ Below w.heap.size w w' := by
 have hu32 := Try.underlying32
 have HR0 := Aside0.mk hr0
 have HC0 := Aside0.mk hc0
 clear hr0 hc0
 have HB := Aside0.mk (Below.refl w.heap.size w)
 have H : (whistle_filled.l0 k 0 4096 l0 (l0.length : Int) 0) = some (r1, r2) := h
 clear h
 have H' := Aside0.mk H
 clear H
 go_enter Try.func60, Try.ntmps60
 go_wp2_with (first | ((with_reducible refine gate_dst (N := 2) rfl ?_); refine box_event ?hg (N := 2) ?hd (cs := #[.int .i64 0, .int .i64 0]) (t := 32) ?hr ?_; (case hd => rfl); (case hg => rfl); (case hr => first | (go_simp; done) | (go_simp; rfl)); intro gb233 hg w2 hbox hb; have n0_ := Aside0.mk (below_step (by repeat (first | (with_reducible first | exact HB.out | apply below_alloc | apply pw_below_drewN | apply below_drew1) | exact HB.out)) hb); have n1_ := Aside0.mk (hbox); have n2_ := Aside0.mk ((by rw [hg]; exact (below_size (by repeat (first | (with_reducible first | exact HB.out | apply below_alloc | apply pw_below_drewN | apply below_drew1) | exact HB.out))) : w.heap.size ≤ gb233)); have n3_ := Aside0.mk ((by rw [hg]; exact (below_size (by repeat (first | (with_reducible first | exact HB.out | apply below_alloc | apply pw_below_drewN | apply below_drew1) | exact HB.out))) : w.heap.size ≤ gb233)); clear HB; have HB := n0_; have BK233 := n1_; have GW233 := n2_; have GE233 := n3_; clear n0_ n1_ n2_ n3_; clear hb hbox hg))
 go_loopg [3, 9] k (fun kq v3 v9 w' => ∃ (x3_1 : Int) (x9_1 : Int), v3 = .int .i64 x3_1 ∧ v9 = .int .i64 x9_1 ∧ Aside0 (whistle_filled.l0 kq x3_1 4096 l0 (l0.length : Int) x9_1 = some (r1, r2)) ∧ Aside0 (kq ≤ k) ∧ Aside0 (w'.heap[gb233]? = some (.cells #[.int .i64 0, .int .i64 0] 32 (0, 0))) ∧ Aside0 (Below w.heap.size w w'))
 case atStart => exact ⟨(0), (0), (by first | rfl | (simp; done) | (simp [*]; done)), (by first | rfl | (simp; done) | (simp [*]; done)), H', ⟨Nat.le_refl _⟩, ⟨by (with_reducible repeat (first | refine blk_drewN ?_ _ | refine blk_drew ?_ | refine blk_alloc ?_ _)); exact BK233.out⟩, ⟨by repeat (first | (with_reducible first | exact HB.out | apply below_alloc | apply pw_below_drewN | apply below_drew1 | refine below_set ?_ GE233.out) | exact HB.out)⟩⟩
 case round =>
  clear H'
  try clear p2
  obtain ⟨x3_1, x9_1, rfl, rfl, HA, HK1, BK233, HB⟩ := hrel
  cases gk with
  | zero => exact absurd HA.out (by simp [whistle_filled.l0])
  | succ k1 =>
   have H := HA.out
   clear HA
   simp only [whistle_filled.l0] at H
   by_cases c3 : x9_1 < (l0.length : Int)
   ·rw [if_pos c3] at H
    have c3b0 : decide (x9_1 < (l0.length : Int)) = true := decide_eq_true c3
    clear c3
    by_cases c4 : 0 ≤ x9_1
    ·rw [if_pos c4] at H
     have c4b0 : decide (0 ≤ x9_1) = true := decide_eq_true c4
     clear c4
     by_cases c5 : x9_1 < (l0.length : Int)
     ·rw [if_pos c5] at H
      have c5b0 : decide (x9_1 < (l0.length : Int)) = true := decide_eq_true c5
      clear c5
      by_cases c6 : 0 ≤ (rd l0 x9_1)
      ·rw [if_pos c6] at H
       have c6b0 := eq_true c6
       have c6b1 : decide (0 ≤ (rd l0 x9_1)) = true := decide_eq_true c6
       clear c6
       obtain ⟨ji7, hji7⟩ : ∃ j_ : Int, (shr .i64 4096 (rd l0 x9_1)) = j_ := ⟨_, rfl⟩
       replace H : (whistle_filled.l0 k1 (wrap64 (x3_1 + (ji7))) 4096 l0 (l0.length : Int) (wrap64 (x9_1 + 1))) = some (r1, r2) := by first | (rw [hji7] at H; exact H) | (simp only [hji7] at H ⊢; exact H)
       have hji7_ : (4096 / 2 ^ min (rd l0 x9_1).toNat 64) = ji7 := hji7
       have hji7z : (rd l0 x9_1) ≤ 64 → (4096 / 2 ^ (rd l0 x9_1).toNat) = ji7 := shr_small hji7
       have H' := Aside0.mk H
       clear H
       have p234 : 0 ≤ (x9_1 : Int) := of_decide_eq_true (by first | (with_reducible assumption) | assumption)
       have q234 : x9_1 < (l0.length : Int) := of_decide_eq_true (by first | (with_reducible assumption) | assumption)
       obtain ⟨ad234, e234, hx234_0⟩ := Kd.at_int HR0.out x9_1 p234 q234
       cases e234
       replace hx234_0 := (HB.out.cell (World.block_lt_of_cell? w _ hx234_0)).trans hx234_0
       replace p234 := eq_true p234
       replace q234 := eq_true q234
       go_wp2
       go_roundg k1
       case measure => have := HK1.out; omega
       case rel => exact ⟨(wrap64 (x3_1 + (ji7))), (wrap64 (x9_1 + 1)), (by first | rfl | (simp; done) | (simp only [← hji7] <;> (first | rfl | simp)) | (simp [*]; done)), (by first | rfl | (simp; done) | (simp [*]; done)), H', ⟨by have := HK1.out; omega⟩, ⟨by (with_reducible repeat (first | refine blk_drewN ?_ _ | refine blk_drew ?_ | refine blk_alloc ?_ _)); exact BK233.out⟩, ⟨by repeat (first | (with_reducible first | exact HB.out | apply below_alloc | apply pw_below_drewN | apply below_drew1 | refine below_set ?_ GE233.out) | exact HB.out)⟩⟩
      ·rw [if_neg c6] at H
       exact absurd H (by simp)
     ·rw [if_neg c5] at H
      exact absurd H (by simp)
    ·rw [if_neg c4] at H
     exact absurd H (by simp)
   ·rw [if_neg c3] at H
    have c3b0 : decide (x9_1 < (l0.length : Int)) = false := decide_eq_false c3
    clear c3
    have H' := Aside0.mk H
    clear H
    go_wp2
    go_loopg [3, 4] k1 (fun kq v3 v4 w' => ∃ (x3_2 : Int) (x4_2 : Int), v3 = .int .i64 x3_2 ∧ v4 = .int .i64 x4_2 ∧ Aside0 (whistle_filled.l1 kq x3_2 x4_2 = some (r1, r2)) ∧ Aside0 (kq ≤ k1) ∧ Aside0 (w'.heap[gb233]? = some (.cells #[.int .i64 0, .int .i64 0] 32 (0, 0))) ∧ Aside0 (Below w.heap.size w w'))
    case atStart => exact ⟨(x3_1), (4096), (by first | rfl | (simp; done) | (simp [*]; done)), (by first | rfl | (simp; done) | (simp [*]; done)), H', ⟨Nat.le_refl _⟩, ⟨by (with_reducible repeat (first | refine blk_drewN ?_ _ | refine blk_drew ?_ | refine blk_alloc ?_ _)); exact BK233.out⟩, ⟨by repeat (first | (with_reducible first | exact HB.out | apply below_alloc | apply pw_below_drewN | apply below_drew1 | refine below_set ?_ GE233.out) | exact HB.out)⟩⟩
    case round =>
     clear H'
     try clear p2
     try clear q2
     try clear hx2
     try clear c3
     try clear c3b0
     try clear c4
     try clear c4b0
     try clear c5
     try clear c5b0
     try clear c6
     try clear c6b0
     try clear c6b1
     try clear p6
     try clear hx234_0
     try clear p2
     try clear p234
     try clear q234
     obtain ⟨x3_2, x4_2, rfl, rfl, HA, HK2, BK233, HB⟩ := hrel
     cases gk with
     | zero => exact absurd HA.out (by simp [whistle_filled.l1])
     | succ k2 =>
      have H := HA.out
      clear HA
      simp only [whistle_filled.l1] at H
      by_cases c8 : (Int.tmod x3_2 2) = 0
      ·rw [if_pos c8] at H
       have c8b0 : ((Int.tmod x3_2 2) == 0) = true := beq_iff_eq.mpr c8
       have c8b1 : ((Int.tmod x3_2 2) != 0) = false := bne_eq_false_iff_eq.mpr c8
       clear c8
       by_cases c9 : (Int.tmod x4_2 2) = 0
       ·rw [if_pos c9] at H
        have c9b0 : ((Int.tmod x4_2 2) == 0) = true := beq_iff_eq.mpr c9
        have c9b1 : ((Int.tmod x4_2 2) != 0) = false := bne_eq_false_iff_eq.mpr c9
        clear c9
        have H' := Aside0.mk H
        clear H
        go_wp2
        go_roundg k2
        case measure => have := HK1.out; have := HK2.out; omega
        case rel => exact ⟨(wrap64 (Int.tdiv x3_2 2)), (wrap64 (Int.tdiv x4_2 2)), (by first | rfl | (simp; done) | (simp [*]; done)), (by first | rfl | (simp; done) | (simp [*]; done)), H', ⟨by have := HK1.out; have := HK2.out; omega⟩, ⟨by (with_reducible repeat (first | refine blk_drewN ?_ _ | refine blk_drew ?_ | refine blk_alloc ?_ _)); exact BK233.out⟩, ⟨by repeat (first | (with_reducible first | exact HB.out | apply below_alloc | apply pw_below_drewN | apply below_drew1 | refine below_set ?_ GE233.out) | exact HB.out)⟩⟩
       ·rw [if_neg c9] at H
        have c9b0 : ((Int.tmod x4_2 2) == 0) = false := beq_eq_false_iff_ne.mpr c9
        have c9b1 : ((Int.tmod x4_2 2) != 0) = true := bne_iff_ne.mpr c9
        simp only [Option.some.injEq, Prod.mk.injEq] at H
        obtain ⟨rfl, rfl⟩ := H
        have hcz10_0 : wr.cell? ⟨gb233, 0, none⟩ = some (.int .i64 0) := (blk_cell BK233.out 0).trans rfl
        have hcz10_1 : wr.cell? ⟨gb233, 1, none⟩ = some (.int .i64 0) := (blk_cell BK233.out 1).trans rfl
        have hfz10_0 := blk_frozen BK233.out 0
        have hfz10_1 := blk_frozen BK233.out 1
        go_wp2
        refine bodyPost_ret (results_cell_row rfl _ _ gb233 32 #[.int .i64 x3_2, .int .i64 x4_2] (0, 0) _ rfl (by (with_reducible repeat (first | refine blk_drewN ?_ _ | refine blk_drew ?_ | refine blk_alloc ?_ _)); refine blk_put (cs := #[.int .i64 x3_2, .int .i64 0]) ?_ 1 _ rfl; (with_reducible repeat (first | refine blk_drewN ?_ _ | refine blk_drew ?_ | refine blk_alloc ?_ _)); refine blk_put (cs := #[.int .i64 0, .int .i64 0]) ?_ 0 _ rfl; (with_reducible repeat (first | refine blk_drewN ?_ _ | refine blk_drew ?_ | refine blk_alloc ?_ _)); exact BK233.out) Try.underlying32 rfl (by kernel_rfl)) rfl ?_
        exact ⟨by first | rfl | (simp [errW_none, errW_some] <;> rfl) | (simp [*, errW_none, errW_some] <;> rfl), by repeat (first | (with_reducible first | exact HB.out | apply below_alloc | apply pw_below_drewN | apply below_drew1 | refine below_set ?_ GE233.out) | exact HB.out)⟩
      ·rw [if_neg c8] at H
       have c8b0 : ((Int.tmod x3_2 2) == 0) = false := beq_eq_false_iff_ne.mpr c8
       have c8b1 : ((Int.tmod x3_2 2) != 0) = true := bne_iff_ne.mpr c8
       simp only [Option.some.injEq, Prod.mk.injEq] at H
       obtain ⟨rfl, rfl⟩ := H
       have hcz11_0 : wr.cell? ⟨gb233, 0, none⟩ = some (.int .i64 0) := (blk_cell BK233.out 0).trans rfl
       have hcz11_1 : wr.cell? ⟨gb233, 1, none⟩ = some (.int .i64 0) := (blk_cell BK233.out 1).trans rfl
       have hfz11_0 := blk_frozen BK233.out 0
       have hfz11_1 := blk_frozen BK233.out 1
       go_wp2
       refine bodyPost_ret (results_cell_row rfl _ _ gb233 32 #[.int .i64 x3_2, .int .i64 x4_2] (0, 0) _ rfl (by (with_reducible repeat (first | refine blk_drewN ?_ _ | refine blk_drew ?_ | refine blk_alloc ?_ _)); refine blk_put (cs := #[.int .i64 x3_2, .int .i64 0]) ?_ 1 _ rfl; (with_reducible repeat (first | refine blk_drewN ?_ _ | refine blk_drew ?_ | refine blk_alloc ?_ _)); refine blk_put (cs := #[.int .i64 0, .int .i64 0]) ?_ 0 _ rfl; (with_reducible repeat (first | refine blk_drewN ?_ _ | refine blk_drew ?_ | refine blk_alloc ?_ _)); exact BK233.out) Try.underlying32 rfl (by kernel_rfl)) rfl ?_
       exact ⟨by first | rfl | (simp [errW_none, errW_some] <;> rfl) | (simp [*, errW_none, errW_some] <;> rfl), by repeat (first | (with_reducible first | exact HB.out | apply below_alloc | apply pw_below_drewN | apply below_drew1 | refine below_set ?_ GE233.out) | exact HB.out)⟩

-- NOT PRINTED: function 114 (slices_IndexFunc_int_int)

-- NOT PRINTED: function 103 (slices_ContainsFunc_int_int)

/-! ### whistle_FromLengths: function 34 -/
-- GIVEN wigeon/whistle.FromLengths rounds=1 making=1
def whistle_FromLengths.f (k : Nat) (l0 : List Int) : Option (List ByteArray × Int) := if oneTo 1 12 l0 = true then ((whistle_filled.f k l0).bind fun q => if q.1 > q.2 then some ([], 8) else (fromL l0).map fun r => (r, 0)) else some ([], 1)
theorem whistle_FromLengths.mono : ∀ a0 k, LeO (whistle_FromLengths.f k a0) (whistle_FromLengths.f (k + 1) a0) := by
 intro a0 k r h
 unfold whistle_FromLengths.f at h ⊢
 split at h
 ·rename_i hc
  rw [if_pos hc]
  obtain ⟨q, hq, h⟩ := Option.bind_eq_some_iff.1 h
  rw [whistle_filled.mono _ _ _ hq]
  exact h
 ·rename_i hc
  rw [if_neg hc]; exact h
theorem whistle_FromLengths.calls (k : Nat) (A0 : Option Addr) (c0 : Nat) (l0 : List Int) (r1 : List ByteArray) (r2 : Int) (w : World) (hr0 : Kd.C (Kd.int .i64) w A0 l0.length l0) (hc0 : l0.length ≤ c0) (h : whistle_FromLengths.f k l0 = some (r1, r2)) :
  Calls Try.prog 34 #[.slice A0 l0.length c0] w fun e w' => ∃ v0_ : Value, e = .returned (.tuple #[v0_, .int .i64 r2]) ∧ Kd.R Kd.string 9 w' w.heap.size (fun _ => True) v0_ r1 ∧ Below w.heap.size w w' := by
 unfold whistle_FromLengths.f at h
 have hv : AtLater w (RetI 70 #[.slice A0 l0.length c0] (errB (oneTo 1 12 l0))) := fun W hB => isLengths_calls A0 c0 l0 W (Kd.C_below hr0 hB)
 split at h
 ·rename_i hc
  rw [hc] at hv
  obtain ⟨⟨p, d⟩, hq, h⟩ := Option.bind_eq_some_iff.1 h
  have hf : AtLater w (Rat60 A0 l0.length c0 p d) := fun W hB => whistle_filled.calls k A0 c0 l0 p d W (Kd.C_below hr0 hB) hc0 hq
  dsimp only at h
  split at h
  ·rename_i hpd
   obtain ⟨rfl, rfl⟩ := Prod.mk.inj (Option.some.inj h)
   refine (from_rule A0 l0.length c0 p d w (decide_eq_true hpd) hv hf).mono ?_
   rintro e w' ⟨rfl, hb⟩
   exact ⟨_, rfl, Kd.R_nil _ _ _ _ _, hb⟩
  ·rename_i hpd
   obtain ⟨r, hr, hq2⟩ := Option.map_eq_some_iff.1 h
   obtain ⟨rfl, rfl⟩ := Prod.mk.inj hq2
   obtain ⟨h1, h2, h3⟩ := oneTo_parts hc
   refine (from_ok A0 c0 l0 r p d w hr0 (decide_eq_false hpd) hv hf h1 h2 h3 hr).mono ?_
   rintro e w' ⟨v, rfl, ho, hb⟩
   exact ⟨v, rfl, Kd.R_of_own ho (fun _ _ => trivial), hb⟩
 ·rename_i hc
  obtain ⟨rfl, rfl⟩ := Prod.mk.inj (Option.some.inj h)
  rw [Bool.eq_false_iff.2 hc] at hv
  refine (from_bad A0 l0.length c0 1 w (by decide) hv).mono ?_
  rintro e w' ⟨rfl, hb⟩
  exact ⟨_, rfl, Kd.R_nil _ _ _ _ _, hb⟩

/-! ### wigeonref05_isNotes: function 69 -/
def wigeonref05_isNotes.l0 : Nat → ByteArray → Int → Option (Bool)
 | 0, _, _ => none
 | k + 1, x0, x3 => if x3 < (x0.size : Int) then (if 0 ≤ x3 then (if (bt x0 x3) = 46 then (wigeonref05_isNotes.l0 k x0 (wrap64 (x3 + 1))) else (if (bt x0 x3) = 45 then (wigeonref05_isNotes.l0 k x0 (wrap64 (x3 + 1))) else (some false))) else (none)) else (some true)
def wigeonref05_isNotes.f (k : Nat) (a0 : ByteArray) : Option (Bool) := wigeonref05_isNotes.l0 k a0 0
theorem wigeonref05_isNotes.mono_l : ∀ k, (∀ y0 y1, LeO (wigeonref05_isNotes.l0 k y0 y1) (wigeonref05_isNotes.l0 (k + 1) y0 y1))
 | 0 => fun _ _ r h => by simp [wigeonref05_isNotes.l0] at h
 | k + 1 => by
  have ih0 := wigeonref05_isNotes.mono_l k
  ·intro y0 y1
   unfold wigeonref05_isNotes.l0
   repeat' first
   | (with_reducible exact ih0 _ _)
   | (with_reducible exact LeO.refl _)
   | (with_reducible exact LeO.none _)
   | (with_reducible refine LeO.ite ?_ ?_)
   | (with_reducible refine LeO.bind ?_ (fun _ => ?_))
   | exact ih0 _ _
   | exact LeO.none _
   | refine LeO.ite ?_ ?_
   | refine LeO.bind ?_ (fun _ => ?_)
theorem wigeonref05_isNotes.mono : ∀ a0 k, LeO (wigeonref05_isNotes.f k a0) (wigeonref05_isNotes.f (k + 1) a0) := by
 intro a0 k
 have ih0 := wigeonref05_isNotes.mono_l k
 unfold wigeonref05_isNotes.f
 repeat' first
   | (with_reducible exact ih0 _ _)
   | (with_reducible exact LeO.refl _)
   | (with_reducible exact LeO.none _)
   | (with_reducible refine LeO.ite ?_ ?_)
   | (with_reducible refine LeO.bind ?_ (fun _ => ?_))
   | exact ih0 _ _
   | exact LeO.none _
   | refine LeO.ite ?_ ?_
   | refine LeO.bind ?_ (fun _ => ?_)
set_option maxHeartbeats 8000000 in
set_option maxRecDepth 100000 in
theorem wigeonref05_isNotes.calls (k : Nat) (a0 : ByteArray) (r : Bool) (w : World) (h : wigeonref05_isNotes.f k a0 = some r) :
  Calls Try.prog 69 #[.string a0] w fun e w' => e = .returned (.bool r) ∧ Drawn0 w w' := by
 have H : (wigeonref05_isNotes.l0 k a0 0) = some r := h
 clear h
 have H' := Aside0.mk H
 clear H
 go_enter Try.func69, Try.ntmps69
 go_wp2
 go_loopg [3] k (fun kq v3 w' => ∃ (x3_1 : Int), v3 = .int .i64 x3_1 ∧ Aside0 (wigeonref05_isNotes.l0 kq a0 x3_1 = some r) ∧ Aside0 (kq ≤ k) ∧ Drawn0 w w')
 case atStart => exact ⟨(0), (by first | rfl | (simp; done) | (simp [*]; done)), H', ⟨Nat.le_refl _⟩, by repeat (first | exact Drawn0.refl _ | apply Drawn0.step)⟩
 case round =>
  clear H'
  obtain ⟨x3_1, rfl, HA, HK1, ⟨m1, rfl⟩⟩ := hrel
  cases gk with
  | zero => exact absurd HA.out (by simp [wigeonref05_isNotes.l0])
  | succ k1 =>
   have H := HA.out
   clear HA
   simp only [wigeonref05_isNotes.l0] at H
   by_cases c2 : x3_1 < (a0.size : Int)
   ·rw [if_pos c2] at H
    have c2b0 : decide (x3_1 < (a0.size : Int)) = true := decide_eq_true c2
    clear c2
    by_cases c3 : 0 ≤ x3_1
    ·rw [if_pos c3] at H
     have c3b0 : decide (0 ≤ x3_1) = true := decide_eq_true c3
     clear c3
     by_cases c5 : (bt a0 x3_1) = 46
     ·rw [if_pos c5] at H
      have c5b0 : ((bt a0 x3_1) == 46) = true := beq_iff_eq.mpr c5
      have c5b1 : ((bt a0 x3_1) != 46) = false := bne_eq_false_iff_eq.mpr c5
      clear c5
      have H' := Aside0.mk H
      clear H
      have p4 : 0 ≤ (x3_1 : Int) := of_decide_eq_true (by first | (with_reducible assumption) | assumption)
      have q4 : x3_1 < (a0.size : Int) := of_decide_eq_true (by first | (with_reducible assumption) | assumption)
      have hx4 := bt_at a0 x3_1
      replace p4 := eq_true p4
      replace q4 := eq_true q4
      go_wp2
      go_roundg k1
      case measure => have := HK1.out; omega
      case rel => exact ⟨(wrap64 (x3_1 + 1)), (by first | rfl | (simp; done) | (simp [*]; done)), H', ⟨by have := HK1.out; omega⟩, by repeat (first | exact Drawn0.refl _ | apply Drawn0.step)⟩
     ·rw [if_neg c5] at H
      have c5b0 : ((bt a0 x3_1) == 46) = false := beq_eq_false_iff_ne.mpr c5
      have c5b1 : ((bt a0 x3_1) != 46) = true := bne_iff_ne.mpr c5
      by_cases c7 : (bt a0 x3_1) = 45
      ·rw [if_pos c7] at H
       have c7b0 : ((bt a0 x3_1) == 45) = true := beq_iff_eq.mpr c7
       have c7b1 : ((bt a0 x3_1) != 45) = false := bne_eq_false_iff_eq.mpr c7
       clear c7
       have H' := Aside0.mk H
       clear H
       have p4 : 0 ≤ (x3_1 : Int) := of_decide_eq_true (by first | (with_reducible assumption) | assumption)
       have q4 : x3_1 < (a0.size : Int) := of_decide_eq_true (by first | (with_reducible assumption) | assumption)
       have hx4 := bt_at a0 x3_1
       replace p4 := eq_true p4
       replace q4 := eq_true q4
       have p6 : 0 ≤ (x3_1 : Int) := of_decide_eq_true (by first | (with_reducible assumption) | assumption)
       have q6 : x3_1 < (a0.size : Int) := of_decide_eq_true (by first | (with_reducible assumption) | assumption)
       have hx6 := bt_at a0 x3_1
       replace p6 := eq_true p6
       replace q6 := eq_true q6
       go_wp2
       go_roundg k1
       case measure => have := HK1.out; omega
       case rel => exact ⟨(wrap64 (x3_1 + 1)), (by first | rfl | (simp; done) | (simp [*]; done)), H', ⟨by have := HK1.out; omega⟩, by repeat (first | exact Drawn0.refl _ | apply Drawn0.step)⟩
      ·rw [if_neg c7] at H
       have c7b0 : ((bt a0 x3_1) == 45) = false := beq_eq_false_iff_ne.mpr c7
       have c7b1 : ((bt a0 x3_1) != 45) = true := bne_iff_ne.mpr c7
       obtain rfl := Option.some.inj H
       have p4 : 0 ≤ (x3_1 : Int) := of_decide_eq_true (by first | (with_reducible assumption) | assumption)
       have q4 : x3_1 < (a0.size : Int) := of_decide_eq_true (by first | (with_reducible assumption) | assumption)
       have hx4 := bt_at a0 x3_1
       replace p4 := eq_true p4
       replace q4 := eq_true q4
       have p6 : 0 ≤ (x3_1 : Int) := of_decide_eq_true (by first | (with_reducible assumption) | assumption)
       have q6 : x3_1 < (a0.size : Int) := of_decide_eq_true (by first | (with_reducible assumption) | assumption)
       have hx6 := bt_at a0 x3_1
       replace p6 := eq_true p6
       replace q6 := eq_true q6
       go_wp2
       go_ret
       exact ⟨by first | rfl | (simp; done) | (simp [*]; done), by repeat (first | exact Drawn0.refl _ | apply Drawn0.step)⟩
    ·rw [if_neg c3] at H
     exact absurd H (by simp)
   ·rw [if_neg c2] at H
    have c2b0 : decide (x3_1 < (a0.size : Int)) = false := decide_eq_false c2
    clear c2
    obtain rfl := Option.some.inj H
    go_wp2
    go_ret
    exact ⟨by first | rfl | (simp; done) | (simp [*]; done), by repeat (first | exact Drawn0.refl _ | apply Drawn0.step)⟩

end Go.Proofs.Ytpkafcoflgbnaaa.Q
