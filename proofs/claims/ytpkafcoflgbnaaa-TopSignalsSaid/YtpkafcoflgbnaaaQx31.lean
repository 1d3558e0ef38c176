-- Written by a program of this session (wip/tools/gprint.py, over the kit's print); Lean checks it.
import Derived.Test.YtpkafcoflgbnaaaWhP
import Derived.Test.YtpkafcoflgbnaaaWh1
import Derived.Test.YtpkafcoflgbnaaaQx0
namespace Go.Proofs.Ytpkafcoflgbnaaa.Q
open Go.RowKit Go.Proofs.YtpkafcoflgbnaaaW.PrintWords Go.Proofs.YtpkafcoflgbnaaaW.PrintLast Go.Proofs.YtpkafcoflgbnaaaW.PrintMore
attribute [local go_sem] max2_int min2_int max_two min_two max_three min_three max_four min_four   -- for this text's walks alone
set_option linter.unusedVariables false
set_option linter.unusedSimpArgs false

/-! ### whistle_weighed: function 88 -/
-- GIVEN wigeon/whistle.weighed rounds=0 making=1
def whistle_weighed.f (l0 : List Int) : Option Int := some (errB (oneTo 0 1000 l0))
theorem whistle_weighed.calls (A0 : Option Addr) (c0 : Nat) (l0 : List Int) (r : Int) (w : World) (hr0 : Kd.C (Kd.int .i64) w A0 l0.length l0) (hc0 : l0.length ≤ c0) (h : whistle_weighed.f l0 = some r) :
  Calls Try.prog 88 #[.slice A0 l0.length c0] w fun e w' => e = .returned (.int .i64 r) ∧ Below w.heap.size w w' := by
 obtain rfl := Option.some.inj h
 exact weighed_calls A0 c0 l0 w hr0

-- NOT PRINTED: function 118 (whistle_branch_118)

-- NOT PRINTED: function 140 (whistle_branch_140)

-- NOT PRINTED: function 132 (whistle_branch_132)

-- NOT PRINTED: function 119 (whistle_branch_119)

-- NOT PRINTED: function 110 (whistle_branch_110)

-- NOT PRINTED: function 89 (whistle_branch_89)

-- NOT PRINTED: function 111 (slices_Grow_int_int)

-- NOT PRINTED: function 91 (slices_Concat_int_int)

/-! ### whistle_cost: function 92 -/
def whistle_cost.l0 : Nat → List Int → Int → List Int → Int → Int → Option (Int)
 | 0, _, _, _, _, _ => none
 | k + 1, x1, x5, x8, x9, x10 => if x10 < x9 then (if 0 ≤ x10 then (if x10 < (x8.length : Int) then (if x10 < (x1.length : Int) then (whistle_cost.l0 k x1 (wrap64 (x5 + (wrap64 ((rd x8 x10) * (rd x1 x10))))) x8 x9 (wrap64 (x10 + 1))) else (none)) else (none)) else (none)) else (some x5)
def whistle_cost.f (k : Nat) (l0 : List Int) (l1 : List Int) : Option (Int) := whistle_cost.l0 k l1 0 l0 (l0.length : Int) 0
theorem whistle_cost.mono_l : ∀ k, (∀ y0 y1 y2 y3 y4, LeO (whistle_cost.l0 k y0 y1 y2 y3 y4) (whistle_cost.l0 (k + 1) y0 y1 y2 y3 y4))
 | 0 => fun _ _ _ _ _ r h => by simp [whistle_cost.l0] at h
 | k + 1 => by
  have ih0 := whistle_cost.mono_l k
  ·intro y0 y1 y2 y3 y4
   unfold whistle_cost.l0
   repeat' first
   | (with_reducible exact ih0 _ _ _ _ _)
   | (with_reducible exact LeO.refl _)
   | (with_reducible exact LeO.none _)
   | (with_reducible refine LeO.ite ?_ ?_)
   | (with_reducible refine LeO.bind ?_ (fun _ => ?_))
   | exact ih0 _ _ _ _ _
   | exact LeO.none _
   | refine LeO.ite ?_ ?_
   | refine LeO.bind ?_ (fun _ => ?_)
theorem whistle_cost.mono : ∀ a0 a1 k, LeO (whistle_cost.f k a0 a1) (whistle_cost.f (k + 1) a0 a1) := by
 intro a0 a1 k
 have ih0 := whistle_cost.mono_l k
 unfold whistle_cost.f
 repeat' first
   | (with_reducible exact ih0 _ _ _ _ _)
   | (with_reducible exact LeO.refl _)
   | (with_reducible exact LeO.none _)
   | (with_reducible refine LeO.ite ?_ ?_)
   | (with_reducible refine LeO.bind ?_ (fun _ => ?_))
   | exact ih0 _ _ _ _ _
   | exact LeO.none _
   | refine LeO.ite ?_ ?_
   | refine LeO.bind ?_ (fun _ => ?_)
set_option maxHeartbeats 8000000 in
set_option maxRecDepth 100000 in
theorem whistle_cost.calls (k : Nat) (A0 : Option Addr) (c0 : Nat) (l0 : List Int) (A1 : Option Addr) (c1 : Nat) (l1 : List Int) (r : Int) (w : World) (hr0 : Kd.C (Kd.int .i64) w A0 l0.length l0) (hc0 : l0.length ≤ c0) (hr1 : Kd.C (Kd.int .i64) w A1 l1.length l1) (hc1 : l1.length ≤ c1) (h : whistle_cost.f k l0 l1 = some r) :
  Calls Try.prog 92 #[.slice A0 l0.length c0, .slice A1 l1.length c1] w fun e w' => e = .returned (.int .i64 r) ∧ Drawn0 w w' := by
 have HR0 := Aside0.mk hr0
 have HC0 := Aside0.mk hc0
 clear hr0 hc0
 have HR1 := Aside0.mk hr1
 have HC1 := Aside0.mk hc1
 clear hr1 hc1
 have H : (whistle_cost.l0 k l1 0 l0 (l0.length : Int) 0) = some r := h
 clear h
 have H' := Aside0.mk H
 clear H
 go_enter Try.func92, Try.ntmps92
 go_wp2
 go_loopg [5, 10] k (fun kq v5 v10 w' => ∃ (x5_1 : Int) (x10_1 : Int), v5 = .int .i64 x5_1 ∧ v10 = .int .i64 x10_1 ∧ Aside0 (whistle_cost.l0 kq l1 x5_1 l0 (l0.length : Int) x10_1 = some r) ∧ Aside0 (kq ≤ k) ∧ Drawn0 w w')
 case atStart => exact ⟨(0), (0), (by first | rfl | (simp; done) | (simp [*]; done)), (by first | rfl | (simp; done) | (simp [*]; done)), H', ⟨Nat.le_refl _⟩, by repeat (first | exact Drawn0.refl _ | apply Drawn0.step)⟩
 case round =>
  clear H'
  try clear c1
  try clear p2
  obtain ⟨x5_1, x10_1, rfl, rfl, HA, HK1, ⟨m1, rfl⟩⟩ := hrel
  cases gk with
  | zero => exact absurd HA.out (by simp [whistle_cost.l0])
  | succ k1 =>
   have H := HA.out
   clear HA
   simp only [whistle_cost.l0] at H
   by_cases c3 : x10_1 < (l0.length : Int)
   ·rw [if_pos c3] at H
    have c3b0 : decide (x10_1 < (l0.length : Int)) = true := decide_eq_true c3
    clear c3
    by_cases c4 : 0 ≤ x10_1
    ·rw [if_pos c4] at H
     have c4b0 : decide (0 ≤ x10_1) = true := decide_eq_true c4
     clear c4
     by_cases c5 : x10_1 < (l0.length : Int)
     ·rw [if_pos c5] at H
      have c5b0 : decide (x10_1 < (l0.length : Int)) = true := decide_eq_true c5
      clear c5
      by_cases c6 : x10_1 < (l1.length : Int)
      ·rw [if_pos c6] at H
       have c6b0 : decide (x10_1 < (l1.length : Int)) = true := decide_eq_true c6
       clear c6
       have H' := Aside0.mk H
       clear H
       have p548 : 0 ≤ (x10_1 : Int) := of_decide_eq_true (by first | (with_reducible assumption) | assumption)
       have q548 : x10_1 < (l0.length : Int) := of_decide_eq_true (by first | (with_reducible assumption) | assumption)
       obtain ⟨ad548, e548, hx548_0⟩ := Kd.at_int HR0.out x10_1 p548 q548
       cases e548
       replace p548 := eq_true p548
       replace q548 := eq_true q548
       have p549 : 0 ≤ (x10_1 : Int) := of_decide_eq_true (by first | (with_reducible assumption) | assumption)
       have q549 : x10_1 < (l1.length : Int) := of_decide_eq_true (by first | (with_reducible assumption) | assumption)
       obtain ⟨ad549, e549, hx549_0⟩ := Kd.at_int HR1.out x10_1 p549 q549
       cases e549
       replace p549 := eq_true p549
       replace q549 := eq_true q549
       go_wp2
       go_roundg k1
       case measure => have := HK1.out; omega
       case rel => exact ⟨(wrap64 (x5_1 + (wrap64 ((rd l0 x10_1) * (rd l1 x10_1))))), (wrap64 (x10_1 + 1)), (by first | rfl | (simp; done) | (simp [*]; done)), (by first | rfl | (simp; done) | (simp [*]; done)), H', ⟨by have := HK1.out; omega⟩, by repeat (first | exact Drawn0.refl _ | apply Drawn0.step)⟩
      ·rw [if_neg c6] at H
       exact absurd H (by simp)
     ·rw [if_neg c5] at H
      exact absurd H (by simp)
    ·rw [if_neg c4] at H
     exact absurd H (by simp)
   ·rw [if_neg c3] at H
    have c3b0 : decide (x10_1 < (l0.length : Int)) = false := decide_eq_false c3
    clear c3
    obtain rfl := Option.some.inj H
    go_wp2
    go_ret
    exact ⟨by first | rfl | (simp; done) | (simp [*]; done), by repeat (first | exact Drawn0.refl _ | apply Drawn0.step)⟩

/-! ### whistle_Cheapest: function 44 -/
-- GIVEN wigeon/whistle.Cheapest rounds=1 making=1
def whistle_Cheapest.f (k : Nat) (l0 : List Int) : Option (List Int × Int × Int) := if oneTo 0 1000 l0 = true then (whistle_cost.f k l0 ((cheapL l0).map fun n : Nat => (n : Int))).map fun c => ((cheapL l0).map fun n : Nat => (n : Int), c, 0) else some ([], 0, 1)
theorem whistle_Cheapest.mono : ∀ a0 k, LeO (whistle_Cheapest.f k a0) (whistle_Cheapest.f (k + 1) a0) := by
 intro a0 k r h
 unfold whistle_Cheapest.f at h ⊢
 split at h
 ·rename_i hc
  rw [if_pos hc]
  obtain ⟨q, hq, h⟩ := Option.map_eq_some_iff.1 h
  rw [whistle_cost.mono _ _ _ _ hq, ← h]
  rfl
 ·rename_i hc
  rw [if_neg hc]; exact h
theorem cheapL_len {ws : List Int} (hw : ∀ i : Int, 0 ≤ i → i < (ws.length : Int) → 0 ≤ rd ws i ∧ rd ws i ≤ 1000) : (cheapL ws).length = ws.length := by
 have h : ∀ (k : Nat) (o : List Br) (l : List Nat), (cheapRun k o l).length = l.length := by
  intro k
  induction k with
  | zero => intro o l; rfl
  | succ k ih =>
   intro o l
   unfold cheapRun
   split
   ·rfl
   ·rw [ih, bump_len]
 unfold cheapL
 rw [h]
 unfold firstL
 split
 ·rename_i h; rw [h]; rfl
 ·simp
theorem whistle_Cheapest.calls (k : Nat) (A0 : Option Addr) (c0 : Nat) (l0 : List Int) (r1 : List Int) (r2 : Int) (r3 : Int) (w : World) (hr0 : Kd.C (Kd.int .i64) w A0 l0.length l0) (hc0 : l0.length ≤ c0) (h : whistle_Cheapest.f k l0 = some (r1, r2, r3)) :
  Calls Try.prog 44 #[.slice A0 l0.length c0] w fun e w' => ∃ v0_ : Value, e = .returned (.tuple #[v0_, .int .i64 r2, .int .i64 r3]) ∧ Kd.R (Kd.int .i64) 3 w' w.heap.size (fun _ => True) v0_ r1 ∧ Below w.heap.size w w' := by
 unfold whistle_Cheapest.f at h
 have hv : Calls Try.prog 88 #[.slice A0 l0.length c0] w fun e w' => e = .returned (.int .i64 (errB (oneTo 0 1000 l0))) ∧ Below w.heap.size w w' := weighed_calls A0 c0 l0 w hr0
 split at h
 ·rename_i hc
  rw [hc] at hv
  obtain ⟨c, hq, hq2⟩ := Option.map_eq_some_iff.1 h
  obtain ⟨h1, h2, h3⟩ := oneTo_parts hc
  have e1 := congrArg (fun q => q.1) hq2
  have e2 := congrArg (fun q => q.2.1) hq2
  have e3 := congrArg (fun q => q.2.2) hq2
  simp only at e1 e2 e3
  subst e1 e2 e3
  have hl := cheapL_len h3
  refine (cheap_ok A0 c0 l0 (cheapL l0) c w hr0 hv (fun w' lb hB hr => ?_) h1 h2 h3 rfl).mono ?_
  ·have hlm : ((cheapL l0).map fun n : Nat => (n : Int)).length = l0.length := by rw [List.length_map]; exact hl
   have := whistle_cost.calls k A0 c0 l0 (some ⟨lb, 0, none⟩) l0.length ((cheapL l0).map fun n : Nat => (n : Int)) c w' (Kd.C_below hr0 hB) hc0 (by rw [hlm]; exact hr) (by rw [hlm]; exact Nat.le_refl _) hq
   rw [hlm] at this
   refine this.mono ?_
   rintro e w'' ⟨rfl, q, rfl⟩
   exact ⟨rfl, pw_below_drewN (Below.refl _ _) q⟩
  ·rintro e w' ⟨v, rfl, ho, hb⟩
   refine ⟨v, rfl, Kd.R_of_own (xs := (cheapL l0).map fun n : Nat => (n : Int)) ?_ (fun _ _ => trivial), hb⟩
   rw [List.length_map]
   show w'.ownsRow w.heap.size 3 1 v (cheapL l0).length (((cheapL l0).map fun n : Nat => (n : Int)).map (Value.int .i64))
   rw [List.map_map]
   exact ho
 ·rename_i hc
  obtain ⟨rfl, rfl, rfl⟩ : r1 = [] ∧ r2 = 0 ∧ r3 = 1 := by
   have := Option.some.inj h
   exact ⟨(congrArg (fun q => q.1) this).symm, (congrArg (fun q => q.2.1) this).symm, (congrArg (fun q => q.2.2) this).symm⟩
  rw [Bool.eq_false_iff.2 hc] at hv
  refine (cheap_bad A0 l0.length c0 1 w (by decide) hv).mono ?_
  rintro e w' ⟨rfl, hb⟩
  exact ⟨_, rfl, Kd.R_nil _ _ _ _ _, hb⟩

end Go.Proofs.Ytpkafcoflgbnaaa.Q
