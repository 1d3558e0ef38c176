-- Written by a program of this session (wip/tools/gprint.py, over the kit's print); Lean checks it.
import Derived.Test.YtpkafcoflgbnaaaWhP
import Derived.Test.YtpkafcoflgbnaaaWh1
import Derived.Test.YtpkafcoflgbnaaaQx0
namespace Go.Proofs.Ytpkafcoflgbnaaa.Q
open Go.RowKit Go.Proofs.YtpkafcoflgbnaaaW.PrintWords Go.Proofs.YtpkafcoflgbnaaaW.PrintLast Go.Proofs.YtpkafcoflgbnaaaW.PrintMore
attribute [local go_sem] max2_int min2_int max_two min_two max_three min_three max_four min_four   -- for this text's walks alone
set_option linter.unusedVariables false
set_option linter.unusedSimpArgs false

/-! ### whistle_weighed: function 88 -/
-- GIVEN wigeon/whistle.weighed rounds=0 making=1
def whistle_weighed.f (l0 : List Int) : Option Int := some (errB (oneTo 0 1000 l0))
theorem whistle_weighed.calls (A0 : Option Addr) (c0 : Nat) (l0 : List Int) (r : Int) (w : World) (hr0 : Kd.C (Kd.int .i64) w A0 l0.length l0) (hc0 : l0.length ≤ c0) (h : whistle_weighed.f l0 = some r) :
  Calls Try.prog 88 #[.slice A0 l0.length c0] w fun e w' => e = .returned (.int .i64 r) ∧ Below w.heap.size w w' := by
 obtain rfl := Option.some.inj h
 exact weighed_calls A0 c0 l0 w hr0

-- NOT PRINTED: function 118 (whistle_branch_118)

-- NOT PRINTED: function 140 (whistle_branch_140)

-- NOT PRINTED: function 132 (whistle_branch_132)

-- NOT PRINTED: function 119 (whistle_branch_119)

-- NOT PRINTED: function 110 (whistle_branch_110)

-- NOT PRINTED: function 89 (whistle_branch_89)

-- NOT PRINTED: function 111 (slices_Grow_int_int)

-- NOT PRINTED: function 91 (slices_Concat_int_int)

/-! ### whistle_cost: function 92 -/
def whistle_cost.l0 : Nat → List Int → Int → List Int → Int → Int → Option (Int)
 | 0, _, _, _, _, _ => none
 | k + 1, x1, x5, x8, x9, x10 => if x10 < x9 then (if 0 ≤ x10 then (if x10 < (x8.length : Int) then (if x10 < (x1.length : Int) then (whistle_cost.l0 k x1 (wrap64 (x5 + (wrap64 ((rd x8 x10) * (rd x1 x10))))) x8 x9 (wrap64 (x10 + 1))) else (none)) else (none)) else (none)) else (some x5)
def whistle_cost.f (k : Nat) (l0 : List Int) (l1 : List Int) : Option (Int) := whistle_cost.l0 k l1 0 l0 (l0.length : Int) 0
theorem whistle_cost.mono_l : ∀ k, (∀ y0 y1 y2 y3 y4, LeO (whistle_cost.l0 k y0 y1 y2 y3 y4) (whistle_cost.l0 (k + 1) y0 y1 y2 y3 y4))
 | 0 => fun _ _ _ _ _ r h => by simp [whistle_cost.l0] at h
 | k + 1 => by
  have ih0 := whistle_cost.mono_l k
  ·intro y0 y1 y2 y3 y4
   unfold whistle_cost.l0
   repeat' first
   | (with_reducible exact ih0 _ _ _ _ _)
   | (with_reducible exact LeO.refl _)
   | (with_reducible exact LeO.none _)
   | (with_reducible refine LeO.ite ?_ ?_)
   | (with_reducible refine LeO.bind ?_ (fun _ => ?_))
   | exact ih0 _ _ _ _ _
   | exact LeO.none _
   | refine LeO.ite ?_ ?_
   | refine LeO.bind ?_ (fun _ => ?_)
theorem whistle_cost.mono : ∀ a0 a1 k, LeO (whistle_cost.f k a0 a1) (whistle_cost.f (k + 1) a0 a1) := by
 intro a0 a1 k
 have ih0 := whistle_cost.mono_l k
 unfold whistle_cost.f
 repeat' first
   | (with_reducible exact ih0 _ _ _ _ _)
   | (with_reducible exact LeO.refl _)
   | (with_reducible exact LeO.none _)
   | (with_reducible refine LeO.ite ?_ ?_)
   | (with_reducible refine LeO.bind ?_ (fun _ => ?_))
   | exact ih0 _ _ _ _ _
   | exact LeO.none _
   | refine LeO.ite ?_ ?_
   | refine LeO.bind ?_ (fun _ => ?_)
set_option maxHeartbeats 8000000 in
set_option maxRecDepth 100000 in
theorem whistle_cost.calls (k : Nat) (A0 : Option Addr) (c0 : Nat) (l0 : List Int) (A1 : Option Addr) (c1 : Nat) (l1 : List Int) (r : Int) (w : World) (hr0 : Kd.C (Kd.int .i64) w A0 l0.length l0) (hc0 : l0.length ≤ c0) (hr1 : Kd.C (Kd.int .i64) w A1 l1.length l1) (hc1 : l1.length ≤ c1) (h : whistle_cost.f k l0 l1 = some r) :
  Calls Try.prog 92 #[.slice A0 l0.length c0, .slice A1 l1.length c1] w fun e w' => e = .returned (.int .i64 r) ∧ Drawn0 w w' := by
 have HR0 := Aside0.mk hr0
 have HC0 := Aside0.mk hc0
 clear hr0 hc0
 have HR1 := Aside0.mk hr1
 have HC1 := Aside0.mk hc1
 clear hr1 hc1
 have H : (whistle_cost.l0 k l1 0 l0 (l0.length : Int) 0) = some r := h
 clear h
 have H' := Aside0.mk H
 clear H
 go_enter Try.func92, Try.ntmps92
 go_wp2
 go_loopg [5, 10] k (fun kq v5 v10 w' => ∃ (x5_1 : Int) (x10_1 : Int), v5 = .int .i64 x5_1 ∧ v10 = .int .i64 x10_1 ∧ Aside0 (whistle_cost.l0 kq l1 x5_1 l0 (l0.length : Int) x10_1 = some r) ∧ Aside0 (kq ≤ k) ∧ Drawn0 w w')
 case atStart => exact ⟨(0), (0), (by first | rfl | (simp; done) | (simp [*]; done)), (by first | rfl | (simp; done) | (simp [*]; done)), H', ⟨Nat.le_refl _⟩, by repeat (first | exact Drawn0.refl _ | apply Drawn0.step)⟩
 case round =>
  clear H'
  try clear c1
  try clear p2
  obtain ⟨x5_1, x10_1, rfl, rfl, HA, HK1, ⟨m1, rfl⟩⟩ := hrel
  cases gk with
  | zero => exact absurd HA.out (by simp [whistle_cost.l0])
  | succ k1 =>
   have H := HA.out
   clear HA
   simp only [whistle_cost.l0] at H
   by_cases c3 : x10_1 < (l0.length : Int)
   ·rw [if_pos c3] at H
    have c3b0 : decide (x10_1 < (l0.length : Int)) = true := decide_eq_true c3
    clear c3
    by_cases c4 : 0 ≤ x10_1
    ·rw [if_pos c4] at H
     have c4b0 : decide (0 ≤ x10_1) = true := decide_eq_true c4
     clear c4
     by_cases c5 : x10_1 < (l0.length : Int)
     ·rw [if_pos c5] at H
      have c5b0 : decide (x10_1 < (l0.length : Int)) = true := decide_eq_true c5
      clear c5
      by_cases c6 : x10_1 < (l1.length : Int)
      ·rw [if_pos c6] at H
       have c6b0 : decide (x10_1 < (l1.length : Int)) = true := decide_eq_true c6
       clear c6
       have H' := Aside0.mk H
       clear H
       have p535 : 0 ≤ (x10_1 : Int) := of_decide_eq_true (by first | (with_reducible assumption) | assumption)
       have q535 : x10_1 < (l0.length : Int) := of_decide_eq_true (by first | (with_reducible assumption) | assumption)
       obtain ⟨ad535, e535, hx535_0⟩ := Kd.at_int HR0.out x10_1 p535 q535
       cases e535
       replace p535 := eq_true p535
       replace q535 := eq_true q535
       have p536 : 0 ≤ (x10_1 : Int) := of_decide_eq_true (by first | (with_reducible assumption) | assumption)
       have q536 : x10_1 < (l1.length : Int) := of_decide_eq_true (by first | (with_reducible assumption) | assumption)
       obtain ⟨ad536, e536, hx536_0⟩ := Kd.at_int HR1.out x10_1 p536 q536
       cases e536
       replace p536 := eq_true p536
       replace q536 := eq_true q536
       go_wp2
       go_roundg k1
       case measure => have := HK1.out; omega
       case rel => exact ⟨(wrap64 (x5_1 + (wrap64 ((rd l0 x10_1) * (rd l1 x10_1))))), (wrap64 (x10_1 + 1)), (by first | rfl | (simp; done) | (simp [*]; done)), (by first | rfl | (simp; done) | (simp [*]; done)), H', ⟨by have := HK1.out; omega⟩, by repeat (first | exact Drawn0.refl _ | apply Drawn0.step)⟩
      ·rw [if_neg c6] at H
       exact absurd H (by simp)
     ·rw [if_neg c5] at H
      exact absurd H (by simp)
    ·rw [if_neg c4] at H
     exact absurd H (by simp)
   ·rw [if_neg c3] at H
    have c3b0 : decide (x10_1 < (l0.length : Int)) = false := decide_eq_false c3
    clear c3
    obtain rfl := Option.some.inj H
    go_wp2
    go_ret
    exact ⟨by first | rfl | (simp; done) | (simp [*]; done), by repeat (first | exact Drawn0.refl _ | apply Drawn0.step)⟩

/-! ### whistle_Cheapest: function 44 -/
-- GIVEN wigeon/whistle.Cheapest rounds=1 making=1
def whistle_Cheapest.f (k : Nat) (l0 : List Int) : Option (List Int × Int × Int) := if oneTo 0 1000 l0 = true then (whistle_cost.f k l0 ((cheapL l0).map fun n : Nat => (n : Int))).map fun c => ((cheapL l0).map fun n : Nat => (n : Int), c, 0) else some ([], 0, 1)
theorem whistle_Cheapest.mono : ∀ a0 k, LeO (whistle_Cheapest.f k a0) (whistle_Cheapest.f (k + 1) a0) := by
 intro a0 k r h
 unfold whistle_Cheapest.f at h ⊢
 split at h
 ·rename_i hc
  rw [if_pos hc]
  obtain ⟨q, hq, h⟩ := Option.map_eq_some_iff.1 h
  rw [whistle_cost.mono _ _ _ _ hq, ← h]
  rfl
 ·rename_i hc
  rw [if_neg hc]; exact h
theorem cheapL_len {ws : List Int} (hw : ∀ i : Int, 0 ≤ i → i < (ws.length : Int) → 0 ≤ rd ws i ∧ rd ws i ≤ 1000) : (cheapL ws).length = ws.length := by
 have h : ∀ (k : Nat) (o : List Br) (l : List Nat), (cheapRun k o l).length = l.length := by
  intro k
  induction k with
  | zero => intro o l; rfl
  | succ k ih =>
   intro o l
   unfold cheapRun
   split
   ·rfl
   ·rw [ih, bump_len]
 unfold cheapL
 rw [h]
 unfold firstL
 split
 ·rename_i h; rw [h]; rfl
 ·simp
theorem whistle_Cheapest.calls (k : Nat) (A0 : Option Addr) (c0 : Nat) (l0 : List Int) (r1 : List Int) (r2 : Int) (r3 : Int) (w : World) (hr0 : Kd.C (Kd.int .i64) w A0 l0.length l0) (hc0 : l0.length ≤ c0) (h : whistle_Cheapest.f k l0 = some (r1, r2, r3)) :
  Calls Try.prog 44 #[.slice A0 l0.length c0] w fun e w' => ∃ v0_ : Value, e = .returned (.tuple #[v0_, .int .i64 r2, .int .i64 r3]) ∧ Kd.R (Kd.int .i64) 3 w' w.heap.size (fun _ => True) v0_ r1 ∧ Below w.heap.size w w' := by
 unfold whistle_Cheapest.f at h
 have hv : Calls Try.prog 88 #[.slice A0 l0.length c0] w fun e w' => e = .returned (.int .i64 (errB (oneTo 0 1000 l0))) ∧ Below w.heap.size w w' := weighed_calls A0 c0 l0 w hr0
 split at h
 ·rename_i hc
  rw [hc] at hv
  obtain ⟨c, hq, hq2⟩ := Option.map_eq_some_iff.1 h
  obtain ⟨h1, h2, h3⟩ := oneTo_parts hc
  have e1 := congrArg (fun q => q.1) hq2
  have e2 := congrArg (fun q => q.2.1) hq2
  have e3 := congrArg (fun q => q.2.2) hq2
  simp only at e1 e2 e3
  subst e1 e2 e3
  have hl := cheapL_len h3
  refine (cheap_ok A0 c0 l0 (cheapL l0) c w hr0 hv (fun w' lb hB hr => ?_) h1 h2 h3 rfl).mono ?_
  ·have hlm : ((cheapL l0).map fun n : Nat => (n : Int)).length = l0.length := by rw [List.length_map]; exact hl
   have := whistle_cost.calls k A0 c0 l0 (some ⟨lb, 0, none⟩) l0.length ((cheapL l0).map fun n : Nat => (n : Int)) c w' (Kd.C_below hr0 hB) hc0 (by rw [hlm]; exact hr) (by rw [hlm]; exact Nat.le_refl _) hq
   rw [hlm] at this
   refine this.mono ?_
   rintro e w'' ⟨rfl, q, rfl⟩
   exact ⟨rfl, pw_below_drewN (Below.refl _ _) q⟩
  ·rintro e w' ⟨v, rfl, ho, hb⟩
   refine ⟨v, rfl, Kd.R_of_own (xs := (cheapL l0).map fun n : Nat => (n : Int)) ?_ (fun _ _ => trivial), hb⟩
   rw [List.length_map]
   show w'.ownsRow w.heap.size 3 1 v (cheapL l0).length (((cheapL l0).map fun n : Nat => (n : Int)).map (Value.int .i64))
   rw [List.map_map]
   exact ho
 ·rename_i hc
  obtain ⟨rfl, rfl, rfl⟩ : r1 = [] ∧ r2 = 0 ∧ r3 = 1 := by
   have := Option.some.inj h
   exact ⟨(congrArg (fun q => q.1) this).symm, (congrArg (fun q => q.2.1) this).symm, (congrArg (fun q => q.2.2) this).symm⟩
  rw [Bool.eq_false_iff.2 hc] at hv
  refine (cheap_bad A0 l0.length c0 1 w (by decide) hv).mono ?_
  rintro e w' ⟨rfl, hb⟩
  exact ⟨_, rfl, Kd.R_nil _ _ _ _ _, hb⟩

/-! ### wigeonref05_weightsOK: function 93 -/
mutual
def wigeonref05_weightsOK.j0 : Nat → List Int → Bool → Option (Int)
 | 0, _, _ => none
 | k + 1, x0, x11 => if x11 = true then (some 1) else (wigeonref05_weightsOK.l0 k x0 0)
def wigeonref05_weightsOK.l0 : Nat → List Int → Int → Option (Int)
 | 0, _, _ => none
 | k + 1, x0, x3 => if x3 < (x0.length : Int) then (if 0 ≤ x3 then (if (rd x0 x3) < 0 then (some 1) else (if (rd x0 x3) > 1000 then (some 1) else (wigeonref05_weightsOK.l0 k x0 (wrap64 (x3 + 1))))) else (none)) else (some 0)
end
def wigeonref05_weightsOK.f (k : Nat) (l0 : List Int) : Option (Int) := if (l0.length : Int) < 1 then (wigeonref05_weightsOK.j0 k l0 true) else (wigeonref05_weightsOK.j0 k l0 (decide ((l0.length : Int) > 12)))
theorem wigeonref05_weightsOK.mono_l : ∀ k, (∀ y0 y1, LeO (wigeonref05_weightsOK.j0 k y0 y1) (wigeonref05_weightsOK.j0 (k + 1) y0 y1)) ∧ (∀ y0 y1, LeO (wigeonref05_weightsOK.l0 k y0 y1) (wigeonref05_weightsOK.l0 (k + 1) y0 y1))
 | 0 => ⟨fun _ _ r h => by simp [wigeonref05_weightsOK.j0] at h, fun _ _ r h => by simp [wigeonref05_weightsOK.l0] at h⟩
 | k + 1 => by
  obtain ⟨ih0, ih1⟩ := wigeonref05_weightsOK.mono_l k
  refine ⟨?_, ?_⟩
  ·intro y0 y1
   unfold wigeonref05_weightsOK.j0
   repeat' first
   | (with_reducible exact ih0 _ _)
   | (with_reducible exact ih1 _ _)
   | (with_reducible exact LeO.refl _)
   | (with_reducible exact LeO.none _)
   | (with_reducible refine LeO.ite ?_ ?_)
   | (with_reducible refine LeO.bind ?_ (fun _ => ?_))
   | exact ih0 _ _
   | exact ih1 _ _
   | exact LeO.none _
   | refine LeO.ite ?_ ?_
   | refine LeO.bind ?_ (fun _ => ?_)
  ·intro y0 y1
   unfold wigeonref05_weightsOK.l0
   repeat' first
   | (with_reducible exact ih0 _ _)
   | (with_reducible exact ih1 _ _)
   | (with_reducible exact LeO.refl _)
   | (with_reducible exact LeO.none _)
   | (with_reducible refine LeO.ite ?_ ?_)
   | (with_reducible refine LeO.bind ?_ (fun _ => ?_))
   | exact ih0 _ _
   | exact ih1 _ _
   | exact LeO.none _
   | refine LeO.ite ?_ ?_
   | refine LeO.bind ?_ (fun _ => ?_)
theorem wigeonref05_weightsOK.mono : ∀ a0 k, LeO (wigeonref05_weightsOK.f k a0) (wigeonref05_weightsOK.f (k + 1) a0) := by
 intro a0 k
 obtain ⟨ih0, ih1⟩ := wigeonref05_weightsOK.mono_l k
 unfold wigeonref05_weightsOK.f
 repeat' first
   | (with_reducible exact ih0 _ _)
   | (with_reducible exact ih1 _ _)
   | (with_reducible exact LeO.refl _)
   | (with_reducible exact LeO.none _)
   | (with_reducible refine LeO.ite ?_ ?_)
   | (with_reducible refine LeO.bind ?_ (fun _ => ?_))
   | exact ih0 _ _
   | exact ih1 _ _
   | exact LeO.none _
   | refine LeO.ite ?_ ?_
   | refine LeO.bind ?_ (fun _ => ?_)
set_option maxHeartbeats 8000000 in
set_option maxRecDepth 100000 in
theorem wigeonref05_weightsOK.calls (k : Nat) (A0 : Option Addr) (c0 : Nat) (l0 : List Int) (r : Int) (w : World) (hr0 : Kd.C (Kd.int .i64) w A0 l0.length l0) (hc0 : l0.length ≤ c0) (h : wigeonref05_weightsOK.f k l0 = some r) :
  Calls Try.prog 93 #[.slice A0 l0.length c0] w fun e w' => e = .returned (.int .i64 r) ∧ Drawn0 w w' := by
 have HR0 := Aside0.mk hr0
 have HC0 := Aside0.mk hc0
 clear hr0 hc0
 have H : (if (l0.length : Int) < 1 then (wigeonref05_weightsOK.j0 k l0 true) else (wigeonref05_weightsOK.j0 k l0 (decide ((l0.length : Int) > 12)))) = some r := h
 clear h
 have HC2 := Aside0.mk H
 clear H
 go_enter Try.func93, Try.ntmps93
 go_upto_region 1 with (fail)
 go_cut [11] (fun v11 wc => ∃ (kq : Nat) (x11_1 : Bool), v11 = .bool x11_1 ∧ Aside0 (wigeonref05_weightsOK.j0 kq l0 x11_1 = some r) ∧ Aside0 (kq ≤ k) ∧ Drawn0 w wc)
 case first =>
  have H := HC2.out
  clear HC2
  by_cases c3 : (l0.length : Int) < 1
  ·rw [if_pos c3] at H
   have c3b0 : decide ((l0.length : Int) < 1) = true := decide_eq_true c3
   have c3b1 : decide (l0.length < 1) = true := decide_eq_true (by omega)
   clear c3
   (first | rw [c3b0] | (simp only [i64_w, i32_w]; rw [c3b0]) | skip)
   have H' := Aside0.mk H
   clear H
   go_wp2
   go_meet
   case rel => exact ⟨_, (true), (by first | rfl | (simp; done) | (simp [*]; done)), H', ⟨by first | omega | exact Nat.le_refl _⟩, by repeat (first | exact Drawn0.refl _ | apply Drawn0.step)⟩
  ·rw [if_neg c3] at H
   have c3b0 : decide ((l0.length : Int) < 1) = false := decide_eq_false c3
   have c3b1 : decide (l0.length < 1) = false := decide_eq_false (by omega)
   clear c3
   (first | rw [c3b0] | (simp only [i64_w, i32_w]; rw [c3b0]) | skip)
   have H' := Aside0.mk H
   clear H
   go_wp2
   go_meet
   case rel => exact ⟨_, (decide ((l0.length : Int) > 12)), (by first | rfl | (simp; done) | (simp [*]; done)), H', ⟨by first | omega | exact Nat.le_refl _⟩, by repeat (first | exact Drawn0.refl _ | apply Drawn0.step)⟩
 case rest =>
  clear HC2
  try clear p2
  try clear c3
  try clear c3b0
  try clear c3b1
  obtain ⟨kq, x11_1, rfl, HA, HJ1, ⟨mc1, rfl⟩⟩ := hcut
  cases kq with
  | zero => exact absurd HA.out (by simp [wigeonref05_weightsOK.j0])
  | succ kj1 =>
   have H := HA.out
   clear HA
   simp only [wigeonref05_weightsOK.j0] at H
   by_cases c4 : x11_1 = true
   ·subst c4
    have H1 : (some 1) = some r := by rw [if_pos rfl] at H; exact H
    clear H
    have H := H1
    clear H1
    obtain rfl := Option.some.inj H
    go_wp2
    go_ret
    exact ⟨by first | rfl | (simp; done) | (simp [*]; done), by repeat (first | exact Drawn0.refl _ | apply Drawn0.step)⟩
   ·replace c4 := Bool.eq_false_iff.mpr c4
    subst c4
    have H1 : (wigeonref05_weightsOK.l0 kj1 l0 0) = some r := by rw [if_neg (show ¬ (false = true) by decide)] at H; exact H
    clear H
    have H := H1
    clear H1
    have H' := Aside0.mk H
    clear H
    go_wp2
    go_loopg [3] kj1 (fun kq v3 w' => ∃ (x3_2 : Int), v3 = .int .i64 x3_2 ∧ Aside0 (wigeonref05_weightsOK.l0 kq l0 x3_2 = some r) ∧ Aside0 (kq ≤ kj1) ∧ Drawn0 w w')
    case atStart => exact ⟨(0), (by first | rfl | (simp; done) | (simp [*]; done)), H', ⟨Nat.le_refl _⟩, by repeat (first | exact Drawn0.refl _ | apply Drawn0.step)⟩
    case round =>
     clear H'
     try clear c1
     try clear p2
     try clear c3
     try clear c3b0
     try clear c3b1
     try clear c4
     try clear p2
     obtain ⟨x3_2, rfl, HA, HK2, ⟨m2, rfl⟩⟩ := hrel
     cases gk with
     | zero => exact absurd HA.out (by simp [wigeonref05_weightsOK.l0])
     | succ k2 =>
      have H := HA.out
      clear HA
      simp only [wigeonref05_weightsOK.l0] at H
      by_cases c5 : x3_2 < (l0.length : Int)
      ·rw [if_pos c5] at H
       have c5b0 : decide (x3_2 < (l0.length : Int)) = true := decide_eq_true c5
       clear c5
       by_cases c6 : 0 ≤ x3_2
       ·rw [if_pos c6] at H
        have c6b0 : decide (0 ≤ x3_2) = true := decide_eq_true c6
        clear c6
        by_cases c7 : (rd l0 x3_2) < 0
        ·rw [if_pos c7] at H
         have c7b0 : decide ((rd l0 x3_2) < 0) = true := decide_eq_true c7
         clear c7
         obtain rfl := Option.some.inj H
         have p537 : 0 ≤ (x3_2 : Int) := of_decide_eq_true (by first | (with_reducible assumption) | assumption)
         have q537 : x3_2 < (l0.length : Int) := of_decide_eq_true (by first | (with_reducible assumption) | assumption)
         obtain ⟨ad537, e537, hx537_0⟩ := Kd.at_int HR0.out x3_2 p537 q537
         cases e537
         replace p537 := eq_true p537
         replace q537 := eq_true q537
         go_wp2
         go_ret
         exact ⟨by first | rfl | (simp; done) | (simp [*]; done), by repeat (first | exact Drawn0.refl _ | apply Drawn0.step)⟩
        ·rw [if_neg c7] at H
         have c7b0 : decide ((rd l0 x3_2) < 0) = false := decide_eq_false c7
         clear c7
         by_cases c8 : (rd l0 x3_2) > 1000
         ·rw [if_pos c8] at H
          have c8b0 : decide (1000 < (rd l0 x3_2)) = true := decide_eq_true c8
          clear c8
          obtain rfl := Option.some.inj H
          have p537 : 0 ≤ (x3_2 : Int) := of_decide_eq_true (by first | (with_reducible assumption) | assumption)
          have q537 : x3_2 < (l0.length : Int) := of_decide_eq_true (by first | (with_reducible assumption) | assumption)
          obtain ⟨ad537, e537, hx537_0⟩ := Kd.at_int HR0.out x3_2 p537 q537
          cases e537
          replace p537 := eq_true p537
          replace q537 := eq_true q537
          have p538 : 0 ≤ (x3_2 : Int) := of_decide_eq_true (by first | (with_reducible assumption) | assumption)
          have q538 : x3_2 < (l0.length : Int) := of_decide_eq_true (by first | (with_reducible assumption) | assumption)
          obtain ⟨ad538, e538, hx538_0⟩ := Kd.at_int HR0.out x3_2 p538 q538
          obtain rfl : ad537 = ad538 := (by injection e538)
          replace p538 := eq_true p538
          replace q538 := eq_true q538
          go_wp2
          go_ret
          exact ⟨by first | rfl | (simp; done) | (simp [*]; done), by repeat (first | exact Drawn0.refl _ | apply Drawn0.step)⟩
         ·rw [if_neg c8] at H
          have c8b0 : decide (1000 < (rd l0 x3_2)) = false := decide_eq_false c8
          clear c8
          have H' := Aside0.mk H
          clear H
          have p537 : 0 ≤ (x3_2 : Int) := of_decide_eq_true (by first | (with_reducible assumption) | assumption)
          have q537 : x3_2 < (l0.length : Int) := of_decide_eq_true (by first | (with_reducible assumption) | assumption)
          obtain ⟨ad537, e537, hx537_0⟩ := Kd.at_int HR0.out x3_2 p537 q537
          cases e537
          replace p537 := eq_true p537
          replace q537 := eq_true q537
          have p538 : 0 ≤ (x3_2 : Int) := of_decide_eq_true (by first | (with_reducible assumption) | assumption)
          have q538 : x3_2 < (l0.length : Int) := of_decide_eq_true (by first | (with_reducible assumption) | assumption)
          obtain ⟨ad538, e538, hx538_0⟩ := Kd.at_int HR0.out x3_2 p538 q538
          obtain rfl : ad537 = ad538 := (by injection e538)
          replace p538 := eq_true p538
          replace q538 := eq_true q538
          go_wp2
          go_roundg k2
          case measure => have := HJ1.out; have := HK2.out; omega
          case rel => exact ⟨(wrap64 (x3_2 + 1)), (by first | rfl | (simp; done) | (simp [*]; done)), H', ⟨by have := HJ1.out; have := HK2.out; omega⟩, by repeat (first | exact Drawn0.refl _ | apply Drawn0.step)⟩
       ·rw [if_neg c6] at H
        exact absurd H (by simp)
      ·rw [if_neg c5] at H
       have c5b0 : decide (x3_2 < (l0.length : Int)) = false := decide_eq_false c5
       clear c5
       obtain rfl := Option.some.inj H
       go_wp2
       go_ret
       exact ⟨by first | rfl | (simp; done) | (simp [*]; done), by repeat (first | exact Drawn0.refl _ | apply Drawn0.step)⟩

end Go.Proofs.Ytpkafcoflgbnaaa.Q
