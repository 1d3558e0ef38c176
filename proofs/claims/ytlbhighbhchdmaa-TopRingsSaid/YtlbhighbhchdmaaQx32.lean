-- Written by a program of this session (wip/tools/gprint.py, over the kit's print); Lean checks it.
import Derived.Test.YtlbhighbhchdmaaNearB
import Derived.Test.YtlbhighbhchdmaaLeq
import Derived.Test.YtlbhighbhchdmaaQx0
import Derived.Test.YtlbhighbhchdmaaQx9
namespace Go.Proofs.Ytlbhighbhchdmaa.Q
open Go.RowKit Go.Proofs.YtlbhighbhchdmaaW.PrintWords Go.Proofs.YtlbhighbhchdmaaW.PrintLast Go.Proofs.YtlbhighbhchdmaaW.PrintMore
attribute [local go_sem] max2_int min2_int max_two min_two max_three min_three max_four min_four   -- for this text's walks alone
set_option linter.unusedVariables false
set_option linter.unusedSimpArgs false

-- NOT PRINTED: function 112 (slices_partitionOrdered_string)

-- NOT PRINTED: function 99 (slices_pdqsortOrdered_string)

-- NOT PRINTED: function 85 (slices_Sort_string_string)

-- NOT PRINTED: function 86 (slices_Compact_string_string)

/-! ### ring_Near: function 50 -/
-- GIVEN wigeon/ring.Near rounds=1 making=1
def nearE (k : Nat) (b : ByteArray) : Int := (ring_Valid.f k b).getD 0
theorem digL_congr {e e' : ByteArray → Int} {s : ByteArray} {n i : Nat} (hi : i < 6) (h : ∀ b ∈ candN s n, e b = e' b) (L : List ByteArray) : ∀ c, c ≤ 10 → digL e s (n + i) L c = digL e' s (n + i) L c
  | 0, _ => rfl
  | c + 1, hc => by
    show keepB e s (digL e s (n + i) L c) _ = keepB e' s (digL e' s (n + i) L c) _
    rw [digL_congr hi h L c (by omega)]
    unfold keepB
    rw [h _ (cand_put hi (by omega))]
theorem placeL_congr {e e' : ByteArray → Int} {s : ByteArray} {n : Nat} (h : ∀ b ∈ candN s n, e b = e' b) : ∀ j, j ≤ 6 → placeL e s n j = placeL e' s n j
  | 0, _ => rfl
  | j + 1, hj => by
    unfold placeL
    rw [placeL_congr h j (by omega), digL_congr (by omega) h _ 10 (Nat.le_refl _)]
    by_cases h1 : j + 1 < 6
    · rw [if_pos h1, if_pos h1]
      unfold keepB
      rw [h _ (cand_swap h1)]
    · rw [if_neg h1, if_neg h1]
def nearAll (k : Nat) (s : ByteArray) (n : Nat) : Bool := (candN s n).all fun b => (ring_Valid.f k b).isSome
def ring_Near.f (k : Nat) (a0 : ByteArray) : Option (List ByteArray × Int) :=
  (ring_form.f a0 (⟨#[]⟩ : ByteArray)).bind fun t => if t.2 = true then (if (t.1.toNat : Int) = t.1 ∧ t.1.toNat + 6 = a0.size ∧ 7 ≤ a0.size ∧ a0.size ≤ 8 then (if nearAll k a0 t.1.toNat = true then some (nearR (placeL (nearE k) a0 t.1.toNat 6), 0) else none) else none) else some (([] : List ByteArray), 2)
theorem ring_Near.mono : ∀ a0 k, LeO (ring_Near.f k a0) (ring_Near.f (k + 1) a0) := by
  intro a0 k
  unfold ring_Near.f
  refine LeO.bind (LeO.refl _) fun t => ?_
  by_cases h1 : t.2 = true
  · rw [if_pos h1, if_pos h1]
    by_cases h2 : (t.1.toNat : Int) = t.1 ∧ t.1.toNat + 6 = a0.size ∧ 7 ≤ a0.size ∧ a0.size ≤ 8
    · rw [if_pos h2, if_pos h2]
      by_cases h3 : nearAll k a0 t.1.toNat = true
      · rw [if_pos h3]
        have hk : ∀ b ∈ candN a0 t.1.toNat, ring_Valid.f (k + 1) b = some (nearE k b) := fun b hb => by
          have h4 := List.all_eq_true.1 h3 b hb
          obtain ⟨x, hx⟩ := Option.isSome_iff_exists.1 h4
          have := ring_Valid.mono b k x hx
          unfold nearE
          rw [hx, this]
          rfl
        have h5 : nearAll (k + 1) a0 t.1.toNat = true := List.all_eq_true.2 fun b hb => by rw [hk b hb]; rfl
        rw [if_pos h5, placeL_congr (e := nearE (k + 1)) (e' := nearE k) (fun b hb => by show (ring_Valid.f (k + 1) b).getD 0 = _; rw [hk b hb]; rfl) 6 (Nat.le_refl _)]
        exact LeO.refl _
      · rw [if_neg h3]
        exact LeO.none _
    · rw [if_neg h2, if_neg h2]
      exact LeO.refl _
  · rw [if_neg h1, if_neg h1]
    exact LeO.refl _
set_option maxHeartbeats 3200000 in
set_option maxRecDepth 100000 in
theorem ring_Near.bad (s : ByteArray) (n : Int) (w : World)
    (HF : Hid (∀ w, Calls Try.prog 71 #[.string s, .string ⟨#[]⟩] w fun e w' => e = .returned (.tuple #[.int .i64 n, .bool false]) ∧ Below w.heap.size w w')) :
    Calls Try.prog 50 #[.string s] w fun r w' => r = .returned (.tuple #[.slice none 0 0, .int .i64 2]) ∧ Below w.heap.size w w' := by
  go_enter Try.func50, Try.ntmps50
  go_wp2_with (first | (go_at_call 71; go_must (with_reducible refine (HF.out _).mono ?_); rintro _ w1 ⟨rfl, hb1⟩; have HBw := Lib.hid (show Below w.heap.size w w1 from ((Below.refl _ w).alloc (Nat.le_refl _) _).trans (hb1.mono (by simp))); clear hb1))
  first | go_end0 | go_returns | go_ret
  exact ⟨rfl, HBw.out⟩
theorem ring_Near.calls (k : Nat) (a0 : ByteArray) (r1 : List ByteArray) (r2 : Int) (w : World) (h : ring_Near.f k a0 = some (r1, r2)) :
    Calls Try.prog 50 #[.string a0] w fun e w' => ∃ v0_ : Value, e = .returned (.tuple #[v0_, .int .i64 r2]) ∧ Kd.R Kd.string 9 w' w.heap.size (fun _ => True) v0_ r1 ∧ Below w.heap.size w w' := by
  unfold ring_Near.f at h
  cases hf : ring_form.f a0 (⟨#[]⟩ : ByteArray) with
  | none => rw [hf] at h; exact absurd h (by simp)
  | some t =>
    obtain ⟨t1, t2⟩ := t
    rw [hf, Option.bind_some] at h
    by_cases h1 : t2 = true
    · subst h1
      rw [if_pos rfl] at h
      by_cases h2 : (t1.toNat : Int) = t1 ∧ t1.toNat + 6 = a0.size ∧ 7 ≤ a0.size ∧ a0.size ≤ 8
      · rw [if_pos h2] at h
        by_cases h3 : nearAll k a0 t1.toNat = true
        · rw [if_pos h3] at h
          injection h with h
          injection h with h4 h5
          subst h4
          subst h5
          obtain ⟨g1, g2, g3, g4⟩ := h2
          refine Near.good a0 t1.toNat w g3 g4 g2 (nearE k) (Lib.hid fun w => ?_) (Lib.hid fun b hb w => ?_)
          · rw [g1]; exact ring_form.calls a0 _ _ _ w hf
          · obtain ⟨x, hx⟩ := Option.isSome_iff_exists.1 (List.all_eq_true.1 h3 b hb)
            have e : nearE k b = x := by unfold nearE; rw [hx]; rfl
            rw [e]
            exact ring_Valid.calls k b x w hx
        · rw [if_neg h3] at h
          exact absurd h (by simp)
      · rw [if_neg h2] at h
        exact absurd h (by simp)
    · obtain rfl := Bool.eq_false_iff.mpr h1
      rw [if_neg h1] at h
      injection h with h
      injection h with h4 h5
      subst h4
      subst h5
      refine (ring_Near.bad a0 t1 w (Lib.hid fun w => ring_form.calls a0 _ _ _ w hf)).mono ?_
      rintro _ w' ⟨rfl, hb⟩
      exact ⟨_, rfl, Kd.R_nil _ _ _ _ _, hb⟩

/-! ### wigeonref01_put: function 87 -/
mutual
def wigeonref01_put.l0 : Nat → List ByteArray → ByteArray → List ByteArray → Bool → Int → Option (List ByteArray)
  | 0, _, _, _, _, _ => none
  | k + 1, x0, x1, x5, x6, x7 => if x7 < (x0.length : Int) then (if x6 = true then (wigeonref01_put.j1 k x0 x1 x5 x6 x7 false) else (if 0 ≤ x7 then (wigeonref01_put.j1 k x0 x1 x5 x6 x7 (!(Op.bytesLess ((rdOf ByteArray.empty x0 x7).toList) x1.toList))) else (none))) else (if x6 = true then (some x5) else (if x5.length < 8796093022208 then (some (x5 ++ [x1])) else (none)))
def wigeonref01_put.j1 : Nat → List ByteArray → ByteArray → List ByteArray → Bool → Int → Bool → Option (List ByteArray)
  | 0, _, _, _, _, _, _ => none
  | k + 1, x0, x1, x5, x6, x7, x23 => if x23 = true then (if x5.length < 8796093022208 then ((some (x5 ++ [x1] : List ByteArray)).bind fun y572 => (if 0 ≤ x7 then (if x7 < (x0.length : Int) then (if (rdOf ByteArray.empty x0 x7).toList = x1.toList then (wigeonref01_put.l0 k x0 x1 y572 true (wrap64 (x7 + 1))) else (if y572.length < 8796093022208 then (wigeonref01_put.l0 k x0 x1 (y572 ++ [rdOf ByteArray.empty x0 x7]) true (wrap64 (x7 + 1))) else (none))) else (none)) else (none))) else (none)) else (if 0 ≤ x7 then (if x7 < (x0.length : Int) then (if (rdOf ByteArray.empty x0 x7).toList = x1.toList then (wigeonref01_put.l0 k x0 x1 x5 x6 (wrap64 (x7 + 1))) else (if x5.length < 8796093022208 then (wigeonref01_put.l0 k x0 x1 (x5 ++ [rdOf ByteArray.empty x0 x7]) x6 (wrap64 (x7 + 1))) else (none))) else (none)) else (none))
end
def wigeonref01_put.f (k : Nat) (l0 : List ByteArray) (a1 : ByteArray) : Option (List ByteArray) := wigeonref01_put.l0 k l0 a1 ([] : List ByteArray) false 0
theorem wigeonref01_put.mono_l : ∀ k, (∀ y0 y1 y2 y3 y4, LeO (wigeonref01_put.l0 k y0 y1 y2 y3 y4) (wigeonref01_put.l0 (k + 1) y0 y1 y2 y3 y4)) ∧ (∀ y0 y1 y2 y3 y4 y5, LeO (wigeonref01_put.j1 k y0 y1 y2 y3 y4 y5) (wigeonref01_put.j1 (k + 1) y0 y1 y2 y3 y4 y5))
  | 0 => ⟨fun _ _ _ _ _ r h => by simp [wigeonref01_put.l0] at h, fun _ _ _ _ _ _ r h => by simp [wigeonref01_put.j1] at h⟩
  | k + 1 => by
    obtain ⟨ih0, ih1⟩ := wigeonref01_put.mono_l k
    refine ⟨?_, ?_⟩
    · intro y0 y1 y2 y3 y4
      unfold wigeonref01_put.l0
      repeat' first
      | (with_reducible exact ih0 _ _ _ _ _)
      | (with_reducible exact ih1 _ _ _ _ _ _)
      | (with_reducible exact LeO.refl _)
      | (with_reducible exact LeO.none _)
      | (with_reducible refine LeO.ite ?_ ?_)
      | (with_reducible refine LeO.bind ?_ (fun _ => ?_))
      | exact ih0 _ _ _ _ _
      | exact ih1 _ _ _ _ _ _
      | exact LeO.none _
      | refine LeO.ite ?_ ?_
      | refine LeO.bind ?_ (fun _ => ?_)
    · intro y0 y1 y2 y3 y4 y5
      unfold wigeonref01_put.j1
      repeat' first
      | (with_reducible exact ih0 _ _ _ _ _)
      | (with_reducible exact ih1 _ _ _ _ _ _)
      | (with_reducible exact LeO.refl _)
      | (with_reducible exact LeO.none _)
      | (with_reducible refine LeO.ite ?_ ?_)
      | (with_reducible refine LeO.bind ?_ (fun _ => ?_))
      | exact ih0 _ _ _ _ _
      | exact ih1 _ _ _ _ _ _
      | exact LeO.none _
      | refine LeO.ite ?_ ?_
      | refine LeO.bind ?_ (fun _ => ?_)
theorem wigeonref01_put.mono : ∀ a0 a1 k, LeO (wigeonref01_put.f k a0 a1) (wigeonref01_put.f (k + 1) a0 a1) := by
  intro a0 a1 k
  obtain ⟨ih0, ih1⟩ := wigeonref01_put.mono_l k
  unfold wigeonref01_put.f
  repeat' first
      | (with_reducible exact ih0 _ _ _ _ _)
      | (with_reducible exact ih1 _ _ _ _ _ _)
      | (with_reducible exact LeO.refl _)
      | (with_reducible exact LeO.none _)
      | (with_reducible refine LeO.ite ?_ ?_)
      | (with_reducible refine LeO.bind ?_ (fun _ => ?_))
      | exact ih0 _ _ _ _ _
      | exact ih1 _ _ _ _ _ _
      | exact LeO.none _
      | refine LeO.ite ?_ ?_
      | refine LeO.bind ?_ (fun _ => ?_)
set_option maxHeartbeats 8000000 in
set_option maxRecDepth 100000 in
theorem wigeonref01_put.calls (k : Nat) (A0 : Option Addr) (c0 : Nat) (l0 : List ByteArray) (a1 : ByteArray) (r : List ByteArray) (w : World) (hr0 : Kd.C Kd.string w A0 l0.length l0) (hc0 : l0.length ≤ c0) (h : wigeonref01_put.f k l0 a1 = some r) :
    Calls Try.prog 87 #[.slice A0 l0.length c0, .string a1] w fun e w' => ∃ v0_ : Value, e = .returned (v0_) ∧ Kd.R Kd.string 9 w' w.heap.size (fun _ => True) v0_ r ∧ Below w.heap.size w w' := by
  have HR0 := Aside0.mk hr0
  have HC0 := Aside0.mk hc0
  clear hr0 hc0
  have hleS := put_leq
  have HB := Aside0.mk (Below.refl w.heap.size w)
  have H : (wigeonref01_put.l0 k l0 a1 ([] : List ByteArray) false 0) = some r := h
  clear h
  have H' := Aside0.mk H
  clear H
  go_enter Try.func87, Try.ntmps87
  go_wp2
  go_loopg [5, 6, 7] k (fun kq v5 v6 v7 w' => ∃ (x5_1 : List ByteArray) (x6_1 : Bool) (x7_1 : Int), v6 = .bool x6_1 ∧ v7 = .int .i64 x7_1 ∧ Aside0 (wigeonref01_put.l0 kq l0 a1 x5_1 x6_1 x7_1 = some r) ∧ Aside0 (kq ≤ k) ∧ Aside0 (Kd.R Kd.string 9 w' w.heap.size (fun _ => True) v5 x5_1) ∧ Aside0 (Below w.heap.size w w'))
  case atStart => exact ⟨(([] : List ByteArray)), (false), (0), (by first | rfl | (simp; done) | (simp [*]; done)), (by first | rfl | (simp; done) | (simp [*]; done)), H', ⟨Nat.le_refl _⟩, ⟨by first | exact Kd.R_nil _ _ _ _ _ | exact Kd.N_nil _ _ _ _ _ | exact Kd.V_nil _ _ _ _ _ | exact Kd.Q_nil _ _ _ _ _ | exact Kd.S_nil _ _ _ _ _⟩, ⟨by repeat (first | (with_reducible first | exact HB.out | apply below_alloc | apply pw_below_drewN | apply below_drew1) | exact HB.out)⟩⟩
  case round =>
    clear H'
    try clear p2
    obtain ⟨x5_1, x6_1, x7_1, rfl, rfl, HA, HK1, HO_5, HB⟩ := hrel
    cases gk with
    | zero => exact absurd HA.out (by simp [wigeonref01_put.l0])
    | succ k1 =>
      have H := HA.out
      clear HA
      simp only [wigeonref01_put.l0] at H
      by_cases c3 : x7_1 < (l0.length : Int)
      · rw [if_pos c3] at H
        have c3b0 : decide (x7_1 < (l0.length : Int)) = true := decide_eq_true c3
        clear c3
        have HC4 := Aside0.mk H
        clear H
        go_upto_region 6 with (fail)
        go_cut [23] (fun v23 wc => ∃ (kq : Nat) (x23_3 : Bool), v23 = .bool x23_3 ∧ Aside0 (wigeonref01_put.j1 kq l0 a1 x5_1 x6_1 x7_1 x23_3 = some r) ∧ Aside0 (kq ≤ k1) ∧ Aside0 (Kd.R Kd.string 9 wc w.heap.size (fun _ => True) u5 x5_1) ∧ Aside0 (Below w.heap.size w wc))
        case first =>
          have H := HC4.out
          clear HC4
          by_cases c5 : x6_1 = true
          · subst c5
            have H1 : (wigeonref01_put.j1 k1 l0 a1 x5_1 true x7_1 false) = some r := by rw [if_pos rfl] at H; exact H
            clear H
            have H := H1
            clear H1
            have H' := Aside0.mk H
            clear H
            go_wp2
            go_meet
            case rel => exact ⟨_, (false), (by first | rfl | (simp; done) | (simp [*]; done)), H', ⟨by have := HK1.out; first | omega | exact Nat.le_refl _⟩, ⟨by (with_reducible repeat (first | apply Kd.R_alloc | apply Kd.R_drewN | apply Kd.R_drew)); exact HO_5.out⟩, ⟨by repeat (first | (with_reducible first | exact HB.out | apply below_alloc | apply pw_below_drewN | apply below_drew1) | exact HB.out)⟩⟩
          · replace c5 := Bool.eq_false_iff.mpr c5
            subst c5
            have H1 : (if 0 ≤ x7_1 then (wigeonref01_put.j1 k1 l0 a1 x5_1 false x7_1 (!(Op.bytesLess ((rdOf ByteArray.empty l0 x7_1).toList) a1.toList))) else (none)) = some r := by rw [if_neg (show ¬ (false = true) by decide)] at H; exact H
            clear H
            have H := H1
            clear H1
            by_cases c6 : 0 ≤ x7_1
            · rw [if_pos c6] at H
              have c6b0 : decide (0 ≤ x7_1) = true := decide_eq_true c6
              clear c6
              (first | rw [c6b0] | (simp only [i64_w, i32_w]; rw [c6b0]) | skip)
              have H' := Aside0.mk H
              clear H
              have p571 : 0 ≤ (x7_1 : Int) := of_decide_eq_true (by first | (with_reducible assumption) | assumption)
              have q571 : x7_1 < (l0.length : Int) := of_decide_eq_true (by first | (with_reducible assumption) | assumption)
              obtain ⟨ad571, e571, hx571_0⟩ := Kd.at_string HR0.out x7_1 p571 q571
              cases e571
              replace hx571_0 := (HB.out.cell (World.block_lt_of_cell? w _ hx571_0)).trans hx571_0
              replace p571 := eq_true p571
              replace q571 := eq_true q571
              go_wp2
              go_meet
              case rel => exact ⟨_, (!(Op.bytesLess ((rdOf ByteArray.empty l0 x7_1).toList) a1.toList)), (by first | rfl | (simp; done) | (simp [*]; done)), H', ⟨by have := HK1.out; first | omega | exact Nat.le_refl _⟩, ⟨by (with_reducible repeat (first | apply Kd.R_alloc | apply Kd.R_drewN | apply Kd.R_drew)); exact HO_5.out⟩, ⟨by repeat (first | (with_reducible first | exact HB.out | apply below_alloc | apply pw_below_drewN | apply below_drew1) | exact HB.out)⟩⟩
            · rw [if_neg c6] at H
              exact absurd H (by simp)
        case rest =>
          clear HC4
          try clear p2
          try clear c3
          try clear c3b0
          try clear c5
          try clear p5
          try clear q5
          try clear hx5
          try clear c6
          try clear c6b0
          try clear hx571_0
          try clear p2
          try clear p571
          try clear q571
          obtain ⟨kq, x23_3, rfl, HA, HJ3, HO_5, HB⟩ := hcut
          cases kq with
          | zero => exact absurd HA.out (by simp [wigeonref01_put.j1])
          | succ kj3 =>
            have H := HA.out
            clear HA
            simp only [wigeonref01_put.j1] at H
            by_cases c7 : x23_3 = true
            · subst c7
              have H1 : (if x5_1.length < 8796093022208 then ((some (x5_1 ++ [a1] : List ByteArray)).bind fun y572 => (if 0 ≤ x7_1 then (if x7_1 < (l0.length : Int) then (if (rdOf ByteArray.empty l0 x7_1).toList = a1.toList then (wigeonref01_put.l0 kj3 l0 a1 y572 true (wrap64 (x7_1 + 1))) else (if y572.length < 8796093022208 then (wigeonref01_put.l0 kj3 l0 a1 (y572 ++ [rdOf ByteArray.empty l0 x7_1]) true (wrap64 (x7_1 + 1))) else (none))) else (none)) else (none))) else (none)) = some r := by rw [if_pos rfl] at H; exact H
              clear H
              have H := H1
              clear H1
              by_cases c8 : x5_1.length < 8796093022208
              · rw [if_pos c8] at H
                have LMc8 := Aside0.mk c8
                clear c8
                obtain ⟨y572, hy572⟩ : ∃ y_ : List ByteArray, y_ = (x5_1 ++ [a1]) := ⟨_, rfl⟩
                replace H : (if 0 ≤ x7_1 then (if x7_1 < (l0.length : Int) then (if (rdOf ByteArray.empty l0 x7_1).toList = a1.toList then (wigeonref01_put.l0 kj3 l0 a1 y572 true (wrap64 (x7_1 + 1))) else (if y572.length < 8796093022208 then (wigeonref01_put.l0 kj3 l0 a1 (y572 ++ [rdOf ByteArray.empty l0 x7_1]) true (wrap64 (x7_1 + 1))) else (none))) else (none)) else (none)) = some r := by first | (rw [hy572]; with_reducible exact H) | (have H2_ := (Option.bind_some _ _).symm.trans H; rw [hy572]; with_reducible exact H2_) | (have H2_ := (Option.bind_some _ _).symm.trans H; with_reducible exact H2_) | with_reducible exact H | (rw [hy572]; exact H) | exact H
                have Ny572 := Aside0.mk hy572
                clear hy572
                by_cases c9 : 0 ≤ x7_1
                · rw [if_pos c9] at H
                  have c9b0 : decide (0 ≤ x7_1) = true := decide_eq_true c9
                  clear c9
                  by_cases c10 : x7_1 < (l0.length : Int)
                  · rw [if_pos c10] at H
                    have c10b0 : decide (x7_1 < (l0.length : Int)) = true := decide_eq_true c10
                    clear c10
                    by_cases c11 : (rdOf ByteArray.empty l0 x7_1).toList = a1.toList
                    · rw [if_pos c11] at H
                      have c11b0 : ((rdOf ByteArray.empty l0 x7_1).toList == a1.toList) = true := beq_iff_eq.mpr c11
                      have c11b1 : ((rdOf ByteArray.empty l0 x7_1).toList != a1.toList) = false := bne_eq_false_iff_eq.mpr c11
                      clear c11
                      have H' := Aside0.mk H
                      clear H
                      go_wp2_with (first | ((with_reducible refine gate_builtin (b := .append) (xs := #[.tmp 24, .tmp 26]) rfl ?_); at_builtin; refine Kd.R_append Kd.string (w0 := w) w.heap.size rfl (.tmp 24) (.tmp 26) 54 9 (.string ⟨#[]⟩) 16 rfl Try.underlying54 info9 rfl (by decide) (by omega) u5 x5_1 a1 [.string a1] (fun _ => True) (fun _ => False) rfl rfl ?aP (fun _ hk => hk.elim) ?aF ?aO ?aB ?aS ?aL ?_; (case aP => exact rfl); (case aB => exact (by repeat (first | (with_reducible first | exact HB.out | apply below_alloc | apply pw_below_drewN | apply below_drew1) | exact HB.out))); (case aF => exact (fun _ _ => trivial)); (case aO => exact (by (with_reducible repeat (first | apply Kd.R_alloc | apply Kd.R_drewN | apply Kd.R_drew)); exact HO_5.out)); (case aS => exact (below_size (by repeat (first | (with_reducible first | exact HB.out | apply below_alloc | apply pw_below_drewN | apply below_drew1) | exact HB.out)))); (case aL => have := LMc8.out; omega); intro v573 w12 ho hb hg hat; rw [← Ny572.out] at ho; have n0_ := Aside0.mk (hb); have n1_ := Aside0.mk (ho); clear HB; clear HO_5; have HB := n0_; have HO574 := n1_; clear n0_ n1_; clear ho hb hg hat; have p575 : 0 ≤ (x7_1 : Int) := of_decide_eq_true (by first | (with_reducible assumption) | assumption); have q575 : x7_1 < (l0.length : Int) := of_decide_eq_true (by first | (with_reducible assumption) | assumption); obtain ⟨ad575, e575, hx575_0⟩ := Kd.at_string HR0.out x7_1 p575 q575; cases e575; replace hx575_0 := (HB.out.cell (World.block_lt_of_cell? w _ hx575_0)).trans hx575_0; replace p575 := eq_true p575; replace q575 := eq_true q575))
                      go_roundg kj3
                      case measure => have := HK1.out; have := HJ3.out; omega
                      case rel => exact ⟨(y572), (true), (wrap64 (x7_1 + 1)), (by first | rfl | (simp; done) | (simp [*]; done)), (by first | rfl | (simp; done) | (simp [*]; done)), H', ⟨by have := HK1.out; have := HJ3.out; omega⟩, ⟨by (with_reducible repeat (first | apply Kd.R_alloc | apply Kd.R_drewN | apply Kd.R_drew)); exact HO574.out⟩, ⟨by repeat (first | (with_reducible first | exact HB.out | apply below_alloc | apply pw_below_drewN | apply below_drew1) | exact HB.out)⟩⟩
                    · rw [if_neg c11] at H
                      have c11b0 : ((rdOf ByteArray.empty l0 x7_1).toList == a1.toList) = false := beq_eq_false_iff_ne.mpr c11
                      have c11b1 : ((rdOf ByteArray.empty l0 x7_1).toList != a1.toList) = true := bne_iff_ne.mpr c11
                      by_cases c13 : y572.length < 8796093022208
                      · rw [if_pos c13] at H
                        have LMc13 := Aside0.mk c13
                        clear c13
                        obtain ⟨y577, hy577⟩ : ∃ y_ : List ByteArray, y_ = (y572 ++ [rdOf ByteArray.empty l0 x7_1]) := ⟨_, rfl⟩
                        replace H : (wigeonref01_put.l0 kj3 l0 a1 y577 true (wrap64 (x7_1 + 1))) = some r := by first | (rw [hy577]; with_reducible exact H) | (have H2_ := (Option.bind_some _ _).symm.trans H; rw [hy577]; with_reducible exact H2_) | (have H2_ := (Option.bind_some _ _).symm.trans H; with_reducible exact H2_) | with_reducible exact H | (rw [hy577]; exact H) | exact H
                        have Ny577 := Aside0.mk hy577
                        clear hy577
                        have H' := Aside0.mk H
                        clear H
                        go_wp2_with (first | ((with_reducible refine gate_builtin (b := .append) (xs := #[.tmp 24, .tmp 26]) rfl ?_); at_builtin; refine Kd.R_append Kd.string (w0 := w) w.heap.size rfl (.tmp 24) (.tmp 26) 54 9 (.string ⟨#[]⟩) 16 rfl Try.underlying54 info9 rfl (by decide) (by omega) u5 x5_1 a1 [.string a1] (fun _ => True) (fun _ => False) rfl rfl ?aP (fun _ hk => hk.elim) ?aF ?aO ?aB ?aS ?aL ?_; (case aP => exact rfl); (case aB => exact (by repeat (first | (with_reducible first | exact HB.out | apply below_alloc | apply pw_below_drewN | apply below_drew1) | exact HB.out))); (case aF => exact (fun _ _ => trivial)); (case aO => exact (by (with_reducible repeat (first | apply Kd.R_alloc | apply Kd.R_drewN | apply Kd.R_drew)); exact HO_5.out)); (case aS => exact (below_size (by repeat (first | (with_reducible first | exact HB.out | apply below_alloc | apply pw_below_drewN | apply below_drew1) | exact HB.out)))); (case aL => have := LMc8.out; omega); intro v573 w14 ho hb hg hat; rw [← Ny572.out] at ho; have n0_ := Aside0.mk (hb); have n1_ := Aside0.mk (ho); clear HB; clear HO_5; have HB := n0_; have HO574 := n1_; clear n0_ n1_; clear ho hb hg hat; have p575 : 0 ≤ (x7_1 : Int) := of_decide_eq_true (by first | (with_reducible assumption) | assumption); have q575 : x7_1 < (l0.length : Int) := of_decide_eq_true (by first | (with_reducible assumption) | assumption); obtain ⟨ad575, e575, hx575_0⟩ := Kd.at_string HR0.out x7_1 p575 q575; cases e575; replace hx575_0 := (HB.out.cell (World.block_lt_of_cell? w _ hx575_0)).trans hx575_0; replace p575 := eq_true p575; replace q575 := eq_true q575; have p576 : 0 ≤ (x7_1 : Int) := of_decide_eq_true (by first | (with_reducible assumption) | assumption); have q576 : x7_1 < (l0.length : Int) := of_decide_eq_true (by first | (with_reducible assumption) | assumption); obtain ⟨ad576, e576, hx576_0⟩ := Kd.at_string HR0.out x7_1 p576 q576; obtain rfl : ad575 = ad576 := (by injection e576); replace hx576_0 := (HB.out.cell (World.block_lt_of_cell? w _ hx576_0)).trans hx576_0; replace p576 := eq_true p576; replace q576 := eq_true q576) | ((with_reducible refine gate_builtin (b := .append) (xs := #[.tmp 34, .tmp 39]) rfl ?_); at_builtin; refine Kd.R_append Kd.string (w0 := w) w.heap.size rfl (.tmp 34) (.tmp 39) 54 9 (.string ⟨#[]⟩) 16 rfl Try.underlying54 info9 rfl (by decide) (by omega) v573 y572 (rdOf ByteArray.empty l0 x7_1) [.string (rdOf ByteArray.empty l0 x7_1)] (fun _ => True) (fun _ => False) rfl rfl ?aP (fun _ hk => hk.elim) ?aF ?aO ?aB ?aS ?aL ?_; (case aP => exact rfl); (case aB => exact (by repeat (first | (with_reducible first | exact HB.out | apply below_alloc | apply pw_below_drewN | apply below_drew1) | exact HB.out))); (case aF => exact (fun _ _ => trivial)); (case aO => exact (by (with_reducible repeat (first | apply Kd.R_alloc | apply Kd.R_drewN | apply Kd.R_drew)); exact HO574.out)); (case aS => exact (below_size (by repeat (first | (with_reducible first | exact HB.out | apply below_alloc | apply pw_below_drewN | apply below_drew1) | exact HB.out)))); (case aL => have := LMc13.out; omega); intro v578 w15 ho hb hg hat; rw [← Ny577.out] at ho; have n0_ := Aside0.mk (hb); have n1_ := Aside0.mk (ho); clear HB; clear HO574; have HB := n0_; have HO579 := n1_; clear n0_ n1_; clear ho hb hg hat))
                        go_roundg kj3
                        case measure => have := HK1.out; have := HJ3.out; omega
                        case rel => exact ⟨(y577), (true), (wrap64 (x7_1 + 1)), (by first | rfl | (simp; done) | (simp [*]; done)), (by first | rfl | (simp; done) | (simp [*]; done)), H', ⟨by have := HK1.out; have := HJ3.out; omega⟩, ⟨by (with_reducible repeat (first | apply Kd.R_alloc | apply Kd.R_drewN | apply Kd.R_drew)); exact HO579.out⟩, ⟨by repeat (first | (with_reducible first | exact HB.out | apply below_alloc | apply pw_below_drewN | apply below_drew1) | exact HB.out)⟩⟩
                      · rw [if_neg c13] at H
                        exact absurd H (by simp)
                  · rw [if_neg c10] at H
                    exact absurd H (by simp)
                · rw [if_neg c9] at H
                  exact absurd H (by simp)
              · rw [if_neg c8] at H
                exact absurd H (by simp)
            · replace c7 := Bool.eq_false_iff.mpr c7
              subst c7
              have H1 : (if 0 ≤ x7_1 then (if x7_1 < (l0.length : Int) then (if (rdOf ByteArray.empty l0 x7_1).toList = a1.toList then (wigeonref01_put.l0 kj3 l0 a1 x5_1 x6_1 (wrap64 (x7_1 + 1))) else (if x5_1.length < 8796093022208 then (wigeonref01_put.l0 kj3 l0 a1 (x5_1 ++ [rdOf ByteArray.empty l0 x7_1]) x6_1 (wrap64 (x7_1 + 1))) else (none))) else (none)) else (none)) = some r := by rw [if_neg (show ¬ (false = true) by decide)] at H; exact H
              clear H
              have H := H1
              clear H1
              by_cases c16 : 0 ≤ x7_1
              · rw [if_pos c16] at H
                have c16b0 : decide (0 ≤ x7_1) = true := decide_eq_true c16
                clear c16
                by_cases c17 : x7_1 < (l0.length : Int)
                · rw [if_pos c17] at H
                  have c17b0 : decide (x7_1 < (l0.length : Int)) = true := decide_eq_true c17
                  clear c17
                  by_cases c18 : (rdOf ByteArray.empty l0 x7_1).toList = a1.toList
                  · rw [if_pos c18] at H
                    have c18b0 : ((rdOf ByteArray.empty l0 x7_1).toList == a1.toList) = true := beq_iff_eq.mpr c18
                    have c18b1 : ((rdOf ByteArray.empty l0 x7_1).toList != a1.toList) = false := bne_eq_false_iff_eq.mpr c18
                    clear c18
                    have H' := Aside0.mk H
                    clear H
                    have p580 : 0 ≤ (x7_1 : Int) := of_decide_eq_true (by first | (with_reducible assumption) | assumption)
                    have q580 : x7_1 < (l0.length : Int) := of_decide_eq_true (by first | (with_reducible assumption) | assumption)
                    obtain ⟨ad580, e580, hx580_0⟩ := Kd.at_string HR0.out x7_1 p580 q580
                    cases e580
                    replace hx580_0 := (HB.out.cell (World.block_lt_of_cell? w _ hx580_0)).trans hx580_0
                    replace p580 := eq_true p580
                    replace q580 := eq_true q580
                    go_wp2
                    go_roundg kj3
                    case measure => have := HK1.out; have := HJ3.out; omega
                    case rel => exact ⟨(x5_1), (x6_1), (wrap64 (x7_1 + 1)), (by first | rfl | (simp; done) | (simp [*]; done)), (by first | rfl | (simp; done) | (simp [*]; done)), H', ⟨by have := HK1.out; have := HJ3.out; omega⟩, ⟨by (with_reducible repeat (first | apply Kd.R_alloc | apply Kd.R_drewN | apply Kd.R_drew)); exact HO_5.out⟩, ⟨by repeat (first | (with_reducible first | exact HB.out | apply below_alloc | apply pw_below_drewN | apply below_drew1) | exact HB.out)⟩⟩
                  · rw [if_neg c18] at H
                    have c18b0 : ((rdOf ByteArray.empty l0 x7_1).toList == a1.toList) = false := beq_eq_false_iff_ne.mpr c18
                    have c18b1 : ((rdOf ByteArray.empty l0 x7_1).toList != a1.toList) = true := bne_iff_ne.mpr c18
                    by_cases c19 : x5_1.length < 8796093022208
                    · rw [if_pos c19] at H
                      have LMc19 := Aside0.mk c19
                      clear c19
                      obtain ⟨y582, hy582⟩ : ∃ y_ : List ByteArray, y_ = (x5_1 ++ [rdOf ByteArray.empty l0 x7_1]) := ⟨_, rfl⟩
                      replace H : (wigeonref01_put.l0 kj3 l0 a1 y582 x6_1 (wrap64 (x7_1 + 1))) = some r := by first | (rw [hy582]; with_reducible exact H) | (have H2_ := (Option.bind_some _ _).symm.trans H; rw [hy582]; with_reducible exact H2_) | (have H2_ := (Option.bind_some _ _).symm.trans H; with_reducible exact H2_) | with_reducible exact H | (rw [hy582]; exact H) | exact H
                      have Ny582 := Aside0.mk hy582
                      clear hy582
                      have H' := Aside0.mk H
                      clear H
                      have p580 : 0 ≤ (x7_1 : Int) := of_decide_eq_true (by first | (with_reducible assumption) | assumption)
                      have q580 : x7_1 < (l0.length : Int) := of_decide_eq_true (by first | (with_reducible assumption) | assumption)
                      obtain ⟨ad580, e580, hx580_0⟩ := Kd.at_string HR0.out x7_1 p580 q580
                      cases e580
                      replace hx580_0 := (HB.out.cell (World.block_lt_of_cell? w _ hx580_0)).trans hx580_0
                      replace p580 := eq_true p580
                      replace q580 := eq_true q580
                      have p581 : 0 ≤ (x7_1 : Int) := of_decide_eq_true (by first | (with_reducible assumption) | assumption)
                      have q581 : x7_1 < (l0.length : Int) := of_decide_eq_true (by first | (with_reducible assumption) | assumption)
                      obtain ⟨ad581, e581, hx581_0⟩ := Kd.at_string HR0.out x7_1 p581 q581
                      obtain rfl : ad580 = ad581 := (by injection e581)
                      replace hx581_0 := (HB.out.cell (World.block_lt_of_cell? w _ hx581_0)).trans hx581_0
                      replace p581 := eq_true p581
                      replace q581 := eq_true q581
                      go_wp2_with (first | ((with_reducible refine gate_builtin (b := .append) (xs := #[.tmp 34, .tmp 39]) rfl ?_); at_builtin; refine Kd.R_append Kd.string (w0 := w) w.heap.size rfl (.tmp 34) (.tmp 39) 54 9 (.string ⟨#[]⟩) 16 rfl Try.underlying54 info9 rfl (by decide) (by omega) u5 x5_1 (rdOf ByteArray.empty l0 x7_1) [.string (rdOf ByteArray.empty l0 x7_1)] (fun _ => True) (fun _ => False) rfl rfl ?aP (fun _ hk => hk.elim) ?aF ?aO ?aB ?aS ?aL ?_; (case aP => exact rfl); (case aB => exact (by repeat (first | (with_reducible first | exact HB.out | apply below_alloc | apply pw_below_drewN | apply below_drew1) | exact HB.out))); (case aF => exact (fun _ _ => trivial)); (case aO => exact (by (with_reducible repeat (first | apply Kd.R_alloc | apply Kd.R_drewN | apply Kd.R_drew)); exact HO_5.out)); (case aS => exact (below_size (by repeat (first | (with_reducible first | exact HB.out | apply below_alloc | apply pw_below_drewN | apply below_drew1) | exact HB.out)))); (case aL => have := LMc19.out; omega); intro v583 w20 ho hb hg hat; rw [← Ny582.out] at ho; have n0_ := Aside0.mk (hb); have n1_ := Aside0.mk (ho); clear HB; clear HO_5; have HB := n0_; have HO584 := n1_; clear n0_ n1_; clear ho hb hg hat))
                      go_roundg kj3
                      case measure => have := HK1.out; have := HJ3.out; omega
                      case rel => exact ⟨(y582), (x6_1), (wrap64 (x7_1 + 1)), (by first | rfl | (simp; done) | (simp [*]; done)), (by first | rfl | (simp; done) | (simp [*]; done)), H', ⟨by have := HK1.out; have := HJ3.out; omega⟩, ⟨by (with_reducible repeat (first | apply Kd.R_alloc | apply Kd.R_drewN | apply Kd.R_drew)); exact HO584.out⟩, ⟨by repeat (first | (with_reducible first | exact HB.out | apply below_alloc | apply pw_below_drewN | apply below_drew1) | exact HB.out)⟩⟩
                    · rw [if_neg c19] at H
                      exact absurd H (by simp)
                · rw [if_neg c17] at H
                  exact absurd H (by simp)
              · rw [if_neg c16] at H
                exact absurd H (by simp)
      · rw [if_neg c3] at H
        have c3b0 : decide (x7_1 < (l0.length : Int)) = false := decide_eq_false c3
        clear c3
        by_cases c21 : x6_1 = true
        · subst c21
          have H1 : (some x5_1) = some r := by rw [if_pos rfl] at H; exact H
          clear H
          have H := H1
          clear H1
          obtain rfl := Option.some.inj H
          go_wp2
          go_ret
          exact ⟨_, by first | rfl | (simp [errW_none, errW_some] <;> rfl) | (simp [*, errW_none, errW_some] <;> rfl), by (with_reducible repeat (first | apply Kd.R_alloc | apply Kd.R_drewN | apply Kd.R_drew)); exact HO_5.out, by repeat (first | (with_reducible first | exact HB.out | apply below_alloc | apply pw_below_drewN | apply below_drew1) | exact HB.out)⟩
        · replace c21 := Bool.eq_false_iff.mpr c21
          subst c21
          have H1 : (if x5_1.length < 8796093022208 then (some (x5_1 ++ [a1])) else (none)) = some r := by rw [if_neg (show ¬ (false = true) by decide)] at H; exact H
          clear H
          have H := H1
          clear H1
          by_cases c22 : x5_1.length < 8796093022208
          · rw [if_pos c22] at H
            have LMc22 := Aside0.mk c22
            clear c22
            obtain ⟨y568, hy568⟩ : ∃ y_ : List ByteArray, y_ = (x5_1 ++ [a1]) := ⟨_, rfl⟩
            replace H : (some y568) = some r := by first | (rw [hy568]; with_reducible exact H) | (have H2_ := (Option.bind_some _ _).symm.trans H; rw [hy568]; with_reducible exact H2_) | (have H2_ := (Option.bind_some _ _).symm.trans H; with_reducible exact H2_) | with_reducible exact H | (rw [hy568]; exact H) | exact H
            have Ny568 := Aside0.mk hy568
            clear hy568
            obtain rfl := Option.some.inj H
            go_wp2_with (first | ((with_reducible refine gate_builtin (b := .append) (xs := #[.tmp 43, .tmp 45]) rfl ?_); at_builtin; refine Kd.R_append Kd.string (w0 := w) w.heap.size rfl (.tmp 43) (.tmp 45) 54 9 (.string ⟨#[]⟩) 16 rfl Try.underlying54 info9 rfl (by decide) (by omega) u5 x5_1 a1 [.string a1] (fun _ => True) (fun _ => False) rfl rfl ?aP (fun _ hk => hk.elim) ?aF ?aO ?aB ?aS ?aL ?_; (case aP => exact rfl); (case aB => exact (by repeat (first | (with_reducible first | exact HB.out | apply below_alloc | apply pw_below_drewN | apply below_drew1) | exact HB.out))); (case aF => exact (fun _ _ => trivial)); (case aO => exact (by (with_reducible repeat (first | apply Kd.R_alloc | apply Kd.R_drewN | apply Kd.R_drew)); exact HO_5.out)); (case aS => exact (below_size (by repeat (first | (with_reducible first | exact HB.out | apply below_alloc | apply pw_below_drewN | apply below_drew1) | exact HB.out)))); (case aL => have := LMc22.out; omega); intro v569 w23 ho hb hg hat; rw [← Ny568.out] at ho; have n0_ := Aside0.mk (hb); have n1_ := Aside0.mk (ho); clear HB; clear HO_5; have HB := n0_; have HO570 := n1_; clear n0_ n1_; clear ho hb hg hat))
            go_ret
            exact ⟨_, by first | rfl | (simp [errW_none, errW_some] <;> rfl) | (simp [*, errW_none, errW_some] <;> rfl), by (with_reducible repeat (first | apply Kd.R_alloc | apply Kd.R_drewN | apply Kd.R_drew)); exact HO570.out, by repeat (first | (with_reducible first | exact HB.out | apply below_alloc | apply pw_below_drewN | apply below_drew1) | exact HB.out)⟩
          · rw [if_neg c22] at H
            exact absurd H (by simp)

end Go.Proofs.Ytlbhighbhchdmaa.Q
