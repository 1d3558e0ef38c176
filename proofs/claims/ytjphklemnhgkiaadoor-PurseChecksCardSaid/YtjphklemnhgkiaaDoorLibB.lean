import Derived.Test.YtjphklemnhgkiaaDoorQx0
import Derived.Test.YtjphklemnhgkiaaDoorQx4
import Derived.Test.YtjphklemnhgkiaaDoorQx7
import Derived.Test.YtjphklemnhgkiaaDoorQx26
import Derived.Test.YtjphklemnhgkiaaDoorLibA
namespace Go.Proofs.YtjphklemnhgkiaaDoor.Pure
open Go.RowKit Go.Proofs.YtjphklemnhgkiaaDoor.Q Go.Proofs.YtjphklemnhgkiaaDoorW.PrintWords Go.Proofs.YtjphklemnhgkiaaDoorW.PrintLast
set_option linter.unusedVariables false

/-! Excesses of groups; the core. -/

/-- What holds of a valid purse and a valid pay. -/
structure Paid (v : List Int) (d : Int) (num : List Int) : Prop where
  v2 : 2 ≤ v.length
  v32 : v.length ≤ 32
  vv : ∀ g, -1000 ≤ v.getD g 0 ∧ v.getD g 0 ≤ 1000
  d1 : 1 ≤ d
  d2 : d ≤ 1000
  n : num.length = pn v.length
  n5 : num.length ≤ 5
  pow : v.length = 2 ^ num.length
  x : ∀ y ∈ num, -10000000 ≤ y ∧ y ≤ 10000000
  v0 : v.getD 0 0 = 0
theorem paid_of {v : List Int} {d : Int} {num : List Int} (h : okP v d num = true) : Paid v d num := by
  unfold okP at h
  simp only [Bool.and_eq_true, decide_eq_true_eq, beq_iff_eq, Bool.not_eq_true'] at h
  obtain ⟨⟨⟨⟨hv, h1⟩, h2⟩, h3⟩, h4⟩ := h
  have hn := okV_n hv
  have hl := okN_le hn
  have hp := pn_pow hn
  refine ⟨hl.1, hl.2, okV_val hv, h1, h2, h3, by omega, by rw [h3]; exact hp.1, fun y hy => ?_, ?_⟩
  · have := List.any_eq_false.1 h4 y hy
    unfold outW at this
    simp only [Bool.or_eq_true, decide_eq_true_eq, not_or] at this
    omega
  · unfold okV at hv
    simp only [Bool.and_eq_true, beq_iff_eq] at hv
    exact hv.1.2
theorem gl_snoc (num : List Int) (j : Nat) (h : j < num.length) : gl (num.take j) 0 ++ [(⟨(j : Int), num.getD j 0⟩ : S92)] = gl (num.take (j + 1)) 0 := by
  unfold gl
  rw [List.take_succ_eq_append_getElem h, List.zipIdx_append, List.map_append]
  congr 1
  rw [List.getD_eq_getElem?_getD, List.getElem?_eq_getElem h, List.length_take, Nat.min_eq_left (by omega)]
  simp
theorem gl_length (num : List Int) (i : Nat) : (gl num i).length = num.length := by simp [gl]
theorem gains_loop (num : List Int) (h5 : num.length ≤ 5) : ∀ m j, j + m = num.length → Ev (fun k => purse_gains.l0 k (gl (num.take j) 0) num (num.length : Int) (j : Int)) (gl num 0) := by
  intro m
  induction m with
  | zero =>
    intro j hj
    refine Ev.step (fun k => by rw [purse_gains.l0]) ?_
    refine Ev.ifn (by omega) (Ev.val ?_)
    rw [show j = num.length by omega, List.take_length]
  | succ m ih =>
    intro j hj
    refine Ev.step (fun k => by rw [purse_gains.l0]) ?_
    refine Ev.ifp (by omega) (Ev.ifp (by omega) (Ev.ifp (by omega) (Ev.ifp ?_ ?_)))
    · rw [gl_length, List.length_take]
      omega
    · rw [rd_nat, gl_snoc num j (by omega), w64s (by omega)]
      exact ih (j + 1) (by omega)
theorem gains_ev (d : Int) (num : List Int) (h5 : num.length ≤ 5) : Ev (fun k => purse_gains.f k d num) (gl num 0) := by
  unfold purse_gains.f
  exact gains_loop num h5 num.length 0 (by omega)
theorem gl_rd (num : List Int) (j : Nat) (h : j < num.length) : (rd_T92 (gl num 0) (j : Int)).f0 = (j : Int) ∧ (rd_T92 (gl num 0) (j : Int)).f1 = num.getD j 0 := by
  have e : rd_T92 (gl num 0) (j : Int) = (⟨(j : Int), num.getD j 0⟩ : S92) := by
    unfold rd_T92
    rw [Int.toNat_natCast, List.getD_eq_getElem?_getD]
    unfold gl
    rw [List.getElem?_map, List.getElem?_zipIdx, List.getD_eq_getElem?_getD, List.getElem?_eq_getElem h]
    simp
  rw [e]
  exact ⟨rfl, rfl⟩
theorem gs_drop (num : List Int) (g j : Nat) (h : j < num.length) : gs (num.drop j) g j = (if g.testBit j = true then num.getD j 0 else 0) + gs (num.drop (j + 1)) g (j + 1) := by
  rw [List.drop_eq_getElem_cons h, List.getD_eq_getElem?_getD, List.getElem?_eq_getElem h]
  rfl
theorem excess_loop (num : List Int) (h5 : num.length ≤ 5) (hx : ∀ y ∈ num, -10000000 ≤ y ∧ y ≤ 10000000) (g : Nat) (hg : g < 32) : ∀ m j acc, j + m = num.length → -1000000 - 10000000 * (j : Int) ≤ acc → acc ≤ 1000000 + 10000000 * (j : Int) →
    Ev (fun k => purse_excess.l0 k (g : Int) acc (gl num 0) (num.length : Int) (j : Int)) (acc - gs (num.drop j) g j) := by
  intro m
  induction m with
  | zero =>
    intro j acc hj _ _
    refine Ev.step (fun k => by rw [purse_excess.l0]) ?_
    refine Ev.ifn (by omega) (Ev.val ?_)
    rw [show j = num.length by omega, List.drop_length]
    show acc = acc - 0
    omega
  | succ m ih =>
    intro j acc hj h1 h2
    have hjl : j < num.length := by omega
    have hy : -10000000 ≤ num.getD j 0 ∧ num.getD j 0 ≤ 10000000 := by
      rw [List.getD_eq_getElem?_getD, List.getElem?_eq_getElem hjl]
      exact hx _ (List.getElem_mem hjl)
    rw [gs_drop num g j hjl]
    refine Ev.step (fun k => by rw [purse_excess.l0]) ?_
    refine Ev.ifp (by omega) (Ev.ifp (by omega) (Ev.ifp (by rw [gl_length]; omega) ?_))
    rw [(gl_rd num j hjl).1, (gl_rd num j hjl).2]
    refine Ev.bindc (in_eq j g (by omega) hg) ?_
    rw [w64s (by omega)]
    by_cases hb : g.testBit j = true
    · refine Ev.ifp hb ?_
      rw [if_pos hb, w64 (by omega) (by omega)]
      have := ih (j + 1) (acc - num.getD j 0) (by omega) (by omega) (by omega)
      rw [show acc - (num.getD j 0 + gs (num.drop (j + 1)) g (j + 1)) = acc - num.getD j 0 - gs (num.drop (j + 1)) g (j + 1) by omega]
      exact this
    · refine Ev.ifn hb ?_
      rw [if_neg hb, Int.zero_add]
      exact ih (j + 1) acc (by omega) (by omega) (by omega)
theorem dv_bound {v : List Int} {d : Int} {num : List Int} (H : Paid v d num) (g : Nat) : -1000000 ≤ d * v.getD g 0 ∧ d * v.getD g 0 ≤ 1000000 := by
  have h := H.vv g
  have h1 := H.d1
  have h2 := H.d2
  generalize v.getD g 0 = x at *
  constructor
  · calc (-1000000 : Int) = 1000 * (-1000) := by decide
      _ ≤ d * (-1000) := by omega
      _ ≤ d * x := Int.mul_le_mul_of_nonneg_left h.1 (by omega)
  · calc d * x ≤ d * 1000 := Int.mul_le_mul_of_nonneg_left h.2 (by omega)
      _ ≤ 1000000 := by omega
theorem excess_ev {v : List Int} {d : Int} {num : List Int} (H : Paid v d num) (g : Nat) (hg : g < v.length) : Ev (fun k => purse_excess.f k v d num (g : Int)) (ex v d num g) := by
  unfold purse_excess.f
  have hb := dv_bound H g
  have h32 := H.v32
  refine Ev.ifp (by omega) (Ev.ifp (by omega) (Ev.bind (gains_ev d num H.n5) ?_))
  rw [rd_nat, w64 (by omega) (by omega), gl_length]
  exact excess_loop num H.n5 H.x g (by omega) num.length 0 _ (by omega) (by omega) (by omega)
theorem ex_bound {v : List Int} {d : Int} {num : List Int} (H : Paid v d num) (g : Nat) : -51000000 ≤ ex v d num g ∧ ex v d num g ≤ 51000000 := by
  unfold ex
  have h1 := dv_bound H g
  have h2 := gs_bound num g 0 H.x
  have h3 := H.n5
  omega

/-- From the group j on, no group's excess is above 0, and all is given out. -/
def Core (v : List Int) (d : Int) (num : List Int) (j : Nat) : Prop := (∀ g, j ≤ g → g < v.length → ex v d num g ≤ 0) ∧ ex v d num (v.length - 1) = 0
theorem core_loop {v : List Int} {d : Int} {num : List Int} (H : Paid v d num) : ∀ m j, j + m = v.length → 1 ≤ m → ∃ r, Ev (fun k => purse_CheckCore.l0 k v (v.length : Int) (j : Int) d num) r ∧ (r = 0 ∨ r = 7) ∧ (r = 0 ↔ Core v d num j) := by
  have h32 := H.v32
  have h2 := H.v2
  have hlast : wrap64 ((v.length : Int) - 1) = ((v.length - 1 : Nat) : Int) := by rw [w64 (by omega) (by omega)]; omega
  intro m
  induction m with
  | zero => intro j hj h1; omega
  | succ m ih =>
    intro j hj _
    have he := excess_ev H j (by omega)
    by_cases hp : ex v d num j > 0
    · refine ⟨7, Ev.step (fun k => by rw [purse_CheckCore.l0]) (Ev.ifp (by omega) (Ev.bind he (Ev.ifp hp (Ev.now _)))), .inr rfl, ⟨fun h => absurd h (by decide), fun h => ?_⟩⟩
      have := h.1 j (Nat.le_refl _) (by omega)
      omega
    · by_cases hl : j = v.length - 1
      · by_cases hz : ex v d num j = 0
        · refine ⟨0, Ev.step (fun k => by rw [purse_CheckCore.l0]) (Ev.ifp (by omega) (Ev.bind he (Ev.ifn hp (Ev.ifp hz ?_)))), .inl rfl, ⟨fun _ => ⟨fun g h1 h2 => ?_, ?_⟩, fun _ => rfl⟩⟩
          · rw [w64s (by omega)]
            refine Ev.step (fun k => by rw [purse_CheckCore.l0]) (Ev.ifn (by omega) (Ev.now _))
          · have : g = j := by omega
            rw [this]; omega
          · rw [← hl]; exact hz
        · refine ⟨7, Ev.step (fun k => by rw [purse_CheckCore.l0]) (Ev.ifp (by omega) (Ev.bind he (Ev.ifn hp (Ev.ifn hz (Ev.ifp ?_ (Ev.now _)))))), .inr rfl, ⟨fun h => absurd h (by decide), fun h => absurd (hl ▸ h.2) hz⟩⟩
          rw [hlast, hl]
      · obtain ⟨r, hr, h1, h3⟩ := ih (j + 1) (by omega) (by omega)
        have hc : Core v d num (j + 1) ↔ Core v d num j := by
          unfold Core
          constructor
          · rintro ⟨a, b⟩
            refine ⟨fun g hg hgl => ?_, b⟩
            by_cases e : g = j
            · rw [e]; omega
            · exact a g (by omega) hgl
          · rintro ⟨a, b⟩
            exact ⟨fun g hg hgl => a g (by omega) hgl, b⟩
        have hw : wrap64 ((j : Int) + 1) = ((j + 1 : Nat) : Int) := w64s (by omega)
        refine ⟨r, Ev.step (fun k => by rw [purse_CheckCore.l0]) (Ev.ifp (by omega) (Ev.bind he (Ev.ifn hp ?_))), h1, h3.trans hc⟩
        rw [hw]
        by_cases hz : ex v d num j = 0
        · exact Ev.ifp hz hr
        · refine Ev.ifn hz (Ev.ifn ?_ hr)
          rw [hlast]
          omega
theorem CheckCore_ev {v : List Int} {d : Int} {num : List Int} (H : okP v d num = true) : ∃ r, Ev (fun k => purse_CheckCore.f k v d num) r ∧ (r = 0 ∨ r = 7) ∧ (r = 0 ↔ Core v d num 0) := by
  have P := paid_of H
  obtain ⟨r, hr, h1, h2⟩ := core_loop P v.length 0 (by omega) (by have := P.v2; omega)
  refine ⟨r, ?_, h1, h2⟩
  unfold purse_CheckCore.f
  have h32 := P.v32
  refine Ev.bindc (examine_eq v d num (by omega)) ?_
  rw [if_pos H]
  exact Ev.ifp rfl hr
theorem CheckCore_bad {v : List Int} {d : Int} {num : List Int} (hn : v.length < 1000000000000000000) (H : ¬ okP v d num = true) : Ev (fun k => purse_CheckCore.f k v d num) 1 := by
  unfold purse_CheckCore.f
  refine Ev.bindc (examine_eq v d num hn) ?_
  rw [if_neg H]
  exact Ev.ifn (by decide) (Ev.now _)
/-- The first group of those with the greatest excess. -/
def am (v : List Int) (d : Int) (num : List Int) : Nat → Nat → Nat → Nat
  | 0, b, _ => b
  | n + 1, b, j => am v d num n (if ex v d num j > ex v d num b then j else b) (j + 1)
theorem am_max (v : List Int) (d : Int) (num : List Int) : ∀ n b j, ex v d num b ≤ ex v d num (am v d num n b j) ∧ (∀ g, j ≤ g → g < j + n → ex v d num g ≤ ex v d num (am v d num n b j)) ∧ (am v d num n b j = b ∨ (j ≤ am v d num n b j ∧ am v d num n b j < j + n)) := by
  intro n
  induction n with
  | zero => intro b j; exact ⟨Int.le_refl _, fun g h1 h2 => by omega, .inl rfl⟩
  | succ n ih =>
    intro b j
    unfold am
    by_cases h : ex v d num j > ex v d num b
    · rw [if_pos h]
      obtain ⟨h1, h2, h3⟩ := ih j (j + 1)
      refine ⟨by omega, fun g hg hl => ?_, ?_⟩
      · by_cases e : g = j
        · rw [e]; exact h1
        · exact h2 g (by omega) (by omega)
      · rcases h3 with h3 | h3
        · right; rw [h3]; omega
        · right; omega
    · rw [if_neg h]
      obtain ⟨h1, h2, h3⟩ := ih b (j + 1)
      refine ⟨h1, fun g hg hl => ?_, ?_⟩
      · by_cases e : g = j
        · rw [e]; omega
        · exact h2 g (by omega) (by omega)
      · rcases h3 with h3 | h3
        · exact .inl h3
        · right; omega
theorem Excess_loop {v : List Int} {d : Int} {num : List Int} (H : Paid v d num) : ∀ m (b j : Nat), j + m = v.length - 1 → Ev (fun k => purse_Excess.l0 k v (b : Int) (ex v d num b) (j : Int) d num) ((am v d num m b j : Int), ex v d num (am v d num m b j), 0) := by
  have h32 := H.v32
  have h2 := H.v2
  have hlast : wrap64 ((v.length : Int) - 1) = ((v.length - 1 : Nat) : Int) := by rw [w64 (by omega) (by omega)]; omega
  intro m
  induction m with
  | zero =>
    intro b j hj
    refine Ev.step (fun k => by rw [purse_Excess.l0]) ?_
    rw [hlast]
    exact Ev.ifn (by omega) (Ev.now _)
  | succ m ih =>
    intro b j hj
    refine Ev.step (fun k => by rw [purse_Excess.l0]) ?_
    rw [hlast, w64s (by omega)]
    refine Ev.ifp (by omega) (Ev.bind (excess_ev H j (by omega)) ?_)
    unfold am
    by_cases h : ex v d num j > ex v d num b
    · rw [if_pos h]
      exact Ev.ifp h (ih j (j + 1) (by omega))
    · rw [if_neg h]
      exact Ev.ifn h (ih b (j + 1) (by omega))
/-- The group with the most reason to leave. -/
def worst (v : List Int) (d : Int) (num : List Int) : Nat := am v d num (v.length - 3) 1 2
theorem Excess_ev {v : List Int} {d : Int} {num : List Int} (H : okP v d num = true) : Ev (fun k => purse_Excess.f k v d num) (if v.length = 2 then (0, 0, 4) else ((worst v d num : Int), ex v d num (worst v d num), 0)) := by
  have P := paid_of H
  have h32 := P.v32
  have h2 := P.v2
  unfold purse_Excess.f
  refine Ev.bindc (examine_eq v d num (by omega)) ?_
  rw [if_pos H]
  refine Ev.ifp rfl ?_
  by_cases hl : v.length = 2
  · rw [if_pos hl]
    exact Ev.ifp (by omega) (Ev.now _)
  · rw [if_neg hl]
    refine Ev.ifn (by omega) (Ev.bind (excess_ev P 1 (by omega)) ?_)
    exact Excess_loop P (v.length - 3) 1 2 (by omega)
theorem Excess_bad {v : List Int} {d : Int} {num : List Int} (hn : v.length < 1000000000000000000) (H : ¬ okP v d num = true) : Ev (fun k => purse_Excess.f k v d num) (0, 0, 1) := by
  unfold purse_Excess.f
  refine Ev.bindc (examine_eq v d num hn) ?_
  rw [if_neg H]
  exact Ev.ifn (by decide) (Ev.now _)
end Go.Proofs.YtjphklemnhgkiaaDoor.Pure
