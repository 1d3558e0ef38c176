import Derived.Test.YtjphklemnhgkiaaDoorQx11
import Derived.Test.YtjphklemnhgkiaaDoorQx17
import Derived.Test.YtjphklemnhgkiaaDoorQx26
import Derived.Test.YtjphklemnhgkiaaDoorQx27
import Derived.Test.YtjphklemnhgkiaaDoorQx28
import Derived.Test.YtjphklemnhgkiaaDoorQx29
import Derived.Test.YtjphklemnhgkiaaDoorLibC
namespace Go.Proofs.YtjphklemnhgkiaaDoor.Pure
open Go.RowKit Go.Proofs.YtjphklemnhgkiaaDoor.Q Go.Proofs.YtjphklemnhgkiaaDoorW.PrintWords Go.Proofs.YtjphklemnhgkiaaDoorW.PrintLast
set_option linter.unusedVariables false

/-! The reference: valid purses and pays, excesses, the core. -/
theorem rplayers_ev (n : Nat) : Ev (fun k => wigeonref08_players.f k (n : Int)) (if okN n = true then (pn n : Int) else -1) := by
  unfold wigeonref08_players.f
  have hs : ∀ i : Fin 6, 1 ≤ i.val → shl .i64 1 (IntKind.u64.wrap (i.val : Int)) = ((2 ^ i.val : Nat) : Int) ∧ 0 ≤ IntKind.u64.wrap (i.val : Int) ∧ wrap64 ((i.val : Int) + 1) = ((i.val + 1 : Nat) : Int) := by decide +kernel
  have key : ∀ m i : Nat, i + m = 6 → 1 ≤ i → (∀ j, 1 ≤ j → j < i → n ≠ 2 ^ j) → Ev (fun k => wigeonref08_players.l0 k (n : Int) (i : Int)) (if okN n = true then (pn n : Int) else -1) := by
    intro m
    induction m with
    | zero =>
      intro i hi _ hno
      refine Ev.step (fun k => by rw [wigeonref08_players.l0]) (Ev.ifn (by omega) (Ev.val ?_))
      have h1 := hno 1 (by omega) (by omega)
      have h2 := hno 2 (by omega) (by omega)
      have h3 := hno 3 (by omega) (by omega)
      have h4 := hno 4 (by omega) (by omega)
      have h5 := hno 5 (by omega) (by omega)
      rw [if_neg]
      intro h
      unfold okN at h
      simp only [Bool.or_eq_true, beq_iff_eq] at h
      rcases h with (((h | h) | h) | h) | h <;> subst h <;> simp at h1 h2 h3 h4 h5
    | succ m ih =>
      intro i hi h1 hno
      obtain ⟨e1, e2, e3⟩ := hs ⟨i, by omega⟩ h1
      refine Ev.step (fun k => by rw [wigeonref08_players.l0]) (Ev.ifp (by omega) (Ev.ifp e2 ?_))
      rw [e1, e3]
      by_cases hn : n = 2 ^ i
      · refine Ev.ifp (by rw [hn]) (Ev.val ?_)
        have hd : ∀ j : Fin 6, 1 ≤ j.val → okN (2 ^ j.val) = true ∧ pn (2 ^ j.val) = j.val := by decide +kernel
        obtain ⟨d1, d2⟩ := hd ⟨i, by omega⟩ h1
        rw [hn, if_pos d1]
        exact congrArg (fun x : Nat => (x : Int)) d2.symm
      · refine Ev.ifn (fun h => hn (Int.ofNat.inj h)) (ih (i + 1) (by omega) (by omega) (fun j hj hl => ?_))
        by_cases e : j = i
        · rw [e]; exact hn
        · exact hno j hj (by omega)
  exact key 5 1 (by omega) (by omega) (fun j h1 h2 => by omega)
theorem rlimited_ev (l : List Int) (m : Int) (hm : 0 ≤ m) (hm2 : m < 1000000000) (hl : l.length < 1000000000000000000) : Ev (fun k => wigeonref08_limited.f k l m) (!(l.any (outW (-m) m))) := by
  unfold wigeonref08_limited.f
  have key : ∀ q j, j + q = l.length → Ev (fun k => wigeonref08_limited.l0 k l m (j : Int)) (!((l.drop j).any (outW (-m) m))) := by
    intro q
    induction q with
    | zero =>
      intro j hj
      refine Ev.step (fun k => by rw [wigeonref08_limited.l0]) (Ev.ifn (by omega) (Ev.val ?_))
      rw [show j = l.length by omega, List.drop_length]
      rfl
    | succ q ih =>
      intro j hj
      have hjl : j < l.length := by omega
      refine Ev.step (fun k => by rw [wigeonref08_limited.l0]) (Ev.ifp (by omega) (Ev.ifp (by omega) ?_))
      rw [rd_nat, w64 (a := -m) (by omega) (by omega), w64s (by omega), List.getD_eq_getElem?_getD, List.getElem?_eq_getElem hjl, List.drop_eq_getElem_cons hjl, List.any_cons]
      show Ev (fun k => (wigeonref08_within.f l[j] (-m) m).bind _) _
      unfold wigeonref08_within.f outW
      by_cases h1 : l[j] ≥ -m
      · rw [if_pos h1]
        by_cases h2 : l[j] ≤ m
        · refine Ev.bindc rfl (Ev.ifp (decide_eq_true h2) ?_)
          rw [decide_eq_false (show ¬ l[j] < -m by omega), decide_eq_false (show ¬ l[j] > m by omega), Bool.false_or, Bool.false_or]
          exact ih (j + 1) (by omega)
        · refine Ev.bindc rfl (Ev.ifn (fun q => h2 (of_decide_eq_true q)) (Ev.val ?_))
          rw [decide_eq_true (show l[j] > m by omega), Bool.or_true, Bool.true_or]
          rfl
      · rw [if_neg h1]
        refine Ev.bindc rfl (Ev.ifn (by decide) (Ev.val ?_))
        rw [decide_eq_true (show l[j] < -m by omega), Bool.true_or, Bool.true_or]
        rfl
  exact key l.length 0 (by omega)
theorem rValidate_ev (v : List Int) (hn : v.length < 1000000000000000000) : Ev (fun k => wigeonref08_Validate.f k v) (if okV v = true then 0 else 1) := by
  unfold wigeonref08_Validate.f okV
  refine Ev.bind (rplayers_ev v.length) ?_
  cases hc : okN v.length with
  | false =>
    simp only [Bool.false_eq_true, if_false, Bool.false_and]
    exact Ev.ifp (by decide) (Ev.now _)
  | true =>
    have hl := okN_le hc
    rw [if_pos rfl, Bool.true_and]
    refine Ev.ifn (by omega) (Ev.bind (rlimited_ev v 1000 (by decide) (by decide) hn) ?_)
    rw [show (-1000 : Int) = -(1000) from rfl]
    cases ha : v.any (outW (-(1000)) 1000) with
    | true =>
      simp only [Bool.not_true, Bool.and_false, Bool.false_eq_true, if_false]
      exact Ev.now _
    | false =>
      rw [Bool.not_false, Bool.and_true]
      refine Ev.ifp rfl (Ev.ifp (by omega) ?_)
      rw [show rd v 0 = v.getD 0 0 from rd_nat v 0]
      by_cases h0 : v.getD 0 0 = 0
      · rw [if_pos (beq_iff_eq.2 h0)]
        exact Ev.ifp h0 (Ev.now _)
      · rw [if_neg (fun q => h0 (beq_iff_eq.1 q))]
        exact Ev.ifn h0 (Ev.now _)
theorem rpaid_ev (v : List Int) (d : Int) (num : List Int) (hn : v.length < 1000000000000000000) (hm : num.length < 1000000000000000000) : Ev (fun k => wigeonref08_paid.f k v d num) (if okP v d num = true then 0 else 1) := by
  unfold wigeonref08_paid.f okP
  refine Ev.bind (rValidate_ev v hn) ?_
  cases hv : okV v with
  | false =>
    simp only [Bool.false_and, Bool.false_eq_true, if_false]
    exact Ev.ifn (by decide) (Ev.now _)
  | true =>
    rw [if_pos rfl, Bool.true_and]
    refine Ev.ifp rfl ?_
    unfold wigeonref08_within.f
    by_cases h1 : d ≥ 1
    · rw [if_pos h1, decide_eq_true (show (1 : Int) ≤ d from h1), Bool.true_and]
      by_cases h2 : d ≤ 1000
      · refine Ev.bindc rfl (Ev.ifp (decide_eq_true h2) (Ev.bind (rplayers_ev v.length) ?_))
        rw [decide_eq_true h2, Bool.true_and, if_pos (okV_n hv)]
        by_cases h3 : num.length = pn v.length
        · refine Ev.ifp (by omega) (Ev.bind (rlimited_ev num 10000000 (by decide) (by decide) hm) ?_)
          rw [h3, beq_self_eq_true, Bool.true_and]
          rw [show (-10000000 : Int) = -(10000000) from rfl]
          cases num.any (outW (-(10000000)) 10000000) with
          | true => exact Ev.ifn (by decide) (Ev.now _)
          | false => exact Ev.ifp rfl (Ev.now _)
        · refine Ev.ifn (by omega) ?_
          rw [beq_eq_false_iff_ne.2 h3, Bool.false_and, if_neg (by decide)]
          exact Ev.now _
      · refine Ev.bindc rfl (Ev.ifn (fun q => h2 (of_decide_eq_true q)) ?_)
        rw [decide_eq_false h2]
        simp only [Bool.false_and, Bool.false_eq_true, if_false]
        exact Ev.now _
    · rw [if_neg h1, decide_eq_false (show ¬ (1 : Int) ≤ d from h1)]
      simp only [Bool.false_and, Bool.false_eq_true, if_false]
      exact Ev.bindc rfl (Ev.ifn (by decide) (Ev.now _))
theorem has_eq (i g : Nat) (hi : i < 8) (hg : g < 32) : wigeonref08_has.f (g : Int) (i : Int) = some (g.testBit i) := by
  have h : ∀ (i : Fin 8) (g : Fin 32), wigeonref08_has.f (g.val : Int) (i.val : Int) = some (g.val.testBit i.val) := by decide +kernel
  exact h ⟨i, hi⟩ ⟨g, hg⟩
theorem gets_ev {v : List Int} {d : Int} {num : List Int} (H : Paid v d num) (g : Nat) (hg : g < v.length) : Ev (fun k => wigeonref08_gets.f k d num (g : Int)) (gs num g 0) := by
  unfold wigeonref08_gets.f
  have h32 := H.v32
  have h5 := H.n5
  have key : ∀ m j acc, j + m = num.length → -10000000 * (j : Int) ≤ acc → acc ≤ 10000000 * (j : Int) → Ev (fun k => wigeonref08_gets.l0 k (g : Int) acc (j : Int) d num) (acc + gs (num.drop j) g j) := by
    intro m
    induction m with
    | zero =>
      intro j acc hj _ _
      refine Ev.step (fun k => by rw [wigeonref08_gets.l0]) (Ev.ifn (by omega) (Ev.val ?_))
      rw [show j = num.length by omega, List.drop_length]
      show acc = acc + 0
      omega
    | succ m ih =>
      intro j acc hj h1 h2
      have hjl : j < num.length := by omega
      have hy : -10000000 ≤ num.getD j 0 ∧ num.getD j 0 ≤ 10000000 := by
        rw [List.getD_eq_getElem?_getD, List.getElem?_eq_getElem hjl]
        exact H.x _ (List.getElem_mem hjl)
      rw [gs_drop num g j hjl]
      refine Ev.step (fun k => by rw [wigeonref08_gets.l0]) (Ev.ifp (by omega) (Ev.bindc (has_eq j g (by omega) (by omega)) ?_))
      rw [w64s (by omega), rd_nat]
      by_cases hb : g.testBit j = true
      · refine Ev.ifp hb (Ev.ifp (by omega) ?_)
        rw [if_pos hb, w64 (by omega) (by omega), ← Int.add_assoc]
        exact ih (j + 1) (acc + num.getD j 0) (by omega) (by omega) (by omega)
      · refine Ev.ifn hb ?_
        rw [if_neg hb, Int.zero_add]
        exact ih (j + 1) acc (by omega) (by omega) (by omega)
  have := key num.length 0 0 (by omega) (by omega) (by omega)
  rw [Int.zero_add] at this
  exact this
theorem rcore_loop {v : List Int} {d : Int} {num : List Int} (H : Paid v d num) : ∀ m j, j + m = v.length → ∃ r, Ev (fun k => wigeonref08_CheckCore.l0 k v (j : Int) d num) r ∧ (r = 0 ∨ r = 7) ∧ (r = 0 ↔ Core v d num j) := by
  have h32 := H.v32
  have h2 := H.v2
  have hlast : wrap64 ((v.length : Int) - 1) = ((v.length - 1 : Nat) : Int) := by rw [w64 (by omega) (by omega)]; omega
  have hdv : ∀ g : Nat, wrap64 (d * rd v (g : Int)) = d * v.getD g 0 := fun g => by
    have := dv_bound H g
    rw [rd_nat, w64 (by omega) (by omega)]
  intro m
  induction m with
  | zero =>
    intro j hj
    have hg := gets_ev H (v.length - 1) (by omega)
    by_cases he : ex v d num (v.length - 1) = 0
    · refine ⟨0, Ev.step (fun k => by rw [wigeonref08_CheckCore.l0]) (Ev.ifn (by omega) ?_), .inl rfl, ⟨fun _ => ⟨fun g h1 h3 => by omega, he⟩, fun _ => rfl⟩⟩
      rw [hlast, hdv]
      unfold ex at he
      exact Ev.bind hg (Ev.ifp (by omega) (Ev.ifp (by omega) (Ev.ifp (by omega) (Ev.now _))))
    · refine ⟨7, Ev.step (fun k => by rw [wigeonref08_CheckCore.l0]) (Ev.ifn (by omega) ?_), .inr rfl, ⟨fun h => absurd h (by decide), fun h => absurd h.2 he⟩⟩
      rw [hlast, hdv]
      unfold ex at he
      exact Ev.bind hg (Ev.ifp (by omega) (Ev.ifp (by omega) (Ev.ifn (by omega) (Ev.now _))))
  | succ m ih =>
    intro j hj
    have hg := gets_ev H j (by omega)
    by_cases hp : ex v d num j > 0
    · refine ⟨7, Ev.step (fun k => by rw [wigeonref08_CheckCore.l0]) (Ev.ifp (by omega) (Ev.bind hg ?_)), .inr rfl, ⟨fun h => absurd h (by decide), fun h => ?_⟩⟩
      · refine Ev.ifp (by omega) (Ev.ifp ?_ (Ev.now _))
        rw [hdv]
        unfold ex at hp
        omega
      · have := h.1 j (Nat.le_refl _) (by omega)
        omega
    · obtain ⟨r, hr, h1, h3⟩ := ih (j + 1) (by omega)
      have hc : Core v d num (j + 1) ↔ Core v d num j := by
        unfold Core
        constructor
        · rintro ⟨a, b⟩
          refine ⟨fun g hg hgl => ?_, b⟩
          by_cases e : g = j
          · rw [e]; omega
          · exact a g (by omega) hgl
        · rintro ⟨a, b⟩
          exact ⟨fun g hg hgl => a g (by omega) hgl, b⟩
      refine ⟨r, Ev.step (fun k => by rw [wigeonref08_CheckCore.l0]) (Ev.ifp (by omega) (Ev.bind hg ?_)), h1, h3.trans hc⟩
      refine Ev.ifp (by omega) (Ev.ifn ?_ ?_)
      · rw [hdv]
        unfold ex at hp
        omega
      · rw [w64s (by omega)]
        exact hr
theorem rCheckCore_ev {v : List Int} {d : Int} {num : List Int} (H : okP v d num = true) : ∃ r, Ev (fun k => wigeonref08_CheckCore.f k v d num) r ∧ (r = 0 ∨ r = 7) ∧ (r = 0 ↔ Core v d num 0) := by
  have P := paid_of H
  obtain ⟨r, hr, h1, h2⟩ := rcore_loop P v.length 0 (by omega)
  refine ⟨r, ?_, h1, h2⟩
  unfold wigeonref08_CheckCore.f
  have h32 := P.v32
  have h5 := P.n5
  refine Ev.bind (rpaid_ev v d num (by omega) (by omega)) ?_
  rw [if_pos H]
  exact Ev.ifp rfl hr
theorem rCheckCore_bad {v : List Int} {d : Int} {num : List Int} (hn : v.length < 1000000000000000000) (hm : num.length < 1000000000000000000) (H : ¬ okP v d num = true) : Ev (fun k => wigeonref08_CheckCore.f k v d num) 1 := by
  unfold wigeonref08_CheckCore.f
  refine Ev.bind (rpaid_ev v d num hn hm) ?_
  rw [if_neg H]
  exact Ev.ifn (by decide) (Ev.now _)
theorem rExcess_loop {v : List Int} {d : Int} {num : List Int} (H : Paid v d num) : ∀ m (b j : Nat), j + m = v.length - 1 → b < v.length → Ev (fun k => wigeonref08_Excess.l0 k v (b : Int) (j : Int) d num) ((am v d num m b j : Int), ex v d num (am v d num m b j), 0) := by
  have h32 := H.v32
  have h2 := H.v2
  have hlast : wrap64 ((v.length : Int) - 1) = ((v.length - 1 : Nat) : Int) := by rw [w64 (by omega) (by omega)]; omega
  have hex : ∀ g : Nat, wrap64 (wrap64 (d * rd v (g : Int)) - gs num g 0) = ex v d num g := fun g => by
    have h1 := dv_bound H g
    have h3 := ex_bound H g
    unfold ex at h3
    rw [rd_nat, w64 (a := d * v.getD g 0) (by omega) (by omega), w64 (by omega) (by omega)]
    rfl
  intro m
  induction m with
  | zero =>
    intro b j hj hb
    refine Ev.step (fun k => by rw [wigeonref08_Excess.l0]) ?_
    rw [hlast]
    refine Ev.ifn (by omega) (Ev.ifp (by omega) (Ev.ifp (by omega) (Ev.bind (gets_ev H b hb) (Ev.val ?_))))
    rw [hex]
    rfl
  | succ m ih =>
    intro b j hj hb
    refine Ev.step (fun k => by rw [wigeonref08_Excess.l0]) ?_
    rw [hlast, w64s (by omega)]
    refine Ev.ifp (by omega) (Ev.ifp (by omega) (Ev.ifp (by omega) (Ev.bind (gets_ev H j (by omega)) (Ev.ifp (by omega) (Ev.ifp (by omega) (Ev.bind (gets_ev H b hb) ?_))))))
    rw [hex, hex]
    unfold am
    by_cases h : ex v d num j > ex v d num b
    · rw [if_pos h]
      exact Ev.ifp h (ih j (j + 1) (by omega) (by omega))
    · rw [if_neg h]
      exact Ev.ifn h (ih b (j + 1) (by omega) hb)
theorem rExcess_ev {v : List Int} {d : Int} {num : List Int} (H : okP v d num = true) : Ev (fun k => wigeonref08_Excess.f k v d num) (if v.length = 2 then (0, 0, 4) else ((worst v d num : Int), ex v d num (worst v d num), 0)) := by
  have P := paid_of H
  have h32 := P.v32
  have h2 := P.v2
  have h5 := P.n5
  unfold wigeonref08_Excess.f
  refine Ev.bind (rpaid_ev v d num (by omega) (by omega)) ?_
  rw [if_pos H]
  refine Ev.ifp rfl ?_
  by_cases hl : v.length = 2
  · rw [if_pos hl]
    exact Ev.ifp (by omega) (Ev.now _)
  · rw [if_neg hl]
    refine Ev.ifn (by omega) ?_
    exact rExcess_loop P (v.length - 3) 1 2 (by omega) (by omega)
theorem rExcess_bad {v : List Int} {d : Int} {num : List Int} (hn : v.length < 1000000000000000000) (hm : num.length < 1000000000000000000) (H : ¬ okP v d num = true) : Ev (fun k => wigeonref08_Excess.f k v d num) (0, 0, 1) := by
  unfold wigeonref08_Excess.f
  refine Ev.bind (rpaid_ev v d num hn hm) ?_
  rw [if_neg H]
  exact Ev.ifn (by decide) (Ev.now _)
end Go.Proofs.YtjphklemnhgkiaaDoor.Pure
