/- Winds that are apart: the program's test and the document's one say the same. For all valid pipes and all lists of winds. -/
import Derived.Test.YthihlapmkcelpaaDoorQx0
import Derived.Test.YthihlapmkcelpaaDoorQx5
import Derived.Test.YthihlapmkcelpaaDoorQx8
import Derived.Test.YthihlapmkcelpaaDoorQx19
import Derived.Test.YthihlapmkcelpaaDoorQx20
import Derived.Test.YthihlapmkcelpaaDoorLibQ
import Derived.Test.YthihlapmkcelpaaDoorLibR
namespace Go.Proofs.YthihlapmkcelpaaDoor.Pure
open Go.RowKit Go.Proofs.YthihlapmkcelpaaDoor.Q Go.Proofs.YthihlapmkcelpaaDoorW.PrintWords Go.Proofs.YthihlapmkcelpaaDoorW.PrintLast Go.Proofs.YthihlapmkcelpaaDoorW.PrintMore

/-- Whether the pipe of a place can be worked at the wind of a place. -/
def onW (l : List S33) (ch : List Int) (i k : Nat) : Bool := inA (atA l i) (rd ch (k : Int)).toNat
def apartP (l : List S33) (ch : List Int) : Prop := ∀ j, j < ch.length → ∀ k, k < j → ∀ i, i < l.length → ¬ (onW l ch i j = true ∧ onW l ch i k = true)
theorem pipeAt_eq (l : List S33) (i p : Nat) : pipeAt l i p = inA (atA l i) p := by
  unfold pipeAt
  rw [rdA]
  rfl
theorem who_bit (l : List S33) (n p i : Nat) : (whoTo l n p).testBit i = (decide (i < n) && inA (atA l i) p) := by
  unfold whoTo
  rw [maskN_testBit, pipeAt_eq]
theorem used_bit (l : List S33) (ch : List Int) (n i : Nat) : (usedTo l ch n).testBit i = true ↔ i < l.length ∧ ∃ k, k < n ∧ onW l ch i k = true := by
  induction n with
  | zero =>
    constructor
    · intro h; exact absurd h (by show ¬ ((0 : Nat).testBit i = true); simp)
    · rintro ⟨_, k, hk, _⟩; omega
  | succ n ih =>
    show (usedTo l ch n ||| whoTo l l.length (rd ch (n : Int)).toNat).testBit i = true ↔ _
    rw [Nat.testBit_or, Bool.or_eq_true, ih, who_bit, Bool.and_eq_true, decide_eq_true_eq]
    constructor
    · rintro (⟨h1, k, hk, h2⟩ | ⟨h1, h2⟩)
      · exact ⟨h1, k, by omega, h2⟩
      · exact ⟨h1, n, by omega, h2⟩
    · rintro ⟨h1, k, hk, h2⟩
      by_cases e : k = n
      · subst e; exact .inr ⟨h1, h2⟩
      · exact .inl ⟨h1, k, by omega, h2⟩
theorem and_zero {a b : Nat} : a &&& b = 0 ↔ ∀ i, ¬ (a.testBit i = true ∧ b.testBit i = true) := by
  constructor
  · intro h i hi
    have h2 := congrArg (fun x => x.testBit i) h
    simp only [Nat.testBit_and, Nat.zero_testBit, hi.1, hi.2] at h2
    exact absurd h2 (by decide)
  · intro h
    apply Nat.eq_of_testBit_eq
    intro i
    rw [Nat.testBit_and, Nat.zero_testBit]
    cases ha : a.testBit i
    · rfl
    · cases hb : b.testBit i
      · rfl
      · exact absurd ⟨ha, hb⟩ (h i)
theorem clash_iff (l : List S33) (ch : List Int) (j : Nat) : usedTo l ch j &&& whoTo l l.length (rd ch (j : Int)).toNat = 0 ↔ ∀ k, k < j → ∀ i, i < l.length → ¬ (onW l ch i j = true ∧ onW l ch i k = true) := by
  rw [and_zero]
  constructor
  · intro h k hk i hi hb
    refine h i ⟨(used_bit l ch j i).2 ⟨hi, k, hk, hb.2⟩, ?_⟩
    rw [who_bit, decide_eq_true hi, Bool.true_and]
    exact hb.1
  · intro h i hb
    obtain ⟨hi, k, hk, h2⟩ := (used_bit l ch j i).1 hb.1
    have h3 := hb.2
    rw [who_bit, decide_eq_true hi, Bool.true_and] at h3
    exact h k hk i hi ⟨h3, h2⟩
theorem apartFrom_eq (l : List S33) (ch : List Int) (d : Nat) : ∀ j, j + d = ch.length → (∀ j', j' < j → ∀ k, k < j' → ∀ i, i < l.length → ¬ (onW l ch i j' = true ∧ onW l ch i k = true)) → apartFrom l ch d j = if cd (apartP l ch) = true then 0 else 7 := by
  induction d with
  | zero =>
    intro j hj hp
    rw [if_pos (cd_t (show apartP l ch from fun j' hj' => hp j' (by omega)))]
    rfl
  | succ d ih =>
    intro j hj hp
    show (if _ then _ else _) = _
    by_cases h : usedTo l ch j &&& whoTo l l.length (rd ch (j : Int)).toNat = 0
    · rw [if_pos h]
      refine ih (j + 1) (by omega) fun j' hj' => ?_
      by_cases e : j' = j
      · subst e; exact (clash_iff l ch j').1 h
      · exact hp j' (by omega)
    · rw [if_neg h, cd_f (fun hh : apartP l ch => h ((clash_iff l ch j).2 (hh j (by omega))))]
      rfl
theorem apartFrom_all (l : List S33) (ch : List Int) : apartFrom l ch ch.length 0 = if cd (apartP l ch) = true then 0 else 7 := apartFrom_eq l ch ch.length 0 (by omega) fun j hj => by omega
/-- How many of the first winds a pipe can be worked at. -/
def cntTo (l : List S33) (ch : List Int) (i : Nat) : Nat → Nat
  | 0 => 0
  | k + 1 => cntTo l ch i k + (if onW l ch i k = true then 1 else 0)
theorem cnt_le (l : List S33) (ch : List Int) (i n : Nat) : cntTo l ch i n ≤ n := by
  induction n with
  | zero => exact Nat.le_refl _
  | succ n ih => unfold cntTo; split <;> omega
theorem cnt_zero (l : List S33) (ch : List Int) (i n : Nat) : cntTo l ch i n = 0 ↔ ∀ k, k < n → ¬ onW l ch i k = true := by
  induction n with
  | zero => exact ⟨fun _ k hk => by omega, fun _ => rfl⟩
  | succ n ih =>
    unfold cntTo
    constructor
    · intro h k hk
      by_cases hb : onW l ch i n = true
      · rw [if_pos hb] at h; omega
      · rw [if_neg hb] at h
        by_cases e : k = n
        · subst e; exact hb
        · exact ih.1 h k (by omega)
    · intro h
      rw [if_neg (h n (by omega)), ih.2 fun k hk => h k (by omega)]
theorem cnt_one (l : List S33) (ch : List Int) (i n : Nat) : cntTo l ch i n ≤ 1 ↔ ∀ j, j < n → ∀ k, k < j → ¬ (onW l ch i j = true ∧ onW l ch i k = true) := by
  induction n with
  | zero => exact ⟨fun _ j hj => by omega, fun _ => by show 0 ≤ 1; omega⟩
  | succ n ih =>
    unfold cntTo
    by_cases hb : onW l ch i n = true
    · rw [if_pos hb]
      constructor
      · intro h j hj k hk hp
        have h0 := (cnt_zero l ch i n).1 (by omega)
        by_cases e : j = n
        · subst e; exact h0 k hk hp.2
        · exact h0 j (by omega) hp.1
      · intro h
        rw [(cnt_zero l ch i n).2 fun k hk hp => h n (by omega) k hk ⟨hb, hp⟩]
        omega
    · rw [if_neg hb, Nat.add_zero, ih]
      constructor
      · intro h j hj k hk hp
        by_cases e : j = n
        · subst e; exact hb hp.1
        · exact h j (by omega) k hk hp
      · intro h j hj
        exact h j (by omega)
/-- Winds that are points. -/
def PointsIn (ch : List Int) : Prop := ∀ k : Nat, k < ch.length → 0 ≤ rd ch (k : Int) ∧ rd ch (k : Int) < 32
theorem ref_has_on {l : List S33} (h : PipesOk l) {ch : List Int} (hp : PointsIn ch) {i k : Nat} (hi : i < l.length) (hk : k < ch.length) : wigeonref03_has.f ((rd_T33 l (i : Int)).f0) ((rd_T33 l (i : Int)).f1) (rd ch (k : Int)) = some (onW l ch i k) := by
  rw [rdA]
  obtain ⟨h1, h2⟩ := hp k hk
  have hh := has_at (h.at hi) (p := (rd ch (k : Int)).toNat) (by omega)
  rw [show (((rd ch (k : Int)).toNat : Nat) : Int) = rd ch (k : Int) by omega] at hh
  exact hh
theorem ref_apart_loops (l : List S33) (h : PipesOk l) (ch : List Int) (hc : ch.length ≤ 1000) (hp : PointsIn ch) (d : Nat) : ∀ i : Nat, i + d = l.length → (∀ i', i' < i → cntTo l ch i' ch.length ≤ 1) →
    Ev (fun k => wigeonref03_apart.l0 k l ch (i : Int)) (cd (apartP l ch)) := by
  have hlen := h.1
  have key : (∀ i, i < l.length → cntTo l ch i ch.length ≤ 1) → apartP l ch := fun hh j hj k hk i hi => (cnt_one l ch i ch.length).1 (hh i hi) j hj k hk
  induction d with
  | zero =>
    intro i hi hall
    refine Ev.step (fun k => by rw [wigeonref03_apart.l0]) ?_
    refine Ev.ifn (by omega) (Ev.val ?_)
    exact (cd_t (key fun i' hi' => hall i' (by omega))).symm
  | succ d ih =>
    intro i hi hall
    refine Ev.step (fun k => by rw [wigeonref03_apart.l0]) ?_
    refine Ev.ifp (by omega) ?_
    have inner : ∀ e : Nat, ∀ n : Nat, n + e = ch.length → Ev (fun k => wigeonref03_apart.l1 k l ch (i : Int) ((cntTo l ch i n : Nat) : Int) (n : Int)) (cd (apartP l ch)) := by
      intro e
      induction e with
      | zero =>
        intro n hn
        refine Ev.step (fun k => by rw [wigeonref03_apart.l1]) ?_
        refine Ev.ifn (by omega) ?_
        obtain rfl : n = ch.length := by omega
        by_cases h1 : cntTo l ch i ch.length ≤ 1
        · refine Ev.ifn (by omega) ?_
          rw [w64 (by omega) (by omega), show ((i : Int) + 1) = ((i + 1 : Nat) : Int) by omega]
          refine ih (i + 1) (by omega) fun i' hi' => ?_
          by_cases e : i' = i
          · subst e; exact h1
          · exact hall i' (by omega)
        · refine Ev.ifp (by omega) (Ev.val ?_)
          exact (cd_f (fun hh : apartP l ch => h1 ((cnt_one l ch i ch.length).2 fun j hj k hk => hh j hj k hk i (by omega)))).symm
      | succ e ihe =>
        intro n hn
        have hcl := cnt_le l ch i n
        refine Ev.step (fun k => by rw [wigeonref03_apart.l1]) ?_
        refine Ev.ifp (by omega) (Ev.ifp (by omega) (Ev.ifp (by omega) (Ev.ifp (by omega) (Ev.bindc (ref_has_on h hp (by omega) (by omega)) ?_))))
        rw [w64 (n := (n : Int) + 1) (by omega) (by omega), show ((n : Int) + 1) = ((n + 1 : Nat) : Int) by omega]
        by_cases hb : onW l ch i n = true
        · refine Ev.ifp hb ?_
          rw [w64 (by omega) (by omega), show (((cntTo l ch i n : Nat) : Int) + 1) = ((cntTo l ch i (n + 1) : Nat) : Int) by
            show _ = (((cntTo l ch i n + (if onW l ch i n = true then 1 else 0)) : Nat) : Int)
            rw [if_pos hb]; omega]
          exact ihe (n + 1) (by omega)
        · refine Ev.ifn hb ?_
          rw [show ((cntTo l ch i n : Nat) : Int) = ((cntTo l ch i (n + 1) : Nat) : Int) by
            show _ = (((cntTo l ch i n + (if onW l ch i n = true then 1 else 0)) : Nat) : Int)
            rw [if_neg hb]; omega]
          exact ihe (n + 1) (by omega)
    exact inner ch.length 0 (by omega)
theorem ref_apart_ev (l : List S33) (h : PipesOk l) (ch : List Int) (hc : ch.length ≤ 1000) (hp : PointsIn ch) : Ev (fun k => wigeonref03_apart.f k l ch) (cd (apartP l ch)) := ref_apart_loops l h ch hc hp l.length 0 (by omega) fun i hi => by omega
noncomputable def chkP (l : List S33) (ch : List Int) : Int := if pipesErr l = 0 then (if ascQ ch 32 = true then (if cd (apartP l ch) = true then 0 else 7) else 1) else pipesErr l
theorem workOk_at {l : List S33} (h : PipesOk l) : workOk l = true := by
  refine decide_eq_true ⟨h.1, fun i hi => ?_⟩
  rw [rdA]
  obtain ⟨h1, h2, _, _⟩ := okA_pos (h.at hi)
  exact ⟨h1, h2⟩
theorem asc_points {ch : List Int} (h : ascQ ch 32 = true) : PointsIn ch := fun k hk => ⟨(ascQ_at h k hk).1, (ascQ_at h k hk).2.1⟩
theorem check_ev (l : List S33) (ch : List Int) (hc : ch.length ≤ 1000) : Ev (fun k => wind_CheckApart.f k l ch) (chkP l ch) := by
  unfold wind_CheckApart.f chkP
  refine Ev.bind (pipes_ev l) ?_
  by_cases h0 : pipesErr l = 0
  · rw [if_pos h0]
    have h := pipes_ok h0
    refine Ev.ifp h0 (Ev.bind (asc_ev ch 32 hc (by omega)) ?_)
    by_cases ha : ascQ ch ((32 : Nat) : Int) = true
    · rw [if_pos (show ascQ ch 32 = true from ha)]
      have hp := asc_points ha
      refine Ev.ifp ha (Ev.ifp (workOk_at h) (Ev.ifp (decide_eq_true fun i hi => ⟨(hp i hi).1, by have := (hp i hi).2; omega⟩) (Ev.val ?_)))
      exact apartFrom_all l ch
    · rw [if_neg (show ¬ ascQ ch 32 = true from ha)]
      exact Ev.ifn ha (Ev.now _)
  · rw [if_neg h0]
    exact Ev.ifn h0 (Ev.now _)
theorem ref_check_ev (l : List S33) (ch : List Int) (hc : ch.length ≤ 1000) : Ev (fun k => wigeonref03_CheckApart.f k l ch) (chkP l ch) := by
  unfold wigeonref03_CheckApart.f chkP
  refine Ev.bind (ref_pipes_ev l) ?_
  by_cases h0 : pipesErr l = 0
  · rw [if_pos h0]
    have h := pipes_ok h0
    refine Ev.ifp h0 (Ev.bind (isList_ev ch 32 hc) ?_)
    by_cases ha : ascQ ch ((32 : Nat) : Int) = true
    · rw [if_pos (show ascQ ch 32 = true from ha)]
      refine Ev.ifp ha (Ev.bind (ref_apart_ev l h ch hc (asc_points ha)) ?_)
      by_cases hq : cd (apartP l ch) = true
      · refine Ev.ifp hq (Ev.val ?_)
        rw [if_pos hq]
      · refine Ev.ifn hq (Ev.val ?_)
        rw [if_neg hq]
    · rw [if_neg (show ¬ ascQ ch 32 = true from ha)]
      exact Ev.ifn ha (Ev.now _)
  · rw [if_neg h0]
    exact Ev.ifn h0 (Ev.now _)

end Go.Proofs.YthihlapmkcelpaaDoor.Pure
