/- Winds that are apart: the program's test and the document's one say the same. For all valid pipes and all lists of winds. -/
import Derived.Test.YthihlapmkcelpaaDoorQx0
import Derived.Test.YthihlapmkcelpaaDoorQx5
import Derived.Test.YthihlapmkcelpaaDoorQx19
import Derived.Test.YthihlapmkcelpaaDoorLibQ
import Derived.Test.YthihlapmkcelpaaDoorLibR
namespace Go.Proofs.YthihlapmkcelpaaDoor.Pure
open Go.RowKit Go.Proofs.YthihlapmkcelpaaDoor.Q Go.Proofs.YthihlapmkcelpaaDoorW.PrintWords Go.Proofs.YthihlapmkcelpaaDoorW.PrintLast Go.Proofs.YthihlapmkcelpaaDoorW.PrintMore

/-- Whether the pipe of a place can be worked at the wind of a place. -/
def onW (l : List S33) (ch : List Int) (i k : Nat) : Bool := inA (atA l i) (rd ch (k : Int)).toNat
def apartP (l : List S33) (ch : List Int) : Prop := ∀ j, j < ch.length → ∀ k, k < j → ∀ i, i < l.length → ¬ (onW l ch i j = true ∧ onW l ch i k = true)
theorem pipeAt_eq (l : List S33) (i p : Nat) : pipeAt l i p = inA (atA l i) p := by
  unfold pipeAt
  rw [rdA]
  rfl
theorem who_bit (l : List S33) (n p i : Nat) : (whoTo l n p).testBit i = (decide (i < n) && inA (atA l i) p) := by
  unfold whoTo
  rw [maskN_testBit, pipeAt_eq]
theorem used_bit (l : List S33) (ch : List Int) (n i : Nat) : (usedTo l ch n).testBit i = true ↔ i < l.length ∧ ∃ k, k < n ∧ onW l ch i k = true := by
  induction n with
  | zero =>
    constructor
    · intro h; exact absurd h (by show ¬ ((0 : Nat).testBit i = true); simp)
    · rintro ⟨_, k, hk, _⟩; omega
  | succ n ih =>
    show (usedTo l ch n ||| whoTo l l.length (rd ch (n : Int)).toNat).testBit i = true ↔ _
    rw [Nat.testBit_or, Bool.or_eq_true, ih, who_bit, Bool.and_eq_true, decide_eq_true_eq]
    constructor
    · rintro (⟨h1, k, hk, h2⟩ | ⟨h1, h2⟩)
      · exact ⟨h1, k, by omega, h2⟩
      · exact ⟨h1, n, by omega, h2⟩
    · rintro ⟨h1, k, hk, h2⟩
      by_cases e : k = n
      · subst e; exact .inr ⟨h1, h2⟩
      · exact .inl ⟨h1, k, by omega, h2⟩
theorem and_zero {a b : Nat} : a &&& b = 0 ↔ ∀ i, ¬ (a.testBit i = true ∧ b.testBit i = true) := by
  constructor
  · intro h i hi
    have h2 := congrArg (fun x => x.testBit i) h
    simp only [Nat.testBit_and, Nat.zero_testBit, hi.1, hi.2] at h2
    exact absurd h2 (by decide)
  · intro h
    apply Nat.eq_of_testBit_eq
    intro i
    rw [Nat.testBit_and, Nat.zero_testBit]
    cases ha : a.testBit i
    · rfl
    · cases hb : b.testBit i
      · rfl
      · exact absurd ⟨ha, hb⟩ (h i)
theorem clash_iff (l : List S33) (ch : List Int) (j : Nat) : usedTo l ch j &&& whoTo l l.length (rd ch (j : Int)).toNat = 0 ↔ ∀ k, k < j → ∀ i, i < l.length → ¬ (onW l ch i j = true ∧ onW l ch i k = true) := by
  rw [and_zero]
  constructor
  · intro h k hk i hi hb
    refine h i ⟨(used_bit l ch j i).2 ⟨hi, k, hk, hb.2⟩, ?_⟩
    rw [who_bit, decide_eq_true hi, Bool.true_and]
    exact hb.1
  · intro h i hb
    obtain ⟨hi, k, hk, h2⟩ := (used_bit l ch j i).1 hb.1
    have h3 := hb.2
    rw [who_bit, decide_eq_true hi, Bool.true_and] at h3
    exact h k hk i hi ⟨h3, h2⟩
theorem apartFrom_eq (l : List S33) (ch : List Int) (d : Nat) : ∀ j, j + d = ch.length → (∀ j', j' < j → ∀ k, k < j' → ∀ i, i < l.length → ¬ (onW l ch i j' = true ∧ onW l ch i k = true)) → apartFrom l ch d j = if cd (apartP l ch) = true then 0 else 7 := by
  induction d with
  | zero =>
    intro j hj hp
    rw [if_pos (cd_t (show apartP l ch from fun j' hj' => hp j' (by omega)))]
    rfl
  | succ d ih =>
    intro j hj hp
    show (if _ then _ else _) = _
    by_cases h : usedTo l ch j &&& whoTo l l.length (rd ch (j : Int)).toNat = 0
    · rw [if_pos h]
      refine ih (j + 1) (by omega) fun j' hj' => ?_
      by_cases e : j' = j
      · subst e; exact (clash_iff l ch j').1 h
      · exact hp j' (by omega)
    · rw [if_neg h, cd_f (fun hh : apartP l ch => h ((clash_iff l ch j).2 (hh j (by omega))))]
      rfl
theorem apartFrom_all (l : List S33) (ch : List Int) : apartFrom l ch ch.length 0 = if cd (apartP l ch) = true then 0 else 7 := apartFrom_eq l ch ch.length 0 (by omega) fun j hj => by omega
/-- Winds that are points. -/
def PointsIn (ch : List Int) : Prop := ∀ k : Nat, k < ch.length → 0 ≤ rd ch (k : Int) ∧ rd ch (k : Int) < 32
noncomputable def chkP (l : List S33) (ch : List Int) : Int := if pipesErr l = 0 then (if ascQ ch 32 = true then (if cd (apartP l ch) = true then 0 else 7) else 1) else pipesErr l
theorem workOk_at {l : List S33} (h : PipesOk l) : workOk l = true := by
  refine decide_eq_true ⟨h.1, fun i hi => ?_⟩
  rw [rdA]
  obtain ⟨h1, h2, _, _⟩ := okA_pos (h.at hi)
  exact ⟨h1, h2⟩
theorem asc_points {ch : List Int} (h : ascQ ch 32 = true) : PointsIn ch := fun k hk => ⟨(ascQ_at h k hk).1, (ascQ_at h k hk).2.1⟩
theorem check_ev (l : List S33) (ch : List Int) (hc : ch.length ≤ 1000) : Ev (fun k => wind_CheckApart.f k l ch) (chkP l ch) := by
  unfold wind_CheckApart.f chkP
  refine Ev.bind (pipes_ev l) ?_
  by_cases h0 : pipesErr l = 0
  · rw [if_pos h0]
    have h := pipes_ok h0
    refine Ev.ifp h0 (Ev.bind (asc_ev ch 32 hc (by omega)) ?_)
    by_cases ha : ascQ ch ((32 : Nat) : Int) = true
    · rw [if_pos (show ascQ ch 32 = true from ha)]
      have hp := asc_points ha
      refine Ev.ifp ha (Ev.ifp (workOk_at h) (Ev.ifp (decide_eq_true fun i hi => ⟨(hp i hi).1, by have := (hp i hi).2; omega⟩) (Ev.val ?_)))
      exact apartFrom_all l ch
    · rw [if_neg (show ¬ ascQ ch 32 = true from ha)]
      exact Ev.ifn ha (Ev.now _)
  · rw [if_neg h0]
    exact Ev.ifn h0 (Ev.now _)
end Go.Proofs.YthihlapmkcelpaaDoor.Pure
