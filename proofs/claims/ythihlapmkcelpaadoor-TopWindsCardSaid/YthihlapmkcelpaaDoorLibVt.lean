/- The tables of winds that are apart: the program's lists and the document's numbers, over all sets of pipes. For all valid pipes. -/
import Derived.Test.YthihlapmkcelpaaDoorQx19
import Derived.Test.YthihlapmkcelpaaDoorLibUt
namespace Go.Proofs.YthihlapmkcelpaaDoor.Pure
open Go.RowKit Go.Proofs.YthihlapmkcelpaaDoor.Q Go.Proofs.YthihlapmkcelpaaDoorW.PrintWords Go.Proofs.YthihlapmkcelpaaDoorW.PrintLast Go.Proofs.YthihlapmkcelpaaDoorW.PrintMore

theorem xor_or {v m : Nat} (h : v &&& m = 0) : (v ||| m) ^^^ m = v := by
  apply Nat.eq_of_testBit_eq
  intro i
  have h2 := and_zero.1 h i
  rw [Nat.testBit_xor, Nat.testBit_or]
  cases ha : v.testBit i <;> cases hb : m.testBit i <;> simp_all
theorem or_xor {q m : Nat} (h : (q ^^^ m) &&& m = 0) : (q ^^^ m) ||| m = q := by
  apply Nat.eq_of_testBit_eq
  intro i
  have h2 := and_zero.1 h i
  rw [Nat.testBit_xor] at h2
  rw [Nat.testBit_or, Nat.testBit_xor]
  cases ha : q.testBit i <;> cases hb : m.testBit i <;> simp_all
theorem xor_meet {n m : Nat} (hm : m ≠ 0) (h : n &&& m = 0) : ¬ ((n ^^^ m) &&& m = 0) := fun h2 => by
  apply hm
  apply Nat.eq_of_testBit_eq
  intro i
  have h3 := and_zero.1 h i
  have h4 := and_zero.1 h2 i
  rw [Nat.testBit_xor] at h4
  rw [Nat.zero_testBit]
  cases hb : m.testBit i
  · rfl
  · cases ha : n.testBit i <;> simp_all
theorem xor_zero_meet {m : Nat} (hm : m ≠ 0) : ¬ ((0 ^^^ m) &&& m = 0) := xor_meet hm (Nat.zero_and m)
/-- The document's number of a set: -1 where nothing is known. -/
def fOf (B : Nat → List Int) (u : Nat) : Int := if u = 0 ∨ 0 < (B u).length then ((B u).length : Int) else -1
def okL (B : Nat → List Int) (v : Nat) : Prop := v = 0 ∨ 0 < (B v).length
instance okLD (B : Nat → List Int) (v : Nat) : Decidable (okL B v) := inferInstanceAs (Decidable (v = 0 ∨ 0 < (B v).length))
theorem fOf_ok {B : Nat → List Int} {v : Nat} (h : okL B v) : fOf B v = ((B v).length : Int) := if_pos h
theorem fOf_no {B : Nat → List Int} {v : Nat} (h : ¬ okL B v) : fOf B v = -1 := if_neg h
theorem fOf_nonneg {B : Nat → List Int} {v : Nat} : 0 ≤ fOf B v ↔ okL B v := by
  by_cases h : okL B v
  · rw [fOf_ok h]; exact ⟨fun _ => h, fun _ => by omega⟩
  · rw [fOf_no h]; exact ⟨fun h2 => by omega, fun h2 => absurd h2 h⟩
/-- The program's pass over the sets below u, at once. -/
theorem step_at {B : Nat → List Int} {p m : Nat} (hm : m ≠ 0) (u q : Nat) :
    (((q ^^^ m) &&& m = 0 ∧ okL B (q ^^^ m) ∧ (q ^^^ m) < u ∧ (B q).length < (B (q ^^^ m)).length + 1) → stepTo B p m u q = B (q ^^^ m) ++ [(p : Int)]) ∧
    (¬ ((q ^^^ m) &&& m = 0 ∧ okL B (q ^^^ m) ∧ (q ^^^ m) < u ∧ (B q).length < (B (q ^^^ m)).length + 1) → stepTo B p m u q = B q) := by
  induction u with
  | zero => exact ⟨fun h => absurd h.2.2.1 (by omega), fun _ => rfl⟩
  | succ u ih =>
    have hs : stepTo B p m (u + 1) q = stepAt (stepTo B p m u) p m u q := rfl
    by_cases hu : u &&& m = 0
    · have hB : stepTo B p m u u = B u := step_same hm u u hu
      by_cases hq : q = u ||| m
      · have hx : q ^^^ m = u := by rw [hq]; exact xor_or hu
        have hqB : stepTo B p m u q = B q := ih.2 (by rw [hx]; omega)
        have e : stepAt (stepTo B p m u) p m u q = if okL B u then (if (B q).length < (B u).length + 1 then B u ++ [(p : Int)] else B q) else B q := by
          unfold stepAt
          rw [if_pos hu, hB]
          by_cases h1 : u = 0 ∨ 0 < (B u).length
          · rw [if_pos h1, if_pos (show okL B u from h1), ← hq, hqB]
            by_cases h2 : (B q).length < (B u).length + 1
            · rw [if_pos h2, if_pos h2]
              exact if_pos rfl
            · rw [if_neg h2, if_neg h2]; exact hqB
          · rw [if_neg h1, if_neg (show ¬ okL B u from h1)]; exact hqB
        rw [hs, e, hx]
        constructor
        · rintro ⟨_, h1, _, h2⟩
          rw [if_pos h1, if_pos h2]
        · intro h
          by_cases h1 : okL B u
          · rw [if_pos h1, if_neg fun h2 => h ⟨hu, h1, by omega, h2⟩]
          · rw [if_neg h1]
      · have hx : ¬ ((q ^^^ m) &&& m = 0 ∧ q ^^^ m = u) := fun h => hq (by rw [← h.2]; exact (or_xor h.1).symm)
        have e : stepAt (stepTo B p m u) p m u q = stepTo B p m u q := by
          unfold stepAt
          rw [if_pos hu]
          by_cases h1 : u = 0 ∨ 0 < (stepTo B p m u u).length
          · rw [if_pos h1]
            by_cases h2 : (stepTo B p m u (u ||| m)).length < (stepTo B p m u u).length + 1
            · rw [if_pos h2]
              exact if_neg hq
            · rw [if_neg h2]
          · rw [if_neg h1]
        rw [hs, e]
        constructor
        · rintro ⟨h1, h2, h3, h4⟩
          exact ih.1 ⟨h1, h2, by have : q ^^^ m ≠ u := fun h => hx ⟨h1, h⟩; omega, h4⟩
        · intro h
          exact ih.2 fun hh => h ⟨hh.1, hh.2.1, by omega, hh.2.2.2⟩
    · have e : stepAt (stepTo B p m u) p m u q = stepTo B p m u q := by
        unfold stepAt
        rw [if_neg hu]
      rw [hs, e]
      constructor
      · rintro ⟨h1, h2, h3, h4⟩
        exact ih.1 ⟨h1, h2, by have : q ^^^ m ≠ u := fun h => hu (h ▸ h1); omega, h4⟩
      · intro h
        exact ih.2 fun hh => h ⟨hh.1, hh.2.1, by omega, hh.2.2.2⟩
/-- The document's pass over the sets from j on. -/
def canF (f : Nat → Int) (m j q : Nat) : Int := if (q ^^^ m) &&& m = 0 ∧ 0 ≤ f (q ^^^ m) ∧ j ≤ (q ^^^ m) then max (f q) (f (q ^^^ m) + 1) else f q
theorem can_all {B : Nat → List Int} {p m n : Nat} (hm : m ≠ 0) (q : Nat) (hx : q ^^^ m < n) : fOf (stepTo B p m n) q = canF (fOf B) m 0 q := by
  have hs := step_at (B := B) (p := p) hm n q
  unfold canF
  by_cases h1 : (q ^^^ m) &&& m = 0 ∧ okL B (q ^^^ m)
  · have hq0 : q ≠ 0 := fun e => by
      subst e
      exact xor_zero_meet hm h1.1
    rw [if_pos ⟨h1.1, fOf_nonneg.2 h1.2, Nat.zero_le _⟩, fOf_ok h1.2]
    by_cases h2 : (B q).length < (B (q ^^^ m)).length + 1
    · have e := hs.1 ⟨h1.1, h1.2, hx, h2⟩
      have e2 : fOf (stepTo B p m n) q = ((B (q ^^^ m)).length : Int) + 1 := by
        unfold fOf
        rw [e, if_pos (.inr (by rw [List.length_append]; show 0 < _ + 1; omega)), List.length_append]
        show ((_ + 1 : Nat) : Int) = _
        omega
      rw [e2]
      have h3 : fOf B q ≤ ((B q).length : Int) := by
        unfold fOf; split <;> omega
      omega
    · have e := hs.2 (fun h => h2 h.2.2.2)
      have h3 : okL B q := .inr (by omega)
      have e2 : fOf (stepTo B p m n) q = fOf B q := by unfold fOf; rw [e]
      rw [e2, fOf_ok h3]
      omega
  · have e := hs.2 (fun h => h1 ⟨h.1, h.2.1⟩)
    rw [if_neg (fun h => h1 ⟨h.1, fOf_nonneg.1 h.2.1⟩)]
    unfold fOf
    rw [e]
theorem can_last (f : Nat → Int) (m n q : Nat) (hx : q ^^^ m < n) : canF f m n q = f q := if_neg (fun h => by omega)
theorem can_meet {f : Nat → Int} {m j n : Nat} (hm : m ≠ 0) (h : n &&& m = 0) : canF f m j n = f n := if_neg (fun hh => xor_meet hm h hh.1)
theorem can_hit {f : Nat → Int} {m n : Nat} (h : n &&& m = 0) (h0 : 0 ≤ f n) : canF f m n (n ||| m) = max (canF f m (n + 1) (n ||| m)) (f n + 1) := by
  unfold canF
  rw [xor_or h, if_pos ⟨h, h0, Nat.le_refl _⟩, if_neg (by omega)]
theorem can_other {f : Nat → Int} {m n q : Nat} (h : ¬ (n &&& m = 0 ∧ 0 ≤ f n ∧ q = n ||| m)) : canF f m n q = canF f m (n + 1) q := by
  unfold canF
  by_cases h1 : (q ^^^ m) &&& m = 0 ∧ 0 ≤ f (q ^^^ m) ∧ n + 1 ≤ (q ^^^ m)
  · rw [if_pos h1, if_pos ⟨h1.1, h1.2.1, by omega⟩]
  · rw [if_neg h1, if_neg]
    rintro ⟨h2, h3, h4⟩
    have e : q ^^^ m = n := by
      have : ¬ n + 1 ≤ q ^^^ m := fun h5 => h1 ⟨h2, h3, h5⟩
      omega
    rw [e] at h2 h3
    exact h ⟨h2, h3, by rw [← e]; exact (or_xor (e ▸ h2)).symm⟩

end Go.Proofs.YthihlapmkcelpaaDoor.Pure
