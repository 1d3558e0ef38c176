/- Which codes are safe, for words over any letters (Sardinas and Patterson). -/
import Derived.Test.YtpkafcoflgbnaaaQx0
import Init
namespace Go.Proofs.Ytpkafcoflgbnaaa.Pure
/-! Which codes are safe: what can be left over (Sardinas and Patterson), for words over any letters. -/
section SP
variable {α : Type}
/-- What can be left over of a code's words. -/
inductive Left (C : List (List α)) : List α → Prop
  | base {x y t : List α} : x ∈ C → y ∈ C → y = x ++ t → t ≠ [] → Left C t
  | cut {e x t : List α} : Left C e → x ∈ C → e = x ++ t → t ≠ [] → Left C t
  | rest {e x t : List α} : Left C e → x ∈ C → x = e ++ t → t ≠ [] → Left C t
theorem Left.ne {C : List (List α)} {t : List α} (h : Left C t) : t ≠ [] := by cases h <;> assumption
/-- A message: words of the code. -/
def Msg (C : List (List α)) (m : List (List α)) : Prop := ∀ x ∈ m, x ∈ C
theorem Msg.snoc {C m : List (List α)} {x : List α} (h : Msg C m) (hx : x ∈ C) : Msg C (m ++ [x]) := fun y hy => by
  rcases List.mem_append.1 hy with hy | hy
  · exact h y hy
  · rw [List.mem_singleton] at hy; subst hy; exact hx
theorem Msg.tail {C m : List (List α)} {x : List α} (h : Msg C (x :: m)) : Msg C m := fun y hy => h y (List.mem_cons_of_mem _ hy)
/-- Two messages sound alike. -/
def Amb (C : List (List α)) : Prop := ∃ a b, Msg C a ∧ Msg C b ∧ a ≠ b ∧ a.flatten = b.flatten
/-- What is left over is so of two messages that begin with different words. -/
theorem Left.msgs {C : List (List α)} {t : List α} (h : Left C t) : ∃ x y a b, x ≠ y ∧ Msg C (x :: a) ∧ Msg C (y :: b) ∧ (x :: a).flatten ++ t = (y :: b).flatten := by
  induction h with
  | @base x y t hx hy e ht =>
    refine ⟨x, y, [], [], ?_, fun z hz => ?_, fun z hz => ?_, ?_⟩
    · intro he
      subst he
      have := congrArg List.length e
      rw [List.length_append] at this
      exact ht (List.eq_nil_of_length_eq_zero (by omega))
    · rw [List.mem_singleton] at hz; subst hz; exact hx
    · rw [List.mem_singleton] at hz; subst hz; exact hy
    · simp [e]
  | @cut e z t _ hz he ht ih =>
    obtain ⟨x, y, a, b, hne, h1, h2, h3⟩ := ih
    refine ⟨x, y, a ++ [z], b, hne, by rw [← List.cons_append]; exact h1.snoc hz, h2, ?_⟩
    rw [← h3, he]
    simp
  | @rest e z t _ hz he ht ih =>
    obtain ⟨x, y, a, b, hne, h1, h2, h3⟩ := ih
    refine ⟨y, x, b, a ++ [z], fun h => hne h.symm, h2, by rw [← List.cons_append]; exact h1.snoc hz, ?_⟩
    rw [← h3, he]
    simp
theorem amb_of_left {C : List (List α)} {s : List α} (hs : s ∈ C) (h : Left C s) : Amb C := by
  obtain ⟨x, y, a, b, hne, h1, h2, h3⟩ := h.msgs
  refine ⟨x :: (a ++ [s]), y :: b, by rw [← List.cons_append]; exact h1.snoc hs, h2, fun e => hne (List.cons.inj e).1, ?_⟩
  rw [← h3]; simp
theorem append_cases : ∀ {a b c d : List α}, a ++ b = c ++ d → (∃ t, c = a ++ t ∧ b = t ++ d) ∨ (∃ t, a = c ++ t ∧ d = t ++ b)
  | a, b, c, d, h => by
    rcases List.append_eq_append_iff.1 h with ⟨t, e1, e2⟩ | ⟨t, e1, e2⟩
    · exact .inl ⟨t, e1, e2⟩
    · exact .inr ⟨t, e1, e2⟩
theorem left_goes {C : List (List α)} : ∀ (n : Nat) (e : List α) (a b : List (List α)), a.length + b.length ≤ n → Left C e → Msg C a → Msg C b → e ++ a.flatten = b.flatten → ∃ s, s ∈ C ∧ Left C s := by
  intro n
  induction n with
  | zero =>
    intro e a b hn he ha hb h
    have hb0 : b = [] := List.eq_nil_of_length_eq_zero (by omega)
    subst hb0
    exact absurd (List.append_eq_nil_iff.1 h).1 he.ne
  | succ n ih =>
    intro e a b hn he ha hb h
    cases b with
    | nil => exact absurd (List.append_eq_nil_iff.1 h).1 he.ne
    | cons y b =>
      have hy := hb y (List.mem_cons_self ..)
      rw [List.flatten_cons] at h
      rw [List.length_cons] at hn
      rcases append_cases h with ⟨t, e1, e2⟩ | ⟨t, e1, e2⟩
      · by_cases ht : t = []
        · subst ht
          rw [List.append_nil] at e1
          exact ⟨y, hy, e1 ▸ he⟩
        · exact ih t b a (by omega) (.rest he hy e1 ht) hb.tail ha e2.symm
      · by_cases ht : t = []
        · subst ht
          rw [List.append_nil] at e1
          exact ⟨y, hy, e1 ▸ he⟩
        · exact ih t a b (by omega) (.cut he hy e1 ht) ha hb.tail e2.symm
theorem left_of_amb {C : List (List α)} (hne : ∀ x ∈ C, x ≠ []) (h : Amb C) : ∃ s, s ∈ C ∧ Left C s := by
  obtain ⟨a, b, ha, hb, hab, hs⟩ := h
  induction a generalizing b with
  | nil =>
    cases b with
    | nil => exact absurd rfl hab
    | cons y b =>
      rw [List.flatten_nil, List.flatten_cons] at hs
      exact absurd (List.append_eq_nil_iff.1 hs.symm).1 (hne y (hb y (List.mem_cons_self ..)))
  | cons x a ih =>
    cases b with
    | nil =>
      rw [List.flatten_nil, List.flatten_cons] at hs
      exact absurd (List.append_eq_nil_iff.1 hs).1 (hne x (ha x (List.mem_cons_self ..)))
    | cons y b =>
      have hx := ha x (List.mem_cons_self ..)
      have hy := hb y (List.mem_cons_self ..)
      by_cases e : x = y
      · subst e
        rw [List.flatten_cons, List.flatten_cons] at hs
        exact ih b ha.tail hb.tail (fun h => hab (by rw [h])) (List.append_cancel_left hs)
      · rw [List.flatten_cons, List.flatten_cons] at hs
        rcases append_cases hs with ⟨t, e1, e2⟩ | ⟨t, e1, e2⟩
        · by_cases ht : t = []
          · subst ht; rw [List.append_nil] at e1; exact absurd e1.symm e
          · exact left_goes _ t b a (Nat.le_refl _) (.base hx hy e1 ht) hb.tail ha.tail e2.symm
        · by_cases ht : t = []
          · subst ht; rw [List.append_nil] at e1; exact absurd e1 e
          · exact left_goes _ t a b (Nat.le_refl _) (.base hy hx e1 ht) ha.tail hb.tail e2.symm
theorem amb_iff_left {C : List (List α)} (hne : ∀ x ∈ C, x ≠ []) : Amb C ↔ ∃ s, s ∈ C ∧ Left C s :=
  ⟨left_of_amb hne, fun ⟨_, hs, h⟩ => amb_of_left hs h⟩
theorem flatten_reverse2 (a : List (List α)) : (a.map List.reverse).reverse.flatten = a.flatten.reverse := by
  induction a with
  | nil => rfl
  | cons x a ih => rw [List.map_cons, List.reverse_cons, List.flatten_append, ih]; simp
theorem amb_back_of {C : List (List α)} (h : Amb C) : Amb (C.map List.reverse) := by
  obtain ⟨a, b, ha, hb, hab, hs⟩ := h
  have hm : ∀ a, Msg C a → Msg (C.map List.reverse) (a.map List.reverse).reverse := fun a ha x hx => by
    rw [List.mem_reverse, List.mem_map] at hx
    obtain ⟨y, hy, rfl⟩ := hx
    exact List.mem_map.2 ⟨y, ha y hy, rfl⟩
  refine ⟨_, _, hm a ha, hm b hb, fun e => hab ?_, by rw [flatten_reverse2, flatten_reverse2, hs]⟩
  have e := List.reverse_inj.1 e
  have e2 := congrArg (List.map List.reverse) e
  simpa [List.map_map, Function.comp_def] using e2
theorem amb_back {C : List (List α)} : Amb (C.map List.reverse) ↔ Amb C :=
  ⟨fun h => by have := amb_back_of h; simpa [List.map_map, Function.comp_def] using this, amb_back_of⟩
/-- Where no word begins with another one, nothing is left over. -/
theorem no_left {C : List (List α)} (h : ∀ x ∈ C, ∀ y ∈ C, ∀ t, y = x ++ t → t = []) : ∀ t, ¬ Left C t := by
  intro t hl
  induction hl with
  | base hx hy e ht => exact ht (h _ hx _ hy _ e)
  | cut _ _ _ _ ih => exact ih
  | rest _ _ _ _ ih => exact ih
end SP
end Go.Proofs.Ytpkafcoflgbnaaa.Pure
