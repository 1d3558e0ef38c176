import Derived.Test.YtpkafcoflgbnaaaQx0
import Init
/- Which codes are safe, for words over any letters (Sardinas and Patterson). -/
namespace Go.Proofs.Ytpkafcoflgbnaaa.Pure
/-! Which codes are safe: what can be left over (Sardinas and Patterson), for words over any letters. -/
section SP
variable {α : Type}
/-- What can be left over of a code's words. -/
inductive Left (C : List (List α)) : List α → Prop
  | base {x y t : List α} : x ∈ C → y ∈ C → y = x ++ t → t ≠ [] → Left C t
  | cut {e x t : List α} : Left C e → x ∈ C → e = x ++ t → t ≠ [] → Left C t
  | rest {e x t : List α} : Left C e → x ∈ C → x = e ++ t → t ≠ [] → Left C t
theorem Left.ne {C : List (List α)} {t : List α} (h : Left C t) : t ≠ [] := by cases h <;> assumption
/-- A message: words of the code. -/
def Msg (C : List (List α)) (m : List (List α)) : Prop := ∀ x ∈ m, x ∈ C
theorem Msg.snoc {C m : List (List α)} {x : List α} (h : Msg C m) (hx : x ∈ C) : Msg C (m ++ [x]) := fun y hy => by
  rcases List.mem_append.1 hy with hy | hy
  · exact h y hy
  · rw [List.mem_singleton] at hy; subst hy; exact hx
theorem Msg.tail {C m : List (List α)} {x : List α} (h : Msg C (x :: m)) : Msg C m := fun y hy => h y (List.mem_cons_of_mem _ hy)
/-- Two messages sound alike. -/
def Amb (C : List (List α)) : Prop := ∃ a b, Msg C a ∧ Msg C b ∧ a ≠ b ∧ a.flatten = b.flatten
/-- What is left over is so of two messages that begin with different words. -/
theorem Left.msgs {C : List (List α)} {t : List α} (h : Left C t) : ∃ x y a b, x ≠ y ∧ Msg C (x :: a) ∧ Msg C (y :: b) ∧ (x :: a).flatten ++ t = (y :: b).flatten := by
  induction h with
  | @base x y t hx hy e ht =>
    refine ⟨x, y, [], [], ?_, fun z hz => ?_, fun z hz => ?_, ?_⟩
    · intro he
      subst he
      have := congrArg List.length e
      rw [List.length_append] at this
      exact ht (List.eq_nil_of_length_eq_zero (by omega))
    · rw [List.mem_singleton] at hz; subst hz; exact hx
    · rw [List.mem_singleton] at hz; subst hz; exact hy
    · simp [e]
  | @cut e z t _ hz he ht ih =>
    obtain ⟨x, y, a, b, hne, h1, h2, h3⟩ := ih
    refine ⟨x, y, a ++ [z], b, hne, by rw [← List.cons_append]; exact h1.snoc hz, h2, ?_⟩
    rw [← h3, he]
    simp
  | @rest e z t _ hz he ht ih =>
    obtain ⟨x, y, a, b, hne, h1, h2, h3⟩ := ih
    refine ⟨y, x, b, a ++ [z], fun h => hne h.symm, h2, by rw [← List.cons_append]; exact h1.snoc hz, ?_⟩
    rw [← h3, he]
    simp
theorem amb_of_left {C : List (List α)} {s : List α} (hs : s ∈ C) (h : Left C s) : Amb C := by
  obtain ⟨x, y, a, b, hne, h1, h2, h3⟩ := h.msgs
  refine ⟨x :: (a ++ [s]), y :: b, by rw [← List.cons_append]; exact h1.snoc hs, h2, fun e => hne (List.cons.inj e).1, ?_⟩
  rw [← h3]; simp
theorem append_cases : ∀ {a b c d : List α}, a ++ b = c ++ d → (∃ t, c = a ++ t ∧ b = t ++ d) ∨ (∃ t, a = c ++ t ∧ d = t ++ b)
  | a, b, c, d, h => by
    rcases List.append_eq_append_iff.1 h with ⟨t, e1, e2⟩ | ⟨t, e1, e2⟩
    · exact .inl ⟨t, e1, e2⟩
    · exact .inr ⟨t, e1, e2⟩
theorem left_goes {C : List (List α)} : ∀ (n : Nat) (e : List α) (a b : List (List α)), a.length + b.length ≤ n → Left C e → Msg C a → Msg C b → e ++ a.flatten = b.flatten → ∃ s, s ∈ C ∧ Left C s := by
  intro n
  induction n with
  | zero =>
    intro e a b hn he ha hb h
    have hb0 : b = [] := List.eq_nil_of_length_eq_zero (by omega)
    subst hb0
    exact absurd (List.append_eq_nil_iff.1 h).1 he.ne
  | succ n ih =>
    intro e a b hn he ha hb h
    cases b with
    | nil => exact absurd (List.append_eq_nil_iff.1 h).1 he.ne
    | cons y b =>
      have hy := hb y (List.mem_cons_self ..)
      rw [List.flatten_cons] at h
      rw [List.length_cons] at hn
      rcases append_cases h with ⟨t, e1, e2⟩ | ⟨t, e1, e2⟩
      · by_cases ht : t = []
        · subst ht
          rw [List.append_nil] at e1
          exact ⟨y, hy, e1 ▸ he⟩
        · exact ih t b a (by omega) (.rest he hy e1 ht) hb.tail ha e2.symm
      · by_cases ht : t = []
        · subst ht
          rw [List.append_nil] at e1
          exact ⟨y, hy, e1 ▸ he⟩
        · exact ih t a b (by omega) (.cut he hy e1 ht) ha hb.tail e2.symm
theorem left_of_amb {C : List (List α)} (hne : ∀ x ∈ C, x ≠ []) (h : Amb C) : ∃ s, s ∈ C ∧ Left C s := by
  obtain ⟨a, b, ha, hb, hab, hs⟩ := h
  induction a generalizing b with
  | nil =>
    cases b with
    | nil => exact absurd rfl hab
    | cons y b =>
      rw [List.flatten_nil, List.flatten_cons] at hs
      exact absurd (List.append_eq_nil_iff.1 hs.symm).1 (hne y (hb y (List.mem_cons_self ..)))
  | cons x a ih =>
    cases b with
    | nil =>
      rw [List.flatten_nil, List.flatten_cons] at hs
      exact absurd (List.append_eq_nil_iff.1 hs).1 (hne x (ha x (List.mem_cons_self ..)))
    | cons y b =>
      have hx := ha x (List.mem_cons_self ..)
      have hy := hb y (List.mem_cons_self ..)
      by_cases e : x = y
      · subst e
        rw [List.flatten_cons, List.flatten_cons] at hs
        exact ih b ha.tail hb.tail (fun h => hab (by rw [h])) (List.append_cancel_left hs)
      · rw [List.flatten_cons, List.flatten_cons] at hs
        rcases append_cases hs with ⟨t, e1, e2⟩ | ⟨t, e1, e2⟩
        · by_cases ht : t = []
          · subst ht; rw [List.append_nil] at e1; exact absurd e1.symm e
          · exact left_goes _ t b a (Nat.le_refl _) (.base hx hy e1 ht) hb.tail ha.tail e2.symm
        · by_cases ht : t = []
          · subst ht; rw [List.append_nil] at e1; exact absurd e1 e
          · exact left_goes _ t a b (Nat.le_refl _) (.base hy hx e1 ht) ha.tail hb.tail e2.symm
theorem amb_iff_left {C : List (List α)} (hne : ∀ x ∈ C, x ≠ []) : Amb C ↔ ∃ s, s ∈ C ∧ Left C s :=
  ⟨left_of_amb hne, fun ⟨_, hs, h⟩ => amb_of_left hs h⟩
theorem flatten_reverse2 (a : List (List α)) : (a.map List.reverse).reverse.flatten = a.flatten.reverse := by
  induction a with
  | nil => rfl
  | cons x a ih => rw [List.map_cons, List.reverse_cons, List.flatten_append, ih]; simp
theorem amb_back_of {C : List (List α)} (h : Amb C) : Amb (C.map List.reverse) := by
  obtain ⟨a, b, ha, hb, hab, hs⟩ := h
  have hm : ∀ a, Msg C a → Msg (C.map List.reverse) (a.map List.reverse).reverse := fun a ha x hx => by
    rw [List.mem_reverse, List.mem_map] at hx
    obtain ⟨y, hy, rfl⟩ := hx
    exact List.mem_map.2 ⟨y, ha y hy, rfl⟩
  refine ⟨_, _, hm a ha, hm b hb, fun e => hab ?_, by rw [flatten_reverse2, flatten_reverse2, hs]⟩
  have e := List.reverse_inj.1 e
  have e2 := congrArg (List.map List.reverse) e
  simpa [List.map_map, Function.comp_def] using e2
theorem amb_back {C : List (List α)} : Amb (C.map List.reverse) ↔ Amb C :=
  ⟨fun h => by have := amb_back_of h; simpa [List.map_map, Function.comp_def] using this, amb_back_of⟩
/-- Where no word begins with another one, nothing is left over. -/
theorem no_left {C : List (List α)} (h : ∀ x ∈ C, ∀ y ∈ C, ∀ t, y = x ++ t → t = []) : ∀ t, ¬ Left C t := by
  intro t hl
  induction hl with
  | base hx hy e ht => exact ht (h _ hx _ hy _ e)
  | cut _ _ _ _ ih => exact ih
  | rest _ _ _ _ ih => exact ih
end SP
end Go.Proofs.Ytpkafcoflgbnaaa.Pure
/- No safe code has too many short words (McMillan). -/
namespace Go.Proofs.Ytpkafcoflgbnaaa.Pure
/-! No safe code has too many short words (McMillan). -/
section McM
/-- The sum of the shares of texts, where a text of M notes has the share 1. -/
def shares (M : Nat) (S : List (List Bool)) : Nat := (S.map fun x => 2 ^ (M - x.length)).sum
theorem shares_cons (M : Nat) (x : List Bool) (S : List (List Bool)) : shares M (x :: S) = 2 ^ (M - x.length) + shares M S := by
  unfold shares; rw [List.map_cons, List.sum_cons]
def headIs (b : Bool) : List Bool → Bool
  | [] => false
  | c :: _ => c == b
/-- What follows one note. -/
def after (b : Bool) (S : List (List Bool)) : List (List Bool) := (S.filter (headIs b)).map List.tail
theorem shares_split (M : Nat) (S : List (List Bool)) : shares (M + 1) S = 2 ^ (M + 1) * (S.filter fun x => x.isEmpty).length + shares M (after false S) + shares M (after true S) := by
  induction S with
  | nil => simp [shares, after]
  | cons x S ih =>
    rw [shares_cons, ih]
    cases x with
    | nil => simp [after, headIs, Nat.mul_add]; omega
    | cons b x =>
      have e : M + 1 - (b :: x).length = M - x.length := by rw [List.length_cons]; omega
      cases b
      · simp only [after, headIs, List.filter_cons, List.isEmpty_cons, Bool.false_eq_true, if_false, beq_self_eq_true, if_true, List.map_cons, List.tail_cons, shares_cons, e, show (false == true) = false from rfl]
        omega
      · simp only [after, headIs, List.filter_cons, List.isEmpty_cons, Bool.false_eq_true, if_false, beq_self_eq_true, if_true, List.map_cons, List.tail_cons, shares_cons, e, show (true == false) = false from rfl]
        omega
theorem after_nodup {b : Bool} {S : List (List Bool)} (h : S.Nodup) : (after b S).Nodup := by
  unfold after
  refine List.pairwise_map.2 ((h.filter _).imp_of_mem ?_)
  intro x y hx hy hne e
  have hx := (List.mem_filter.1 hx).2
  have hy := (List.mem_filter.1 hy).2
  cases x with
  | nil => simp [headIs] at hx
  | cons c x =>
    cases y with
    | nil => simp [headIs] at hy
    | cons d y =>
      simp [headIs] at hx hy
      subst hx; subst hy
      rw [List.tail_cons, List.tail_cons] at e
      exact hne (by rw [e])
theorem empties {S : List (List Bool)} (h : S.Nodup) : (S.filter fun x => x.isEmpty).length ≤ 1 := by
  have h1 := h.filter fun x => x.isEmpty
  have h2 : ∀ x ∈ S.filter fun x => x.isEmpty, x = [] := fun x hx => List.isEmpty_iff.1 (List.mem_filter.1 hx).2
  generalize S.filter (fun x => x.isEmpty) = T at *
  match T, h1, h2 with
  | [], _, _ => exact Nat.zero_le _
  | [_], _, _ => exact Nat.le_refl _
  | x :: y :: T, h1, h2 =>
    have e1 := h2 x (by simp)
    have e2 := h2 y (by simp)
    subst e1; subst e2
    simp at h1
theorem shares_le : ∀ (M : Nat) (S : List (List Bool)), S.Nodup → (∀ x ∈ S, x.length ≤ M) → shares M S ≤ (M + 1) * 2 ^ M := by
  intro M
  induction M with
  | zero =>
    intro S hn hl
    have hall : ∀ x ∈ S, x.isEmpty = true := fun x hx => by have := hl x hx; rw [List.isEmpty_iff]; exact List.eq_nil_of_length_eq_zero (by omega)
    have he := empties hn
    rw [List.filter_eq_self.2 hall] at he
    match S, he, hl with
    | [], _, _ => simp [shares]
    | [x], _, hl => simp [shares]
  | succ M ih =>
    intro S hn hl
    have hb : ∀ b, shares M (after b S) ≤ (M + 1) * 2 ^ M := fun b => by
      refine ih _ (after_nodup hn) fun x hx => ?_
      unfold after at hx
      obtain ⟨y, hy, rfl⟩ := List.mem_map.1 hx
      have := hl y (List.mem_filter.1 hy).1
      rw [List.length_tail]; omega
    rw [shares_split]
    have h0 := empties hn
    have h1 := hb false
    have h2 := hb true
    have h3 : 2 ^ (M + 1) * (S.filter fun x => x.isEmpty).length ≤ 2 ^ (M + 1) * 1 := Nat.mul_le_mul_left _ h0
    have e : (M + 1 + 1) * 2 ^ (M + 1) = 2 ^ (M + 1) * 1 + ((M + 1) * 2 ^ M + (M + 1) * 2 ^ M) := by
      rw [Nat.pow_succ]; generalize 2 ^ M = p; grind
    omega
/-- All messages of k words. -/
def tups (C : List (List Bool)) : Nat → List (List (List Bool))
  | 0 => [[]]
  | k + 1 => C.flatMap fun x => (tups C k).map (x :: ·)
theorem tups_mem {C : List (List Bool)} : ∀ k, ∀ m ∈ tups C k, Msg C m ∧ m.length = k
  | 0, m, hm => by rw [tups, List.mem_singleton] at hm; subst hm; exact ⟨fun x hx => (by cases hx), rfl⟩
  | k + 1, m, hm => by
    rw [tups, List.mem_flatMap] at hm
    obtain ⟨x, hx, hm⟩ := hm
    obtain ⟨m2, hm2, rfl⟩ := List.mem_map.1 hm
    obtain ⟨h1, h2⟩ := tups_mem k m2 hm2
    refine ⟨fun y hy => ?_, by rw [List.length_cons, h2]⟩
    rcases List.mem_cons.1 hy with e | e
    · subst e; exact hx
    · exact h1 y e
theorem tups_nodup {C : List (List Bool)} (h : C.Nodup) : ∀ k, (tups C k).Nodup
  | 0 => by simp [tups]
  | k + 1 => by
    have ih := tups_nodup h k
    rw [tups]
    refine List.pairwise_flatMap.2 ⟨fun x _ => List.pairwise_map.2 (ih.imp fun hne e => hne (List.cons.inj e).2), ?_⟩
    refine h.imp ?_
    intro x y hne a ha b hb e
    obtain ⟨a2, _, rfl⟩ := List.mem_map.1 ha
    obtain ⟨b2, _, rfl⟩ := List.mem_map.1 hb
    exact hne (List.cons.inj e).1
theorem flat_len {L : Nat} : ∀ {m : List (List Bool)}, (∀ x ∈ m, x.length ≤ L) → m.flatten.length ≤ m.length * L
  | [], _ => by simp
  | x :: m, h => by
    have h1 := h x (List.mem_cons_self ..)
    have h2 := flat_len (m := m) fun y hy => h y (List.mem_cons_of_mem _ hy)
    rw [List.flatten_cons, List.length_append, List.length_cons, Nat.add_mul, Nat.one_mul]; omega
theorem sum_map_mul {β : Type} (c : Nat) (f : β → Nat) (l : List β) : (l.map fun x => c * f x).sum = c * (l.map f).sum := by
  induction l with
  | nil => simp
  | cons x l ih => rw [List.map_cons, List.map_cons, List.sum_cons, List.sum_cons, ih, Nat.mul_add]
theorem shares_flatMap (M : Nat) (C : List (List Bool)) (g : List Bool → List (List Bool)) : shares M (C.flatMap g) = (C.map fun x => shares M (g x)).sum := by
  induction C with
  | nil => simp [shares]
  | cons x C ih =>
    rw [List.flatMap_cons, List.map_cons, List.sum_cons, ← ih]
    unfold shares
    rw [List.map_append, List.sum_append]
theorem shares_tups {C : List (List Bool)} {L : Nat} (hL : ∀ x ∈ C, x.length ≤ L) : ∀ k, shares (k * L) ((tups C k).map List.flatten) = (shares L C) ^ k
  | 0 => by simp [tups, shares]
  | k + 1 => by
    have ih := shares_tups hL k
    rw [tups, List.map_flatMap, shares_flatMap, Nat.pow_succ, ← ih, Nat.mul_comm]
    unfold shares
    rw [← List.map_congr_left (f := fun x => 2 ^ (L - x.length) * (List.map (fun x => 2 ^ (k * L - x.length)) (List.map List.flatten (tups C k))).sum)]
    · rw [show (fun x : List Bool => 2 ^ (L - x.length) * (List.map (fun x => 2 ^ (k * L - x.length)) (List.map List.flatten (tups C k))).sum) = fun x => (List.map (fun x => 2 ^ (k * L - x.length)) (List.map List.flatten (tups C k))).sum * 2 ^ (L - x.length) from funext fun x => Nat.mul_comm _ _, sum_map_mul, Nat.mul_comm]
    · intro x hx
      rw [← sum_map_mul, List.map_map, List.map_map, List.map_map]
      congr 1
      refine List.map_congr_left fun m hm => ?_
      have h1 := hL x hx
      obtain ⟨h2, h3⟩ := tups_mem k m hm
      have h4 := flat_len (m := m) (fun y hy => hL y (h2 y hy))
      rw [h3] at h4
      simp only [Function.comp_apply, List.flatten_cons, List.length_append]
      rw [← Nat.pow_add]
      congr 1
      rw [Nat.mul_add, Nat.mul_one, Nat.mul_comm L k]; omega
theorem bern (N k : Nat) : N ^ k * (N + k) ≤ (N + 1) ^ k * N := by
  induction k with
  | zero => simp
  | succ k ih =>
    have h1 : (N + 1) * (N ^ k * (N + k)) ≤ (N + 1) * ((N + 1) ^ k * N) := Nat.mul_le_mul_left _ ih
    have h2 : N ^ (k + 1) * (N + (k + 1)) ≤ (N + 1) * (N ^ k * (N + k)) := by
      rw [Nat.pow_succ, Nat.mul_assoc, Nat.mul_left_comm (N + 1)]
      refine Nat.mul_le_mul_left _ ?_
      rw [Nat.mul_add, Nat.mul_add, Nat.add_mul, Nat.mul_add]; omega
    rw [Nat.pow_succ (N + 1)]
    refine Nat.le_trans h2 (Nat.le_trans h1 ?_)
    rw [← Nat.mul_assoc, Nat.mul_comm (N + 1)]
    exact Nat.le_refl _
theorem twice (N : Nat) (hN : 0 < N) : 2 * N ^ N ≤ (N + 1) ^ N := by
  have h := bern N N
  rw [← Nat.two_mul, ← Nat.mul_assoc, Nat.mul_comm _ 2] at h
  exact Nat.le_of_mul_le_mul_right h hN
theorem sq_le : ∀ m, m * m + 8 * m + 16 ≤ 2 ^ (m + 4)
  | 0 => by decide
  | m + 1 => by
    have := sq_le m
    rw [show m + 1 + 4 = (m + 4) + 1 by omega, Nat.pow_succ]
    generalize 2 ^ (m + 4) = p at *
    have e : (m + 1) * (m + 1) = m * m + 2 * m + 1 := by grind
    rw [e]; omega
theorem mcmillan {C : List (List Bool)} (hn : C.Nodup) (hu : ¬ Amb C) {L : Nat} (hL : ∀ x ∈ C, x.length ≤ L) : shares L C ≤ 2 ^ L := by
  apply Classical.byContradiction
  intro hgt
  have hK : 2 ^ L + 1 ≤ shares L C := by omega
  have hb : ∀ k, (2 ^ L + 1) ^ k ≤ (k * L + 1) * 2 ^ (k * L) := fun k => by
    refine Nat.le_trans (Nat.pow_le_pow_left hK k) ?_
    rw [← shares_tups hL k]
    refine shares_le _ _ (List.pairwise_map.2 ((tups_nodup hn k).imp_of_mem ?_)) ?_
    · intro a b ha hb hne e
      exact hu ⟨a, b, (tups_mem k a ha).1, (tups_mem k b hb).1, hne, e⟩
    · intro x hx
      obtain ⟨m, hm, rfl⟩ := List.mem_map.1 hx
      obtain ⟨h2, h3⟩ := tups_mem k m hm
      have := flat_len (m := m) (fun y hy => hL y (h2 y hy))
      rwa [h3] at this
  have hN : 0 < 2 ^ L := Nat.pow_pos (by decide)
  obtain ⟨N, hNe⟩ : ∃ N, 2 ^ L = N := ⟨_, rfl⟩
  rw [hNe] at hN
  have hm : ∀ m, 2 ^ m ≤ N * m * L + 1 := fun m => by
    have h1 := hb (N * m)
    rw [Nat.mul_comm (N * m) L, Nat.pow_mul 2 L, hNe] at h1
    have h2 : (2 * N ^ N) ^ m ≤ (N + 1) ^ (N * m) := by
      rw [Nat.pow_mul]; exact Nat.pow_le_pow_left (twice N hN) m
    rw [Nat.mul_pow, ← Nat.pow_mul] at h2
    have h3 : 2 ^ m * N ^ (N * m) ≤ (L * (N * m) + 1) * N ^ (N * m) := Nat.le_trans h2 h1
    have h4 := Nat.le_of_mul_le_mul_right h3 (Nat.pow_pos hN)
    rwa [Nat.mul_comm L] at h4
  have h1 := hm (N * L + 4)
  have h2 := sq_le (N * L)
  generalize 2 ^ (N * L + 4) = p at *
  have e : N * (N * L + 4) * L = (N * L) * (N * L) + 4 * (N * L) := by grind
  rw [e] at h1
  omega
end McM
end Go.Proofs.Ytpkafcoflgbnaaa.Pure
