/- Sorted texts without repetition: slices.Compact of a sorted list, and insertion one after another, give the same list if they have the same members. For all lists of texts. -/
import Derived.Lib.SlicesCompact
namespace Go.Proofs.Ytlbhighbhchdmaa.Pure
open Go.Proofs Go.Lib

abbrev Txt := List UInt8
theorem txt_le {a b : Txt} : a ≤ b ↔ ¬ b < a := List.not_lt.symm
theorem txt_tri (a b : Txt) : a < b ∨ a = b ∨ b < a := by
  by_cases h1 : a < b
  · exact .inl h1
  · by_cases h2 : b < a
    · exact .inr (.inr h2)
    · exact .inr (.inl (List.le_antisymm (List.not_lt.1 h2) (List.not_lt.1 h1)))
theorem txt_irrefl (a : Txt) : ¬ a < a := List.lt_irrefl a
theorem txt_trans {a b c : Txt} (h1 : a < b) (h2 : b < c) : a < c := List.lt_trans h1 h2
theorem txt_lt_le {a b c : Txt} (h1 : a ≤ b) (h2 : b < c) : a < c := by
  rcases txt_tri a b with h | h | h
  · exact txt_trans h h2
  · exact h ▸ h2
  · exact absurd h (List.not_lt.2 h1)
def Asc (l : List Txt) : Prop := l.Pairwise (· < ·)
/-- Two ascending lists with the same members are the same. -/
theorem asc_ext : ∀ {a b : List Txt}, Asc a → Asc b → (∀ x, x ∈ a ↔ x ∈ b) → a = b
  | [], [], _, _, _ => rfl
  | [], y :: b, _, _, h => absurd ((h y).2 (List.mem_cons_self ..)) (by simp)
  | x :: a, [], _, _, h => absurd ((h x).1 (List.mem_cons_self ..)) (by simp)
  | x :: a, y :: b, ha, hb, h => by
    have ha' := List.pairwise_cons.1 ha
    have hb' := List.pairwise_cons.1 hb
    have e : x = y := by
      rcases List.mem_cons.1 ((h x).1 (List.mem_cons_self ..)) with e | e
      · exact e
      · rcases List.mem_cons.1 ((h y).2 (List.mem_cons_self ..)) with e2 | e2
        · exact e2.symm
        · exact absurd (txt_trans (hb'.1 x e) (ha'.1 y e2)) (txt_irrefl y)
    subst e
    refine congrArg (x :: ·) (asc_ext ha'.2 hb'.2 fun z => ?_)
    constructor
    · intro hz
      rcases List.mem_cons.1 ((h z).1 (List.mem_cons_of_mem _ hz)) with e | e
      · subst e; exact absurd (ha'.1 z hz) (txt_irrefl z)
      · exact e
    · intro hz
      rcases List.mem_cons.1 ((h z).2 (List.mem_cons_of_mem _ hz)) with e | e
      · subst e; exact absurd (hb'.1 z hz) (txt_irrefl z)
      · exact e
/-- A text put among ascending ones, once. -/
def putT (s : Txt) : List Txt → List Txt
  | [] => [s]
  | x :: l => if s < x then s :: x :: l else if s = x then x :: l else x :: putT s l
theorem putT_mem (s x : Txt) (l : List Txt) : x ∈ putT s l ↔ x = s ∨ x ∈ l := by
  induction l with
  | nil => simp [putT]
  | cons y l ih =>
    unfold putT
    by_cases h1 : s < y
    · rw [if_pos h1]; simp
    · rw [if_neg h1]
      by_cases h2 : s = y
      · rw [if_pos h2, h2]; simp
      · rw [if_neg h2, List.mem_cons, ih, List.mem_cons]
        constructor
        · rintro (h | h | h)
          · exact .inr (.inl h)
          · exact .inl h
          · exact .inr (.inr h)
        · rintro (h | h | h)
          · exact .inr (.inl h)
          · exact .inl h
          · exact .inr (.inr h)
theorem putT_asc (s : Txt) : ∀ (l : List Txt), Asc l → Asc (putT s l)
  | [], _ => by unfold putT; exact List.pairwise_singleton _ _
  | x :: l, h => by
    have h' := List.pairwise_cons.1 h
    unfold putT
    by_cases h1 : s < x
    · rw [if_pos h1]
      refine List.pairwise_cons.2 ⟨fun y hy => ?_, h⟩
      rcases List.mem_cons.1 hy with e | e
      · subst e; exact h1
      · exact txt_trans h1 (h'.1 y e)
    · rw [if_neg h1]
      by_cases h2 : s = x
      · rw [if_pos h2]; exact h
      · rw [if_neg h2]
        refine List.pairwise_cons.2 ⟨fun y hy => ?_, putT_asc s l h'.2⟩
        rcases (putT_mem s y l).1 hy with e | e
        · subst e
          rcases txt_tri y x with g | g | g
          · exact absurd g h1
          · exact absurd g h2
          · exact g
        · exact h'.1 y e
def putAll : List Txt → List Txt → List Txt
  | out, [] => out
  | out, s :: l => putAll (putT s out) l
theorem putAll_asc : ∀ (l out : List Txt), Asc out → Asc (putAll out l)
  | [], _, h => h
  | s :: l, out, h => putAll_asc l _ (putT_asc s out h)
theorem putAll_mem : ∀ (l out : List Txt) (x : Txt), x ∈ putAll out l ↔ x ∈ out ∨ x ∈ l
  | [], out, x => by simp [putAll]
  | s :: l, out, x => by
    show x ∈ putAll (putT s out) l ↔ _
    rw [putAll_mem l, putT_mem, List.mem_cons]
    constructor
    · rintro ((h | h) | h)
      · exact .inr (.inl h)
      · exact .inl h
      · exact .inr (.inr h)
    · rintro (h | h | h)
      · exact .inl (.inr h)
      · exact .inl (.inl h)
      · exact .inr h
/-- Compact of a sorted list: ascending, of the same members. -/
theorem upTo_succ (d : Array Txt) (m : Nat) : compactUpTo d (m + 1) = if keeps d m = true then compactUpTo d m ++ [d[m]!] else compactUpTo d m := by
  unfold compactUpTo
  rw [List.range_succ, List.filter_append, List.map_append]
  by_cases h : keeps d m = true
  · rw [if_pos h]; simp [h]
  · rw [if_neg h]; simp [h]
theorem upTo_mem (d : Array Txt) (m : Nat) (x : Txt) : x ∈ compactUpTo d m ↔ ∃ j, j < m ∧ d[j]! = x := by
  induction m with
  | zero => simp [compactUpTo]
  | succ m ih =>
    rw [upTo_succ]
    by_cases h : keeps d m = true
    · rw [if_pos h, List.mem_append, ih, List.mem_singleton]
      constructor
      · rintro (⟨j, hj, e⟩ | e)
        · exact ⟨j, by omega, e⟩
        · exact ⟨m, by omega, e.symm⟩
      · rintro ⟨j, hj, e⟩
        by_cases e2 : j = m
        · subst e2; exact .inr e.symm
        · exact .inl ⟨j, by omega, e⟩
    · rw [if_neg h, ih]
      have hk : m ≠ 0 ∧ d[m]! = d[m - 1]! := by
        unfold keeps at h
        rw [decide_eq_true_eq] at h
        constructor
        · exact fun e => h (.inl e)
        · exact Classical.byContradiction fun e => h (.inr e)
      constructor
      · rintro ⟨j, hj, e⟩; exact ⟨j, by omega, e⟩
      · rintro ⟨j, hj, e⟩
        by_cases e2 : j = m
        · subst e2; exact ⟨j - 1, by omega, by rw [← hk.2]; exact e⟩
        · exact ⟨j, by omega, e⟩
theorem upTo_asc (d : Array Txt) (hs : ∀ i j : Nat, i < j → j < d.size → d[i]! ≤ d[j]!) (m : Nat) (hm : m ≤ d.size) : Asc (compactUpTo d m) := by
  induction m with
  | zero => simp [compactUpTo, Asc]
  | succ m ih =>
    rw [upTo_succ]
    by_cases h : keeps d m = true
    · rw [if_pos h]
      refine List.pairwise_append.2 ⟨ih (by omega), List.pairwise_singleton _ _, fun a ha b hb => ?_⟩
      rw [List.mem_singleton] at hb
      subst hb
      obtain ⟨j, hj, e⟩ := (upTo_mem d m a).1 ha
      subst e
      unfold keeps at h
      rw [decide_eq_true_eq] at h
      have hne : d[m]! ≠ d[m - 1]! := h.resolve_left (by omega)
      have h1 : d[m - 1]! ≤ d[m]! := hs (m - 1) m (by omega) (by omega)
      have h2 : d[j]! ≤ d[m - 1]! := by
        by_cases e : j = m - 1
        · subst e; exact List.le_refl _
        · exact hs j (m - 1) (by omega) (by omega)
      rcases txt_tri (d[m - 1]!) (d[m]!) with g | g | g
      · exact txt_lt_le h2 g
      · exact absurd g.symm hne
      · exact absurd g (List.not_lt.2 h1)
    · rw [if_neg h]
      exact ih (by omega)
/-- The two ways to sorted texts without repetition. -/
theorem sort_compact (l : List Txt) : compact (l.mergeSort fun x y => decide (x ≤ y)) = putAll [] l := by
  have hsort : (l.mergeSort fun x y => decide (x ≤ y)).Pairwise (fun a b => decide (a ≤ b) = true) := List.pairwise_mergeSort (fun a b c h1 h2 => by
    rw [decide_eq_true_eq] at h1 h2 ⊢
    exact List.le_trans h1 h2) (fun a b => by
    rw [Bool.or_eq_true, decide_eq_true_eq, decide_eq_true_eq]
    exact List.le_total a b) l
  obtain ⟨s, hs⟩ : ∃ s, (l.mergeSort fun x y => decide (x ≤ y)) = s := ⟨_, rfl⟩
  have hmem : ∀ x, x ∈ s ↔ x ∈ l := fun x => by rw [← hs]; exact List.mem_mergeSort
  rw [hs] at hsort ⊢
  refine asc_ext (upTo_asc _ (fun i j hij hj => ?_) _ (by simp)) (putAll_asc l [] List.Pairwise.nil) fun x => ?_
  · have hj2 : j < s.length := by simpa using hj
    have h := List.pairwise_iff_getElem.1 hsort i j (by omega) hj2 hij
    simpa [hj2, show i < s.length by omega] using h
  · rw [putAll_mem, show compact s = compactUpTo s.toArray s.length from rfl, upTo_mem]
    constructor
    · rintro ⟨j, hj, e⟩
      right
      rw [← hmem, ← e]
      simp [hj]
    · rintro (h | h)
      · cases h
      · rw [← hmem] at h
        obtain ⟨j, hj, e⟩ := List.mem_iff_getElem.1 h
        exact ⟨j, hj, by simp [hj, e]⟩

end Go.Proofs.Ytlbhighbhchdmaa.Pure
