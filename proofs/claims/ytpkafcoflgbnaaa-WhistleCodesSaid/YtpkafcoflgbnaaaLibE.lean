import Derived.Test.YtpkafcoflgbnaaaQx10
import Derived.Test.YtpkafcoflgbnaaaQx11
import Derived.Test.YtpkafcoflgbnaaaQx12
import Derived.Test.YtpkafcoflgbnaaaLibN
import Derived.Test.YtpkafcoflgbnaaaLibSP
namespace Go.Proofs.Ytpkafcoflgbnaaa.Pure
open Go.RowKit Go.Proofs.Ytpkafcoflgbnaaa.Q Go.Proofs.YtpkafcoflgbnaaaW.PrintWords Go.Proofs.YtpkafcoflgbnaaaW.PrintLast
set_option linter.unusedVariables false

/-! What is left over: the program's and the reference's searches find just that. -/

/-- s is left over of y behind x. -/
def Cut (y x s : ByteArray) : Prop := bs y = bs x ++ bs s ∧ bs s ≠ []
theorem restB_of {y x : ByteArray} {t : List UInt8} (h : bs y = bs x ++ t) : bs (restB y x) = t := by
  have hh := headB_iff.2 ⟨t, h⟩
  unfold restB
  rw [bs_mk]
  unfold Lib.trimPrefix
  unfold headB at hh
  rw [hh, if_pos rfl]
  show (bs y).drop (bs x).length = t
  rw [h, List.drop_left]
theorem addB_iff {o : List ByteArray} {t : ByteArray} {b : Bool} : addB o t b = true ↔ b = true ∧ bs t ≠ [] ∧ t ∉ o := by
  unfold addB
  rw [Bool.and_eq_true, Bool.and_eq_true, toList_bs, Bool.not_eq_true', Bool.not_eq_true', List.isEmpty_eq_false_iff, Bool.eq_false_iff]
  constructor
  · rintro ⟨⟨h1, h2⟩, h3⟩; exact ⟨h1, h2, fun h => h3 (inS_iff.2 h)⟩
  · rintro ⟨h1, h2, h3⟩; exact ⟨⟨h1, h2⟩, fun h => h3 (inS_iff.1 h)⟩
theorem mem_addO {o : List ByteArray} {t s : ByteArray} {b : Bool} : s ∈ addO o t b ↔ s ∈ o ∨ (b = true ∧ bs t ≠ [] ∧ s = t) := by
  unfold addO
  by_cases h : addB o t b = true
  · rw [if_pos h, List.mem_append, List.mem_singleton]
    have h2 := addB_iff.1 h
    exact ⟨fun e => e.imp id (fun e => ⟨h2.1, h2.2.1, e⟩), fun e => e.imp id (fun e => e.2.2)⟩
  · rw [if_neg h]
    refine ⟨.inl, fun e => e.elim id ?_⟩
    rintro ⟨h1, h2, rfl⟩
    apply Classical.byContradiction
    intro hn
    exact h (addB_iff.2 ⟨h1, h2, hn⟩)
theorem addO_nodup {o : List ByteArray} {t : ByteArray} {b : Bool} (h : o.Nodup) : (addO o t b).Nodup := by
  unfold addO
  by_cases hb : addB o t b = true
  · rw [if_pos hb]
    have h2 := (addB_iff.1 hb).2.2
    refine List.nodup_append.2 ⟨h, by simp, fun a ha c hc e => ?_⟩
    rw [List.mem_singleton] at hc
    subst hc; subst e; exact h2 ha
  · rw [if_neg hb]; exact h
theorem mem_cutO {o : List ByteArray} {y x s : ByteArray} : s ∈ cutO o y x ↔ s ∈ o ∨ Cut y x s := by
  unfold cutO
  rw [mem_addO]
  constructor
  · rintro (h | ⟨h1, h2, rfl⟩)
    · exact .inl h
    · obtain ⟨t, ht⟩ := headB_iff.1 h1
      refine .inr ⟨?_, h2⟩
      rw [restB_of ht]; exact ht
  · rintro (h | ⟨h1, h2⟩)
    · exact .inl h
    · have := restB_of h1
      exact .inr ⟨headB_iff.2 ⟨_, h1⟩, by rw [this]; exact h2, bs_inj this.symm⟩
theorem cutO_nodup {o : List ByteArray} {y x : ByteArray} (h : o.Nodup) : (cutO o y x).Nodup := addO_nodup h
theorem mem_inA {C : List ByteArray} {x s : ByteArray} {o : List ByteArray} : ∀ {j}, s ∈ inA C x j o ↔ s ∈ o ∨ ∃ i, i < j ∧ Cut (gt C i) x s
  | 0 => ⟨.inl, fun h => h.elim id fun ⟨i, h, _⟩ => by omega⟩
  | j + 1 => by
    show s ∈ cutO (inA C x j o) (gt C j) x ↔ _
    rw [mem_cutO, mem_inA]
    constructor
    · rintro ((h | ⟨i, hi, h⟩) | h)
      · exact .inl h
      · exact .inr ⟨i, by omega, h⟩
      · exact .inr ⟨j, by omega, h⟩
    · rintro (h | ⟨i, hi, h⟩)
      · exact .inl (.inl h)
      · by_cases e : i = j
        · subst e; exact .inr h
        · exact .inl (.inr ⟨i, by omega, h⟩)
theorem inA_nodup {C : List ByteArray} {x : ByteArray} {o : List ByteArray} (h : o.Nodup) : ∀ j, (inA C x j o).Nodup
  | 0 => h
  | j + 1 => cutO_nodup (inA_nodup h j)
theorem mem_outA {C : List ByteArray} {s : ByteArray} : ∀ {k}, s ∈ outA C k ↔ ∃ i, i < k ∧ ∃ j, j < C.length ∧ Cut (gt C j) (gt C i) s
  | 0 => ⟨fun h => by simp [outA] at h, fun ⟨i, h, _⟩ => by omega⟩
  | k + 1 => by
    show s ∈ inA C (gt C k) C.length (outA C k) ↔ _
    rw [mem_inA, mem_outA]
    constructor
    · rintro (⟨i, hi, h⟩ | ⟨j, hj, h⟩)
      · exact ⟨i, by omega, h⟩
      · exact ⟨k, by omega, j, hj, h⟩
    · rintro ⟨i, hi, j, hj, h⟩
      by_cases e : i = k
      · subst e; exact .inr ⟨j, hj, h⟩
      · exact .inl ⟨i, by omega, j, hj, h⟩
theorem outA_nodup {C : List ByteArray} : ∀ k, (outA C k).Nodup
  | 0 => List.nodup_nil
  | k + 1 => inA_nodup (outA_nodup k) _
theorem mem_inB {C : List ByteArray} {e s : ByteArray} {o : List ByteArray} : ∀ {j}, s ∈ inB C e j o ↔ s ∈ o ∨ ∃ i, i < j ∧ (Cut e (gt C i) s ∨ Cut (gt C i) e s)
  | 0 => ⟨.inl, fun h => h.elim id fun ⟨i, h, _⟩ => by omega⟩
  | j + 1 => by
    show s ∈ cutO (cutO (inB C e j o) e (gt C j)) (gt C j) e ↔ _
    rw [mem_cutO, mem_cutO, mem_inB]
    constructor
    · rintro (((h | ⟨i, hi, h⟩) | h) | h)
      · exact .inl h
      · exact .inr ⟨i, by omega, h⟩
      · exact .inr ⟨j, by omega, .inl h⟩
      · exact .inr ⟨j, by omega, .inr h⟩
    · rintro (h | ⟨i, hi, h⟩)
      · exact .inl (.inl (.inl h))
      · by_cases e : i = j
        · subst e
          rcases h with h | h
          · exact .inl (.inr h)
          · exact .inr h
        · exact .inl (.inl (.inr ⟨i, by omega, h⟩))
theorem inB_nodup {C : List ByteArray} {e : ByteArray} {o : List ByteArray} (h : o.Nodup) : ∀ j, (inB C e j o).Nodup
  | 0 => h
  | j + 1 => cutO_nodup (cutO_nodup (inB_nodup h j))

/-! Words. -/
def wds (C : List ByteArray) : List (List UInt8) := C.map bs
theorem mem_wds {C : List ByteArray} {x : List UInt8} : x ∈ wds C ↔ ∃ s, s ∈ C ∧ bs s = x := List.mem_map
def LeftS (C : List ByteArray) (s : ByteArray) : Prop := Left (wds C) (bs s)
theorem LeftS.base {C : List ByteArray} {x y s : ByteArray} (hx : x ∈ C) (hy : y ∈ C) (h : Cut y x s) : LeftS C s := Left.base (mem_wds.2 ⟨x, hx, rfl⟩) (mem_wds.2 ⟨y, hy, rfl⟩) h.1 h.2
theorem LeftS.on {C : List ByteArray} {e x s : ByteArray} (he : LeftS C e) (hx : x ∈ C) (h : Cut e x s ∨ Cut x e s) : LeftS C s := by
  rcases h with h | h
  · exact Left.cut he (mem_wds.2 ⟨x, hx, rfl⟩) h.1 h.2
  · exact Left.rest he (mem_wds.2 ⟨x, hx, rfl⟩) h.1 h.2
/-- A list from which nothing more is left over has all. -/
theorem closed_has {C E : List ByteArray} (h1 : ∀ x ∈ C, ∀ y ∈ C, ∀ s, Cut y x s → s ∈ E) (h2 : ∀ e ∈ E, ∀ x ∈ C, ∀ s, (Cut e x s ∨ Cut x e s) → s ∈ E) {s : ByteArray} (h : LeftS C s) : s ∈ E := by
  have key : ∀ t, Left (wds C) t → (⟨t.toArray⟩ : ByteArray) ∈ E := by
    intro t ht
    induction ht with
    | base hx hy e hne =>
      obtain ⟨x, hx2, rfl⟩ := mem_wds.1 hx
      obtain ⟨y, hy2, rfl⟩ := mem_wds.1 hy
      exact h1 x hx2 y hy2 _ ⟨by rw [bs_mk]; exact e, by rw [bs_mk]; exact hne⟩
    | cut he hx e hne ih =>
      obtain ⟨x, hx2, rfl⟩ := mem_wds.1 hx
      exact h2 _ ih x hx2 _ (.inl ⟨by rw [bs_mk, bs_mk]; exact e, by rw [bs_mk]; exact hne⟩)
    | rest he hx e hne ih =>
      obtain ⟨x, hx2, rfl⟩ := mem_wds.1 hx
      exact h2 _ ih x hx2 _ (.inr ⟨by rw [bs_mk, bs_mk]; exact e, by rw [bs_mk]; exact hne⟩)
  have := key _ h
  rwa [show (⟨(bs s).toArray⟩ : ByteArray) = s from bs_inj (bs_mk _)] at this
/-- What can be left over is an end of a signal. -/
def tails (C : List ByteArray) : List ByteArray := C.flatMap fun s => (List.range (s.size + 1)).map fun i => ⟨((bs s).drop i).toArray⟩
theorem left_tail {C : List ByteArray} {s : ByteArray} (h : LeftS C s) : s ∈ tails C := by
  have key : ∀ t, Left (wds C) t → ∃ x ∈ C, ∃ a, bs x = a ++ t := by
    intro t ht
    induction ht with
    | base hx hy e _ =>
      obtain ⟨y, hy2, rfl⟩ := mem_wds.1 hy
      exact ⟨y, hy2, _, e⟩
    | cut he hx e _ ih =>
      obtain ⟨z, hz, a, ha⟩ := ih
      exact ⟨z, hz, _, by rw [ha, e, ← List.append_assoc]⟩
    | rest he hx e _ ih =>
      obtain ⟨x, hx2, rfl⟩ := mem_wds.1 hx
      exact ⟨x, hx2, _, e⟩
  obtain ⟨x, hx, a, ha⟩ := key _ h
  unfold tails
  rw [List.mem_flatMap]
  refine ⟨x, hx, ?_⟩
  rw [List.mem_map]
  refine ⟨a.length, List.mem_range.2 ?_, ?_⟩
  · have := congrArg List.length ha
    rw [List.length_append, bs_len] at this; omega
  · rw [ha, List.drop_left]
    exact bs_inj (bs_mk _)
theorem nodup_len {α : Type} {l : List α} : ∀ {m : List α}, l.Nodup → (∀ x ∈ l, x ∈ m) → l.length ≤ m.length := by
  induction l with
  | nil => intro m _ _; exact Nat.zero_le _
  | cons a l ih =>
    intro m h hm
    obtain ⟨p, q, e⟩ := List.append_of_mem (hm a (List.mem_cons_self ..))
    have h2 := List.nodup_cons.1 h
    have := ih (m := p ++ q) h2.2 (fun x hx => by
      have := hm x (List.mem_cons_of_mem _ hx)
      rw [e, List.mem_append, List.mem_cons] at this
      rw [List.mem_append]
      rcases this with h | h | h
      · exact .inl h
      · subst h; exact absurd hx h2.1
      · exact .inr h)
    rw [e, List.length_append, List.length_cons]
    rw [List.length_append] at this
    rw [List.length_cons]; omega
theorem tails_len (C : List ByteArray) (h : ∀ s ∈ C, s.size ≤ 12) : (tails C).length ≤ 13 * C.length := by
  unfold tails
  induction C with
  | nil => exact Nat.zero_le _
  | cons a C ih =>
    have h1 := h a (List.mem_cons_self ..)
    have h2 := ih (fun s hs => h s (List.mem_cons_of_mem _ hs))
    rw [List.flatMap_cons, List.length_append, List.length_map, List.length_range, List.length_cons]
    omega
/-- How a search stands. -/
structure Found (C : List ByteArray) (o : List ByteArray) (i : Nat) : Prop where
  nodup : o.Nodup
  left : ∀ s ∈ o, LeftS C s
  base : ∀ x ∈ C, ∀ y ∈ C, ∀ s, Cut y x s → s ∈ o
  done : ∀ j, j < i → ∀ x ∈ C, ∀ s, (Cut (gt o j) x s ∨ Cut x (gt o j) s) → s ∈ o
  le : i ≤ o.length
theorem Found.len {C o : List ByteArray} {i : Nat} (h : Found C o i) (v : Valid C) : o.length ≤ 156 := by
  have h1 := nodup_len h.nodup (fun s hs => left_tail (h.left s hs))
  have h2 := tails_len C v.size12
  have := v.few
  omega
theorem Found.all {C o : List ByteArray} (h : Found C o o.length) {s : ByteArray} : s ∈ o ↔ LeftS C s := by
  refine ⟨h.left s, fun hs => closed_has h.base (fun e he x hx s h2 => ?_) hs⟩
  obtain ⟨j, hj, rfl⟩ := mem_getD (d := ByteArray.empty) he
  exact h.done j hj x hx s h2
/-- One row of the search more. -/
theorem Found.next {C o o' : List ByteArray} {i : Nat} (h : Found C o i) (hi : i < o.length) (hn : o'.Nodup) (hm : ∀ s, s ∈ o' ↔ s ∈ o ∨ ∃ x, x ∈ C ∧ (Cut (gt o i) x s ∨ Cut x (gt o i) s)) (hg : ∀ j, j < o.length → gt o' j = gt o j) (hl : o.length ≤ o'.length) : Found C o' (i + 1) where
  nodup := hn
  left := fun s hs => by
    rcases (hm s).1 hs with h1 | ⟨x, hx, h1⟩
    · exact h.left s h1
    · exact (h.left _ (gt_mem hi)).on hx h1
  base := fun x hx y hy s hc => (hm s).2 (.inl (h.base x hx y hy s hc))
  done := fun j hj x hx s hc => by
    by_cases e : j = i
    · subst e
      rw [hg j hi] at hc
      exact (hm s).2 (.inr ⟨x, hx, hc⟩)
    · rw [hg j (by omega)] at hc
      exact (hm s).2 (.inl (h.done j (by omega) x hx s hc))
  le := by omega
theorem goB_found {C : List ByteArray} (v : Valid C) : ∀ (f : Nat) (o : List ByteArray) (i : Nat), Found C o i → 157 ≤ f + i → ∃ r, goB C f o i = some r ∧ Found C r r.length := by
  intro f
  induction f with
  | zero =>
    intro o i h hf
    have := h.len v
    have := h.le
    omega
  | succ f ih =>
    intro o i h hf
    have hl := h.len v
    unfold goB
    rw [if_pos (by omega)]
    by_cases hi : i < o.length
    · rw [if_pos hi]
      have hge := inB_ge C (gt o i) C.length o
      refine ih _ (i + 1) (h.next hi (inB_nodup h.nodup _) (fun s => ?_) (fun j hj => inB_get C (gt o i) j C.length o hj) hge) (by omega)
      show s ∈ inB C (gt o i) C.length o ↔ _
      rw [mem_inB]
      constructor
      · rintro (h1 | ⟨j, hj, h1⟩)
        · exact .inl h1
        · exact .inr ⟨gt C j, gt_mem hj, h1⟩
      · rintro (h1 | ⟨x, hx, h1⟩)
        · exact .inl h1
        · obtain ⟨j, hj, rfl⟩ := mem_gt hx
          exact .inr ⟨j, hj, h1⟩
    · rw [if_neg hi]
      have := h.le
      obtain rfl : i = o.length := by omega
      exact ⟨o, rfl, h⟩
theorem outA_found {C : List ByteArray} : Found C (outA C C.length) 0 where
  nodup := outA_nodup _
  left := fun s hs => by
    obtain ⟨i, hi, j, hj, h⟩ := mem_outA.1 hs
    exact LeftS.base (gt_mem hi) (gt_mem hj) h
  base := fun x hx y hy s h => by
    obtain ⟨i, hi, rfl⟩ := mem_gt hx
    obtain ⟨j, hj, rfl⟩ := mem_gt hy
    exact mem_outA.2 ⟨i, hi, j, hj, h⟩
  done := fun j hj => by omega
  le := Nat.zero_le _
/-- The program's ends. -/
theorem ends_ev {C : List ByteArray} (v : Valid C) : ∃ E, Ev (fun k => whistle_ends.f k C) (sortS E) ∧ E.Nodup ∧ (∀ s, s ∈ E ↔ LeftS C s) ∧ E.length ≤ 156 := by
  obtain ⟨E, h1, h2⟩ := goB_found v 157 _ 0 outA_found (by omega)
  refine ⟨E, Ev.of (k := 157) (fun k => whistle_ends.mono C k) ?_, h2.nodup, fun s => h2.all, h2.len v⟩
  unfold whistle_ends.f endsL
  rw [if_pos (by have := v.few; omega), h1]; rfl

/-! The reference's ends. -/
theorem leftP_iff {x y s : ByteArray} : ((leftP x y).2 = true ∧ s = (leftP x y).1) ↔ Cut x y s ∨ Cut y x s := by
  unfold leftP
  have sz : ∀ {a b t : ByteArray}, Cut a b t → b.size < a.size := fun {a b t} h => by
    have h1 := congrArg List.length h.1
    rw [List.length_append, bs_len, bs_len] at h1
    have : 0 < (bs t).length := List.length_pos_iff.2 h.2
    omega
  have ex : ∀ {a b : ByteArray} {t : List UInt8}, bs a = bs b ++ t → bs (a.extract b.size a.size) = t := fun {a b t} h => by
    have h1 : bs (a.extract b.size a.size) = (bs a).drop b.size := by
      unfold bs
      rw [ByteArray.data_extract, Array.toList_extract, List.extract_eq_take_drop]
      rw [List.take_of_length_le]
      rw [List.length_drop, Array.length_toList]; exact Nat.le_refl _
    rw [h1, h, ← bs_len b, List.drop_left]
  have key : ∀ {a b : ByteArray}, b.size < a.size → ((headB a b = true ∧ s = a.extract b.size a.size) ↔ Cut a b s) := fun {a b} hlt => by
    constructor
    · rintro ⟨h1, rfl⟩
      obtain ⟨t, ht⟩ := headB_iff.1 h1
      have h2 := ex ht
      refine ⟨by rw [h2]; exact ht, fun e => ?_⟩
      rw [h2] at e
      rw [e, List.append_nil] at ht
      have := congrArg List.length ht
      rw [bs_len, bs_len] at this; omega
    · intro h
      exact ⟨headB_iff.2 ⟨_, h.1⟩, bs_inj (ex h.1).symm⟩
  by_cases h : y.size < x.size
  · rw [if_pos h]
    rw [show ((x.extract y.size x.size, headB x y).2 = true ∧ s = (x.extract y.size x.size, headB x y).1) ↔ (headB x y = true ∧ s = x.extract y.size x.size) from Iff.rfl, key h]
    exact ⟨.inl, fun e => e.elim id fun e => by have := sz e; omega⟩
  · rw [if_neg h]
    by_cases h2 : x.size < y.size
    · rw [decide_eq_true h2, Bool.true_and]
      rw [show ((y.extract x.size y.size, headB y x).2 = true ∧ s = (y.extract x.size y.size, headB y x).1) ↔ (headB y x = true ∧ s = y.extract x.size y.size) from Iff.rfl, key h2]
      exact ⟨.inr, fun e => e.elim (fun e => by have := sz e; omega) id⟩
    · rw [decide_eq_false h2, Bool.false_and]
      constructor
      · rintro ⟨h3, _⟩; cases h3
      · rintro (e | e)
        · have := sz e; omega
        · have := sz e; omega
theorem leftP_ne {x y : ByteArray} (h : (leftP x y).2 = true) : bs (leftP x y).1 ≠ [] := by
  rcases leftP_iff.1 ⟨h, rfl⟩ with h | h
  · exact h.2
  · exact h.2
/-- One step of the reference's searches. -/
def stepL (o : List ByteArray) (x y : ByteArray) : List ByteArray := addO o (leftP x y).1 (leftP x y).2
theorem mem_stepL {o : List ByteArray} {x y s : ByteArray} : s ∈ stepL o x y ↔ s ∈ o ∨ Cut x y s ∨ Cut y x s := by
  unfold stepL
  rw [mem_addO, ← leftP_iff]
  constructor
  · rintro (h | ⟨h1, _, h3⟩)
    · exact .inl h
    · exact .inr ⟨h1, h3⟩
  · rintro (h | ⟨h1, h2⟩)
    · exact .inl h
    · exact .inr ⟨h1, leftP_ne h1, h2⟩
theorem left_eq {x y : ByteArray} (hx : x.size ≤ 140737488351232) (hy : y.size ≤ 140737488351232) : wigeonref05_leftover.f x y = some ((leftP x y).1, (leftP x y).2) := by unfold wigeonref05_leftover.f; rw [if_pos ⟨by omega, by omega⟩]
theorem step_bind {o : List ByteArray} {x y : ByteArray} (hx : x.size ≤ 140737488351232) (hy : y.size ≤ 140737488351232) (ho : o.length < 1000000) {g : Nat → List ByteArray → Option (List ByteArray)} {r : List ByteArray} (h : Ev (fun k => g k (stepL o x y)) r) :
    Ev (fun k => (wigeonref05_leftover.f x y).bind fun bt => if bt.2 = true then (wigeonref05_has.f k o bt.1).bind fun t => if t = true then g k o else (if o.length < 8796093022208 then g k (o ++ [bt.1]) else none) else g k o) r := by
  refine Ev.bindc (left_eq hx hy) ?_
  by_cases h1 : (leftP x y).2 = true
  · refine Ev.ifp h1 (Ev.bind (has_ev o _ (by unfold bigC; omega)) ?_)
    by_cases h2 : Go.Lib.containsS o (leftP x y).1 = true
    · refine Ev.ifp h2 ?_
      rwa [show stepL o x y = o from if_neg (fun e => (addB_iff.1 e).2.2 (inS_iff.1 h2))] at h
    · refine Ev.ifn h2 (Ev.ifp (by omega) ?_)
      rwa [show stepL o x y = o ++ [(leftP x y).1] from if_pos (addB_iff.2 ⟨h1, leftP_ne h1, fun e => h2 (inS_iff.2 e)⟩)] at h
  · refine Ev.ifn h1 ?_
    rwa [show stepL o x y = o from if_neg (fun e => h1 (addB_iff.1 e).1)] at h
/-- Rows of the reference's searches. -/
def rowL (C : List ByteArray) (x : ByteArray) : Nat → List ByteArray → List ByteArray
  | 0, o => o
  | j + 1, o => stepL (rowL C x j o) x (gt C j)
theorem mem_rowL {C : List ByteArray} {x s : ByteArray} {o : List ByteArray} : ∀ {j}, s ∈ rowL C x j o ↔ s ∈ o ∨ ∃ i, i < j ∧ (Cut x (gt C i) s ∨ Cut (gt C i) x s)
  | 0 => ⟨.inl, fun h => h.elim id fun ⟨i, h, _⟩ => by omega⟩
  | j + 1 => by
    show s ∈ stepL (rowL C x j o) x (gt C j) ↔ _
    rw [mem_stepL, mem_rowL]
    constructor
    · rintro ((h | ⟨i, hi, h⟩) | h)
      · exact .inl h
      · exact .inr ⟨i, by omega, h⟩
      · exact .inr ⟨j, by omega, h⟩
    · rintro (h | ⟨i, hi, h⟩)
      · exact .inl (.inl h)
      · by_cases e : i = j
        · subst e; exact .inr h
        · exact .inl (.inr ⟨i, by omega, h⟩)
theorem rowL_nodup {C : List ByteArray} {x : ByteArray} {o : List ByteArray} (h : o.Nodup) : ∀ j, (rowL C x j o).Nodup
  | 0 => h
  | j + 1 => addO_nodup (rowL_nodup h j)
theorem rowL_ge (C : List ByteArray) (x : ByteArray) (o : List ByteArray) : ∀ j, o.length ≤ (rowL C x j o).length
  | 0 => Nat.le_refl _
  | j + 1 => Nat.le_trans (rowL_ge C x o j) (addO_ge _ _ _)
theorem rowL_le (C : List ByteArray) (x : ByteArray) (o : List ByteArray) : ∀ j, (rowL C x j o).length ≤ o.length + j
  | 0 => Nat.le_refl _
  | j + 1 => by have := rowL_le C x o j; have := addO_le (rowL C x j o) (leftP x (gt C j)).1 (leftP x (gt C j)).2; show (addO _ _ _).length ≤ _; omega
theorem rowL_get (C : List ByteArray) (x : ByteArray) (o : List ByteArray) (i : Nat) (h : i < o.length) : ∀ j, gt (rowL C x j o) i = gt o i
  | 0 => rfl
  | j + 1 => (addO_get _ _ _ i (Nat.lt_of_lt_of_le h (rowL_ge C x o j))).trans (rowL_get C x o i h j)
def rbase (C : List ByteArray) : Nat → List ByteArray
  | 0 => []
  | i + 1 => rowL C (gt C i) i (rbase C i)
theorem rbase_le (C : List ByteArray) (hC : C.length ≤ 12) : ∀ i, i ≤ C.length → (rbase C i).length ≤ 12 * i
  | 0, _ => Nat.le_refl _
  | i + 1, h => by have := rbase_le C hC i (by omega); have := rowL_le C (gt C i) (rbase C i) i; show (rowL _ _ _ _).length ≤ _; omega
theorem mem_rbase {C : List ByteArray} {s : ByteArray} : ∀ {k}, s ∈ rbase C k ↔ ∃ i, i < k ∧ ∃ j, j < i ∧ (Cut (gt C i) (gt C j) s ∨ Cut (gt C j) (gt C i) s)
  | 0 => ⟨fun h => by simp [rbase] at h, fun ⟨i, h, _⟩ => by omega⟩
  | k + 1 => by
    show s ∈ rowL C (gt C k) k (rbase C k) ↔ _
    rw [mem_rowL, mem_rbase]
    constructor
    · rintro (⟨i, hi, h⟩ | ⟨j, hj, h⟩)
      · exact ⟨i, by omega, h⟩
      · exact ⟨k, by omega, j, hj, h⟩
    · rintro ⟨i, hi, j, hj, h⟩
      by_cases e : i = k
      · subst e; exact .inr ⟨j, hj, h⟩
      · exact .inl ⟨i, by omega, j, hj, h⟩
theorem rbase_nodup {C : List ByteArray} : ∀ k, (rbase C k).Nodup
  | 0 => List.nodup_nil
  | k + 1 => rowL_nodup (rbase_nodup k) _
theorem rbase_found {C : List ByteArray} : Found C (rbase C C.length) 0 where
  nodup := rbase_nodup _
  left := fun s hs => by
    obtain ⟨i, hi, j, hj, h⟩ := mem_rbase.1 hs
    rcases h with h | h
    · exact LeftS.base (gt_mem (show j < C.length by omega)) (gt_mem hi) h
    · exact LeftS.base (gt_mem hi) (gt_mem (show j < C.length by omega)) h
  base := fun x hx y hy s h => by
    obtain ⟨i, hi, rfl⟩ := mem_gt hx
    obtain ⟨j, hj, rfl⟩ := mem_gt hy
    by_cases e : i = j
    · subst e
      exfalso
      have h1 := congrArg List.length h.1
      rw [List.length_append] at h1
      have : 0 < (bs s).length := List.length_pos_iff.2 h.2
      omega
    · by_cases h3 : i < j
      · exact mem_rbase.2 ⟨j, hj, i, h3, .inl h⟩
      · exact mem_rbase.2 ⟨i, hi, j, by omega, .inr h⟩
  done := fun j hj => by omega
  le := Nat.zero_le _
theorem rl3 {C : List ByteArray} (v : Valid C) (o : List ByteArray) (i : Nat) (hi : i < o.length) (ho : o.length ≤ 156) (ho2 : ∀ s ∈ o, s.size ≤ 140737488351232) (r : List ByteArray) (hr : Ev (fun k => wigeonref05_ends.l2 k C (rowL C (gt o i) C.length o) ((i + 1 : Nat) : Int)) r) (d : Nat) : ∀ j, j + d = C.length → Ev (fun k => wigeonref05_ends.l3 k C (rowL C (gt o i) j o) (i : Int) (j : Int)) r := by
  have hC := v.few
  induction d with
  | zero =>
    intro j hj
    obtain rfl : j = C.length := by omega
    refine Ev.step (fun k => by rw [wigeonref05_ends.l3]) (Ev.ifn (by omega) ?_)
    rw [w64s (by omega)]
    exact hr
  | succ d ih =>
    intro j hj
    have h1 := rowL_ge C (gt o i) o j
    have h2 := rowL_le C (gt o i) o j
    have h3 := rowL_get C (gt o i) o i hi j
    refine Ev.step (fun k => by rw [wigeonref05_ends.l3, rdOf_gt, rdOf_gt, h3, w64s (show j < 1000000000000000000 by omega)]) (Ev.ifp (by omega) (Ev.ifp (by omega) (Ev.ifp (by omega) (Ev.ifp (by omega) ?_))))
    exact step_bind (o := rowL C (gt o i) j o) (x := gt o i) (y := gt C j) (g := fun k o' => wigeonref05_ends.l3 k C o' (i : Int) ((j + 1 : Nat) : Int)) (ho2 _ (gt_mem hi)) (by have := v.size12 _ (gt_mem (show j < C.length by omega)); omega) (by omega) (ih (j + 1) (by omega))
theorem left_size {C : List ByteArray} (v : Valid C) {s : ByteArray} (h : LeftS C s) : s.size ≤ 12 := by
  have h1 := left_tail h
  unfold tails at h1
  rw [List.mem_flatMap] at h1
  obtain ⟨x, hx, h2⟩ := h1
  rw [List.mem_map] at h2
  obtain ⟨i, _, rfl⟩ := h2
  have := v.size12 x hx
  rw [← bs_len, bs_mk, List.length_drop, bs_len]
  omega
theorem rl2 {C : List ByteArray} (v : Valid C) (d : Nat) : ∀ (o : List ByteArray) (i : Nat), Found C o i → 157 ≤ d + i → ∃ E, Ev (fun k => wigeonref05_ends.l2 k C o (i : Int)) E ∧ Found C E E.length := by
  have hC := v.few
  induction d with
  | zero => intro o i h hd; have := h.len v; have := h.le; omega
  | succ d ih =>
    intro o i h hd
    have hl := h.len v
    by_cases hi : i < o.length
    · have hF : Found C (rowL C (gt o i) C.length o) (i + 1) := h.next hi (rowL_nodup h.nodup _) (fun s => by
        rw [mem_rowL]
        constructor
        · rintro (h1 | ⟨j, hj, h1⟩)
          · exact .inl h1
          · exact .inr ⟨gt C j, gt_mem hj, h1⟩
        · rintro (h1 | ⟨x, hx, h1⟩)
          · exact .inl h1
          · obtain ⟨j, hj, rfl⟩ := mem_gt hx
            exact .inr ⟨j, hj, h1⟩) (fun j hj => rowL_get C (gt o i) o j hj _) (rowL_ge _ _ _ _)
      obtain ⟨E, h1, h2⟩ := ih _ (i + 1) hF (by omega)
      refine ⟨E, Ev.step (fun k => by rw [wigeonref05_ends.l2]) (Ev.ifp (by omega) ?_), h2⟩
      exact rl3 v o i hi (by omega) (fun s hs => by have := left_size v (h.left s hs); omega) E h1 C.length 0 (by omega)
    · have := h.le
      obtain rfl : i = o.length := by omega
      exact ⟨o, Ev.step (fun k => by rw [wigeonref05_ends.l2]) (Ev.ifn (by omega) (Ev.now _)), h⟩
theorem rl1 {C : List ByteArray} (v : Valid C) (i : Nat) (hi : i < C.length) (o : List ByteArray) (ho : o.length ≤ 156) (r : List ByteArray) (hr : Ev (fun k => wigeonref05_ends.l0 k C (rowL C (gt C i) i o) ((i + 1 : Nat) : Int)) r) (d : Nat) : ∀ j, j + d = i → Ev (fun k => wigeonref05_ends.l1 k C (rowL C (gt C i) j o) (i : Int) (j : Int)) r := by
  have hC := v.few
  induction d with
  | zero =>
    intro j hj
    obtain rfl : j = i := by omega
    refine Ev.step (fun k => by rw [wigeonref05_ends.l1]) (Ev.ifn (by omega) ?_)
    rw [w64s (by omega)]
    exact hr
  | succ d ih =>
    intro j hj
    have h2 := rowL_le C (gt C i) o j
    refine Ev.step (fun k => by rw [wigeonref05_ends.l1, rdOf_gt, rdOf_gt, w64s (show j < 1000000000000000000 by omega)]) (Ev.ifp (by omega) (Ev.ifp (by omega) (Ev.ifp (by omega) (Ev.ifp (by omega) (Ev.ifp (by omega) ?_)))))
    exact step_bind (o := rowL C (gt C i) j o) (x := gt C i) (y := gt C j) (g := fun k o' => wigeonref05_ends.l1 k C o' (i : Int) ((j + 1 : Nat) : Int)) (by have := v.size12 _ (gt_mem hi); omega) (by have := v.size12 _ (gt_mem (show j < C.length by omega)); omega) (by omega) (ih (j + 1) (by omega))
theorem rl0 {C : List ByteArray} (v : Valid C) (r : List ByteArray) (hr : Ev (fun k => wigeonref05_ends.l2 k C (rbase C C.length) 0) r) (d : Nat) : ∀ i, i + d = C.length → Ev (fun k => wigeonref05_ends.l0 k C (rbase C i) (i : Int)) r := by
  have hC := v.few
  induction d with
  | zero =>
    intro i hi
    obtain rfl : i = C.length := by omega
    exact Ev.step (fun k => by rw [wigeonref05_ends.l0]) (Ev.ifn (by omega) hr)
  | succ d ih =>
    intro i hi
    refine Ev.step (fun k => by rw [wigeonref05_ends.l0]) (Ev.ifp (by omega) ?_)
    exact rl1 v i (by omega) (rbase C i) (by have := rbase_le C hC i (by omega); omega) r (ih (i + 1) (by omega)) i 0 (by omega)
/-- The reference's ends. -/
theorem rends_ev {C : List ByteArray} (v : Valid C) : ∃ E, Ev (fun k => wigeonref05_ends.f k C) E ∧ E.Nodup ∧ (∀ s, s ∈ E ↔ LeftS C s) ∧ E.length ≤ 156 := by
  obtain ⟨E, h1, h2⟩ := rl2 v 157 _ 0 rbase_found (by omega)
  exact ⟨E, rl0 v E h1 C.length 0 (by omega), h2.nodup, fun s => h2.all, h2.len v⟩
end Go.Proofs.Ytpkafcoflgbnaaa.Pure
