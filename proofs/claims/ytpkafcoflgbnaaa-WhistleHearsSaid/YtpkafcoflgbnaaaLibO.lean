import Derived.Test.YtpkafcoflgbnaaaQx0
import Derived.Test.YtpkafcoflgbnaaaLibN
namespace Go.Proofs.Ytpkafcoflgbnaaa.Pure
open Go.RowKit Go.Proofs.Ytpkafcoflgbnaaa.Q Go.Proofs.YtpkafcoflgbnaaaW.PrintWords Go.Proofs.YtpkafcoflgbnaaaW.PrintLast
set_option linter.unusedVariables false

/-! In how many ways a text can be told apart into signals; both count just that. -/

def wayB (C : List ByteArray) : Nat → List UInt8 → Nat
  | 0, l => if l.isEmpty then 1 else 0
  | k + 1, l => if l.isEmpty then 1 else (C.map fun s => if (bs s).isPrefixOf l then wayB C k (l.drop s.size) else 0).sum
def ways (C : List ByteArray) (l : List UInt8) : Nat := wayB C l.length l
theorem sum_congr {α : Type} {f g : α → Nat} : ∀ {l : List α}, (∀ x ∈ l, f x = g x) → (l.map f).sum = (l.map g).sum
  | [], _ => rfl
  | x :: l, h => by
    rw [List.map_cons, List.map_cons, List.sum_cons, List.sum_cons, h x (List.mem_cons_self ..), sum_congr fun y hy => h y (List.mem_cons_of_mem _ hy)]
theorem sum_le {α : Type} {f g : α → Nat} : ∀ {l : List α}, (∀ x ∈ l, f x ≤ g x) → (l.map f).sum ≤ (l.map g).sum
  | [], _ => Nat.le_refl _
  | x :: l, h => by
    rw [List.map_cons, List.map_cons, List.sum_cons, List.sum_cons]
    exact Nat.add_le_add (h x (List.mem_cons_self ..)) (sum_le fun y hy => h y (List.mem_cons_of_mem _ hy))
theorem sum_filter {α : Type} (p : α → Bool) (f : α → Nat) : ∀ l : List α, (l.map fun x => if p x then f x else 0).sum = ((l.filter p).map f).sum
  | [] => rfl
  | x :: l => by
    rw [List.map_cons, List.sum_cons, sum_filter p f l, List.filter_cons]
    cases p x <;> simp
theorem wayB_same {C : List ByteArray} (hC : ∀ s ∈ C, 1 ≤ s.size) : ∀ (k m : Nat) (l : List UInt8), l.length ≤ k → l.length ≤ m → wayB C k l = wayB C m l
  | k, m, [], _, _ => by cases k <;> cases m <;> rfl
  | k + 1, m + 1, x :: l, h1, h2 => by
    show (C.map _).sum = (C.map _).sum
    refine sum_congr fun s hs => ?_
    have := hC s hs
    rw [wayB_same hC k m ((x :: l).drop s.size) (by rw [List.length_drop]; omega) (by rw [List.length_drop]; omega)]
def term (C : List ByteArray) (l : List UInt8) (s : ByteArray) : Nat := if (bs s).isPrefixOf l then ways C (l.drop s.size) else 0
theorem ways_nil (C : List ByteArray) : ways C [] = 1 := rfl
theorem ways_step {C : List ByteArray} (hC : ∀ s ∈ C, 1 ≤ s.size) {l : List UInt8} (h : l ≠ []) : ways C l = (C.map (term C l)).sum := by
  cases l with
  | nil => exact absurd rfl h
  | cons x l =>
    show (C.map _).sum = _
    refine sum_congr fun s hs => ?_
    have := hC s hs
    unfold term ways
    rw [wayB_same hC l.length ((x :: l).drop s.size).length ((x :: l).drop s.size) (by rw [List.length_drop, List.length_cons]; omega) (Nat.le_refl _)]
theorem pows_lt : ∀ (n : Nat) (J : List Nat), J.Nodup → (∀ j ∈ J, 1 ≤ j ∧ j ≤ n) → (J.map fun j => 2 ^ (n - j)).sum < 2 ^ n
  | 0, J, _, h => by
    cases J with
    | nil => decide
    | cons j J => have := h j (List.mem_cons_self ..); omega
  | n + 1, J, hn, h => by
    have key : ∀ K : List Nat, K.Nodup → (∀ j ∈ K, 1 ≤ j ∧ j ≤ n) → (K.map fun j => 2 ^ (n + 1 - j)).sum + 2 ≤ 2 ^ (n + 1) := fun K h1 h2 => by
      have e : (K.map fun j => 2 ^ (n + 1 - j)).sum = 2 * (K.map fun j => 2 ^ (n - j)).sum := by
        clear h1
        induction K with
        | nil => rfl
        | cons j K ih =>
          have := h2 j (List.mem_cons_self ..)
          rw [List.map_cons, List.map_cons, List.sum_cons, List.sum_cons, ih fun y hy => h2 y (List.mem_cons_of_mem _ hy), Nat.mul_add, show n + 1 - j = (n - j) + 1 by omega, Nat.pow_succ, Nat.mul_comm (2 ^ (n - j)) 2]
      have := pows_lt n K h1 h2
      rw [e, Nat.pow_succ]; omega
    by_cases hm : n + 1 ∈ J
    · have hp := List.perm_cons_erase hm
      rw [(hp.map _).sum_nat, List.map_cons, List.sum_cons, Nat.sub_self, Nat.pow_zero]
      have := key (J.erase (n + 1)) (hn.erase _) fun j hj => by
        have h1 := h j (List.mem_of_mem_erase hj)
        have h2 : j ≠ n + 1 := (hn.mem_erase_iff.1 hj).1
        omega
      omega
    · have := key J hn fun j hj => by
        have h1 := h j hj
        have h2 : j ≠ n + 1 := fun e => hm (e ▸ hj)
        omega
      omega
theorem pref_take {x l : List UInt8} (h : x.isPrefixOf l = true) : x = l.take x.length := by
  obtain ⟨t, rfl⟩ := List.isPrefixOf_iff_prefix.1 h
  rw [List.take_left]
theorem pref_len {x l : List UInt8} (h : x.isPrefixOf l = true) : x.length ≤ l.length := (List.isPrefixOf_iff_prefix.1 h).length_le
theorem terms_le {C : List ByteArray} (v : Valid C) (l : List UInt8) (hl : l ≠ []) (ih : ∀ l' : List UInt8, l'.length < l.length → ways C l' ≤ 2 ^ l'.length) : (C.map (term C l)).sum ≤ 2 ^ l.length := by
  have h1 : (C.map (term C l)).sum ≤ (C.map fun s => if (bs s).isPrefixOf l then 2 ^ (l.length - s.size) else 0).sum := sum_le fun s hs => by
    unfold term
    by_cases h : (bs s).isPrefixOf l = true
    · rw [if_pos h, if_pos h]
      have := v.size1 s hs
      have h2 : 0 < l.length := List.length_pos_iff.2 hl
      have := ih (l.drop s.size) (by rw [List.length_drop]; omega)
      rwa [List.length_drop] at this
    · rw [if_neg h, if_neg h]; exact Nat.le_refl _
  refine Nat.le_trans h1 ?_
  rw [sum_filter (fun s => (bs s).isPrefixOf l) (fun s => 2 ^ (l.length - s.size))]
  have e : ((C.filter fun s => (bs s).isPrefixOf l).map fun s => 2 ^ (l.length - s.size)) = (((C.filter fun s => (bs s).isPrefixOf l).map ByteArray.size).map fun j => 2 ^ (l.length - j)) := by rw [List.map_map]; rfl
  rw [e]
  refine Nat.le_of_lt (pows_lt _ _ ?_ fun j hj => ?_)
  · refine List.nodup_iff_pairwise_ne.2 (List.pairwise_map.2 ?_)
    refine List.Pairwise.imp_of_mem (R := (· ≠ ·)) (fun {a b} ha hb h hs => h ?_) (List.nodup_iff_pairwise_ne.1 (v.nodup.filter _))
    have pa := pref_take (List.mem_filter.1 ha).2
    have pb := pref_take (List.mem_filter.1 hb).2
    rw [bs_len] at pa pb
    exact bs_inj (by rw [pa, pb, hs])
  · obtain ⟨s, hs, rfl⟩ := List.mem_map.1 hj
    have hs2 := List.mem_filter.1 hs
    have := pref_len hs2.2
    rw [bs_len] at this
    exact ⟨v.size1 s hs2.1, this⟩
theorem ways_le {C : List ByteArray} (v : Valid C) : ∀ (n : Nat) (l : List UInt8), l.length = n → ways C l ≤ 2 ^ n := by
  intro n
  induction n using Nat.strongRecOn with
  | _ n ih =>
    intro l hl
    by_cases h : l = []
    · subst h; subst hl; exact Nat.le_refl _
    · rw [ways_step v.size1 h, ← hl]
      exact terms_le v l h fun l' hl' => ih _ (by omega) l' rfl
theorem hd_eq (t s : ByteArray) (p : Nat) : headB (t.extract p t.size) s = (bs s).isPrefixOf ((bs t).drop p) := by
  show (bs s).isPrefixOf (bs (t.extract p t.size)) = _
  rw [bs_ext, List.take_of_length_le (by rw [bs_len]; exact Nat.le_refl _)]
/-- In how many ways the text from p on can be told apart. -/
def wayT (C : List ByteArray) (t : ByteArray) (p : Nat) : Nat := ways C ((bs t).drop p)
def partW (C : List ByteArray) (t : ByteArray) (p i : Nat) : Nat := ((C.take i).map (term C ((bs t).drop p))).sum
theorem partW_all {C : List ByteArray} (v : Valid C) (t : ByteArray) {p : Nat} (hp : p < t.size) : partW C t p C.length = wayT C t p := by
  unfold partW wayT
  rw [List.take_length, ways_step v.size1]
  intro h
  have := congrArg List.length h
  rw [List.length_drop, bs_len, List.length_nil] at this
  omega
theorem partW_succ {C : List ByteArray} (t : ByteArray) (p : Nat) {i : Nat} (hi : i < C.length) : partW C t p (i + 1) = partW C t p i + (if headB (t.extract p t.size) (gt C i) = true then wayT C t (p + (gt C i).size) else 0) := by
  unfold partW
  rw [List.take_add_one, List.getElem?_eq_getElem hi, List.map_append, List.sum_append]
  congr 1
  have e : C[i] = gt C i := by unfold gt; rw [List.getD_eq_getElem?_getD, List.getElem?_eq_getElem hi]; rfl
  show (List.map _ [C[i]]).sum = _
  rw [e, List.map_cons, List.map_nil, List.sum_cons, List.sum_nil, Nat.add_zero, hd_eq]
  unfold term wayT
  rw [List.drop_drop]
theorem wayT_le {C : List ByteArray} (v : Valid C) (t : ByteArray) (ht : t.size ≤ 60) (p : Nat) : wayT C t p ≤ 1152921504606846976 := by
  have := ways_le v _ ((bs t).drop p) rfl
  refine Nat.le_trans this (Nat.le_trans (Nat.pow_le_pow_right (by decide) (show _ ≤ 60 by rw [List.length_drop, bs_len]; omega)) (by decide))
theorem sum_take {α : Type} (f : α → Nat) (C : List α) (i : Nat) : ((C.take i).map f).sum ≤ (C.map f).sum := by
  conv => rhs; rw [← List.take_append_drop i C]
  rw [List.map_append, List.sum_append]; omega
theorem partW_le {C : List ByteArray} (v : Valid C) (t : ByteArray) (ht : t.size ≤ 60) {p : Nat} (hp : p < t.size) (i : Nat) : partW C t p i ≤ 1152921504606846976 := by
  refine Nat.le_trans ?_ (wayT_le v t ht p)
  rw [← partW_all v t hp]
  unfold partW
  rw [List.take_length]
  exact sum_take _ C i
/-- The counts, from i on. -/
def fullW (C : List ByteArray) (t : ByteArray) (i : Nat) : List Int := (List.range (t.size + 1)).map fun j => if j < i then 0 else ((wayT C t j : Nat) : Int)
theorem fullW_len (C : List ByteArray) (t : ByteArray) (i : Nat) : (fullW C t i).length = t.size + 1 := by unfold fullW; simp
theorem fullW_rd (C : List ByteArray) (t : ByteArray) (i j : Nat) (hj : j ≤ t.size) : rd (fullW C t i) (j : Int) = if j < i then 0 else ((wayT C t j : Nat) : Int) := by
  rw [rd_nat]
  unfold fullW
  rw [List.getD_eq_getElem?_getD, List.getElem?_map, List.getElem?_range (by omega)]; rfl
theorem rd_set (L : List Int) (i j : Nat) (x : Int) (h : i < L.length) : rd (L.set i x) (j : Int) = if i = j then x else rd L (j : Int) := by
  rw [rd_nat, rd_nat, List.getD_eq_getElem?_getD, List.getD_eq_getElem?_getD, List.getElem?_set]
  by_cases e : i = j
  · rw [if_pos e, if_pos e, if_pos h]; rfl
  · rw [if_neg e, if_neg e]
theorem fullW_get (C : List ByteArray) (t : ByteArray) (i j : Nat) (h : j < (fullW C t i).length) : (fullW C t i)[j] = if j < i then 0 else ((wayT C t j : Nat) : Int) := by
  have e := fullW_rd C t i j (by rw [fullW_len] at h; omega)
  rw [rd_nat, List.getD_eq_getElem?_getD, List.getElem?_eq_getElem h] at e
  exact e
theorem fullW_set (C : List ByteArray) (t : ByteArray) (i : Nat) (hi : i ≤ t.size) : (fullW C t (i + 1)).set i ((wayT C t i : Nat) : Int) = fullW C t i := by
  refine List.ext_getElem (by rw [List.length_set, fullW_len, fullW_len]) fun j h1 h2 => ?_
  rw [List.getElem_set, fullW_get, fullW_get]
  by_cases e : i = j
  · subst e; rw [if_pos rfl, if_neg (by omega)]
  · rw [if_neg e]
    by_cases h : j < i
    · rw [if_pos (by omega), if_pos h]
    · rw [if_neg (by omega), if_neg h]
theorem fullW_zero (C : List ByteArray) (t : ByteArray) (i : Nat) (hi : i ≤ t.size) : (fullW C t (i + 1)).set i 0 = fullW C t (i + 1) := by
  refine List.ext_getElem (by rw [List.length_set]) fun j h1 h2 => ?_
  rw [List.getElem_set, fullW_get]
  by_cases e : i = j
  · subst e; rw [if_pos rfl, if_pos (by omega)]
  · rw [if_neg e]
theorem hd_fits {t s : ByteArray} {p : Nat} (hp : p ≤ t.size) (h : headB (t.extract p t.size) s = true) : p + s.size ≤ t.size := by
  rw [hd_eq] at h
  have := pref_len h
  rw [List.length_drop, bs_len, bs_len] at this
  omega
end Go.Proofs.Ytpkafcoflgbnaaa.Pure
