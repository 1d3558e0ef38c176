import Derived.Test.YtpkafcoflgbnaaaQx0
import Derived.Test.YtpkafcoflgbnaaaWh4
import Derived.Test.YtpkafcoflgbnaaaLibH
import Derived.Sort.LotA
import Derived.Sort.Walk0
namespace Go.Proofs.Ytpkafcoflgbnaaa.Pure
open Go.RowKit Go.Proofs.Ytpkafcoflgbnaaa.Q Go.Proofs.YtpkafcoflgbnaaaW.PrintWords Go.Proofs.YtpkafcoflgbnaaaW.PrintLast Go.Proofs.YtpkafcoflgbnaaaW.PrintMore
set_option linter.unusedVariables false

/-! Insertion sort of places is stable; the order of lengths, by both. -/

theorem inner_same {lt lt' : Nat → Nat → Bool} (h : ∀ x y, y < x → lt x y = lt' x y) : ∀ (k : Nat) (d : Array Nat), k < d.size → (∀ j, j < k → d[j]! < d[k]!) → Go.Sort.insInner lt 0 k d = Go.Sort.insInner lt' 0 k d
  | 0, d, _, _ => rfl
  | k + 1, d, hk, hd => by
    unfold Go.Sort.insInner
    rw [h _ _ (hd k (by omega))]
    split
    · refine inner_same h k _ (by rw [Go.Sort.swp_size]; omega) fun j hj => ?_
      rw [Go.Sort.swp_get d hk (show k < d.size by omega), Go.Sort.swp_get d hk (show k < d.size by omega), if_neg (by omega), if_neg (by omega), if_pos rfl]
      exact hd j (by omega)
    · rfl
theorem inner_keeps {lt : Nat → Nat → Bool} : ∀ (k : Nat) (d : Array Nat), k < d.size → ∀ B, (∀ j, j ≤ k → d[j]! < B) → (Go.Sort.insInner lt 0 k d).size = d.size ∧ (∀ j, j ≤ k → (Go.Sort.insInner lt 0 k d)[j]! < B) ∧ ∀ j, k < j → (Go.Sort.insInner lt 0 k d)[j]! = d[j]!
  | 0, d, _, _, hB => ⟨rfl, hB, fun _ _ => rfl⟩
  | k + 1, d, hk, B, hB => by
    unfold Go.Sort.insInner
    split
    · have g := Go.Sort.swp_get d hk (show k < d.size by omega)
      obtain ⟨h1, h2, h3⟩ := inner_keeps (lt := lt) k (Go.Sort.swp d (k + 1) k) (by rw [Go.Sort.swp_size]; omega) B fun j hj => by
        rw [g]
        by_cases e : j = k
        · rw [if_pos e]; exact hB _ (Nat.le_refl _)
        · rw [if_neg e, if_neg (by omega)]; exact hB j (by omega)
      refine ⟨by rw [h1, Go.Sort.swp_size], fun j hj => ?_, fun j hj => ?_⟩
      · by_cases e : j ≤ k
        · exact h2 j e
        · obtain rfl : j = k + 1 := by omega
          rw [h3 _ (by omega), g, if_neg (by omega), if_pos rfl]
          exact hB k (by omega)
      · rw [h3 j (by omega), g, if_neg (by omega), if_neg (by omega)]
    · exact ⟨rfl, hB, fun _ _ => rfl⟩
theorem outer_same {lt lt' : Nat → Nat → Bool} (h : ∀ x y, y < x → lt x y = lt' x y) (n : Nat) : ∀ (t i : Nat) (d : Array Nat), i + t = n → d.size = n → (∀ j, j < i → d[j]! < i) → (∀ j, i ≤ j → j < n → d[j]! = j) → Go.Sort.insOuter lt 0 n i d = Go.Sort.insOuter lt' 0 n i d
  | 0, i, d, hi, _, _, _ => by
    unfold Go.Sort.insOuter
    rw [if_neg (by omega), if_neg (by omega)]
  | t + 1, i, d, hi, hd, h1, h2 => by
    conv => lhs; unfold Go.Sort.insOuter
    conv => rhs; unfold Go.Sort.insOuter
    have hii := h2 i (Nat.le_refl _) (by omega)
    rw [if_pos (by omega), if_pos (by omega), ← inner_same h i d (by omega) fun j hj => by rw [hii]; exact h1 j hj]
    obtain ⟨k1, k2, k3⟩ := inner_keeps (lt := lt) i d (by omega) (i + 1) fun j hj => by
      by_cases e : j = i
      · rw [e, hii]; omega
      · have := h1 j (by omega); omega
    exact outer_same h n t (i + 1) _ (by omega) (by rw [k1, hd]) (fun j hj => k2 j (by omega)) fun j a b => by rw [k3 j (by omega)]; exact h2 j (by omega) b
theorem range_get (n j : Nat) (h : j < n) : (List.range n).toArray[j]! = j := by
  rw [getElem!_pos _ j (by simpa using h)]; simp
/-- The order of places: by f, and where f is the same by the place. -/
def lexB (f : Nat → Int) (x y : Nat) : Bool := decide (f x < f y ∨ f x = f y ∧ x < y)
def Lex (f : Nat → Int) (x y : Nat) : Prop := f x < f y ∨ f x = f y ∧ x < y
theorem swo_lex (f : Nat → Int) : Go.Sort.SWO (lexB f) where
  irrefl := fun x => by unfold lexB; rw [decide_eq_false_iff_not]; omega
  trans := fun x y z h1 h2 => by unfold lexB at *; rw [decide_eq_true_eq] at *; omega
  ntrans := fun x y z h1 h2 => by unfold lexB at *; rw [decide_eq_false_iff_not] at *; omega
/-- Sorted by f, stably: the one order of the places in which each stands ahead of the next. -/
theorem stable_lex (f : Nat → Int) (n : Nat) (o : List Nat) (hp : o.Perm (List.range n)) (ho : o.Pairwise (Lex f)) :
    (Go.Sort.insertionSort (fun x y => decide (f x < f y)) (List.range n).toArray 0 n).toList = o := by
  have hs : Go.Sort.insertionSort (fun x y => decide (f x < f y)) (List.range n).toArray 0 n = Go.Sort.insertionSort (lexB f) (List.range n).toArray 0 n := by
    unfold Go.Sort.insertionSort
    by_cases h0 : n = 0
    · subst h0
      unfold Go.Sort.insOuter
      rw [if_neg (by omega), if_neg (by omega)]
    · refine outer_same (fun x y hxy => ?_) n (n - 1) (0 + 1) _ (by omega) (by simp) (fun j hj => ?_) fun j _ hj => range_get n j hj
      · unfold lexB
        rw [Bool.eq_iff_iff, decide_eq_true_eq, decide_eq_true_eq]; omega
      · obtain rfl : j = 0 := by omega
        rw [range_get n 0 (by omega)]; omega
  rw [hs]
  obtain ⟨⟨hsz, _, hq⟩, hh⟩ := Go.Sort.insertionSort_holds (swo_lex f) (List.range n).toArray 0 n (Nat.zero_le _) (by simp)
  generalize Go.Sort.insertionSort (lexB f) (List.range n).toArray 0 n = D at *
  have hDl : D.size = n := by rw [hsz]; simp
  have hp2 : D.toList.Perm (List.range n) := by
    have e1 : (D.extract 0 n).toList = D.toList := by rw [← hDl]; simp
    have e2 : ((List.range n).toArray.extract 0 n).toList = List.range n := by simp
    rw [e1, e2] at hq
    exact hq
  refine List.Perm.eq_of_pairwise (le := fun x y => ¬ Lex f y x) (fun a b _ _ h1 h2 => ?_) ?_ ?_ (hp2.trans hp.symm)
  · unfold Lex at *; omega
  · rw [List.pairwise_iff_getElem]
    intro i j hi hj hij
    have hj2 : j < D.size := by simpa using hj
    have := hh i j (Nat.zero_le _) hij (by omega)
    rw [getElem!_pos D i (by omega), getElem!_pos D j hj2] at this
    unfold lexB at this
    rw [decide_eq_false_iff_not] at this
    simpa [Lex] using this
  · exact ho.imp fun {a b} h => by unfold Lex at *; omega

/-- The length at a place. -/
def Ln (l : List Int) (i : Nat) : Nat := (rd l (i : Int)).toNat
def keyN (l : List Int) (x : Nat) : Int := rd l ((x % l.length : Nat) : Int)
def rowO (l : List Int) (n i d : Nat) : List Nat := (List.range' i d).filter fun j => rd l (j : Int) == (n : Int)
def refO (l : List Int) (n d : Nat) : List Nat := (List.range' n d).flatMap fun m => rowO l m 0 l.length
theorem mem_rowO {l : List Int} {n i d x : Nat} : x ∈ rowO l n i d ↔ (i ≤ x ∧ x < i + d) ∧ rd l (x : Int) = (n : Int) := by
  unfold rowO
  rw [List.mem_filter, List.mem_range'_1]; simp
theorem mem_refO {l : List Int} (hl : LenOk l) {x : Nat} : x ∈ refO l 1 12 ↔ x < l.length := by
  unfold refO
  rw [List.mem_flatMap]
  constructor
  · rintro ⟨n, _, hx⟩
    have := (mem_rowO.1 hx).1; omega
  · intro hx
    obtain ⟨h1, h2⟩ := hl.2 (rd l (x : Int)) (by rw [rd_nat]; exact getD_mem hx)
    exact ⟨(rd l (x : Int)).toNat, List.mem_range'_1.2 (by omega), mem_rowO.2 ⟨by omega, by omega⟩⟩
theorem refO_lex (l : List Int) (n d : Nat) : (refO l n d).Pairwise (Lex (keyN l)) := by
  have hk : ∀ x m, x ∈ rowO l m 0 l.length → keyN l x = (m : Int) := fun x m hx => by
    obtain ⟨h1, h2⟩ := mem_rowO.1 hx
    unfold keyN; rw [Nat.mod_eq_of_lt (by omega)]; exact h2
  unfold refO
  rw [List.pairwise_flatMap]
  refine ⟨fun m _ => ?_, ?_⟩
  · refine List.Pairwise.imp_of_mem (R := (· < ·)) (fun {a b} ha hb h => .inr ⟨by rw [hk a m ha, hk b m hb], h⟩) ?_
    exact List.Pairwise.filter _ (List.pairwise_lt_range' 1)
  · refine (List.pairwise_lt_range' 1).imp fun {a b} h x hx y hy => .inl ?_
    rw [hk x a hx, hk y b hy]; omega
theorem refO_nodup (l : List Int) (n d : Nat) : (refO l n d).Nodup := by
  refine List.nodup_iff_pairwise_ne.2 ((refO_lex l n d).imp fun {a b} h e => ?_)
  subst e; unfold Lex at h; omega
theorem refO_perm {l : List Int} (hl : LenOk l) : (refO l 1 12).Perm (List.range l.length) := by
  refine (List.perm_ext_iff_of_nodup (refO_nodup l 1 12) List.nodup_range).2 fun x => ?_
  rw [mem_refO hl, List.mem_range]
theorem ordN_ref {l : List Int} (hl : LenOk l) : (ordN l).toList = refO l 1 12 := by
  have h := stable_lex (keyN l) l.length (refO l 1 12) (refO_perm hl) (refO_lex l 1 12)
  have e : ltOf (cfN l) = fun x y => decide (keyN l x < keyN l y) := by funext x y; exact lt_cfN l x y
  unfold ordN
  rw [e]; exact h
theorem ordL_ref {l : List Int} (hl : LenOk l) : ordL l = (refO l 1 12).map fun x : Nat => (x : Int) := by
  unfold ordL
  rw [ordN_ref hl]
  exact List.map_congr_left fun x hx => by rw [Nat.mod_eq_of_lt ((mem_refO hl).1 hx)]
/-- Signals one after another, in an order of the places. -/
def canon (l : List Int) : List Nat → Nat → List ByteArray → List ByteArray
  | [], _, out => out
  | i :: r, b, out => canon l r (b + 2 ^ (12 - Ln l i)) (out.set i (sigB (b / 2 ^ (12 - Ln l i)) (Ln l i)))
def shareL (l : List Int) (r : List Nat) : Nat := (r.map fun i => 2 ^ (12 - Ln l i)).sum
theorem shareL_cons (l : List Int) (i : Nat) (r : List Nat) : shareL l (i :: r) = 2 ^ (12 - Ln l i) + shareL l r := by unfold shareL; rw [List.map_cons, List.sum_cons]
theorem shareL_append (l : List Int) (r s : List Nat) : shareL l (r ++ s) = shareL l r + shareL l s := by unfold shareL; rw [List.map_append, List.sum_append]
theorem canon_append (l : List Int) : ∀ (r s : List Nat) (b : Nat) (out : List ByteArray), canon l (r ++ s) b out = canon l s (b + shareL l r) (canon l r b out)
  | [], s, b, out => rfl
  | i :: r, s, b, out => by
    show canon l (r ++ s) _ _ = canon l s _ (canon l r _ _)
    rw [canon_append l r s, shareL_cons, Nat.add_assoc]
theorem shareL_fill {l : List Int} (hl : LenOk l) : shareL l (refO l 1 12) = fillN l := by
  unfold shareL fillN
  rw [((refO_perm hl).map _).sum_nat]
  congr 1
  refine List.ext_getElem (by simp) fun i h1 h2 => ?_
  have hi : i < l.length := by simpa using h2
  simp only [List.getElem_map, List.getElem_range]
  unfold Ln
  rw [rd_nat, List.getD_eq_getElem?_getD, List.getElem?_eq_getElem hi]; rfl
theorem from_canon {l : List Int} : ∀ (r : List Nat) (num long b : Nat) (out : List ByteArray), (∀ i ∈ r, Ln l i ≤ 12 ∧ long ≤ Ln l i) → r.Pairwise (fun i j => Ln l i ≤ Ln l j) → (num + 1) * 2 ^ (12 - long) = b → b + shareL l r ≤ 4096 →
    fromGo l (r.map fun x : Nat => (x : Int)) false num long out = some (canon l r b out)
  | [], _, _, _, _, _, _, _, _ => rfl
  | i :: r, num, long, b, out, hr, hp, hb, hs => by
    obtain ⟨h12, hlo⟩ := hr i (List.mem_cons_self ..)
    have hpow : 2 ^ (12 - long) = 2 ^ (Ln l i - long) * 2 ^ (12 - Ln l i) := by rw [← Nat.pow_add]; congr 1; omega
    have hpos : 0 < 2 ^ (12 - Ln l i) := Nat.pow_pos (by decide)
    have hq : (num + 1) * 2 ^ (Ln l i - long) * 2 ^ (12 - Ln l i) = b := by rw [Nat.mul_assoc, ← hpow]; exact hb
    have hqb : (num + 1) * 2 ^ (Ln l i - long) ≤ b := by rw [← hq]; exact Nat.le_mul_of_pos_right _ hpos
    have hdiv : b / 2 ^ (12 - Ln l i) = (num + 1) * 2 ^ (Ln l i - long) := by rw [← hq, Nat.mul_div_cancel _ hpos]
    rw [shareL_cons] at hs
    have hrest := from_canon r ((num + 1) * 2 ^ (Ln l i - long)) (Ln l i) (b + 2 ^ (12 - Ln l i)) (out.set i (sigB (b / 2 ^ (12 - Ln l i)) (Ln l i)))
      (fun j hj => ⟨(hr j (List.mem_cons_of_mem _ hj)).1, (List.pairwise_cons.1 hp).1 j hj⟩) (List.pairwise_cons.1 hp).2 (by rw [Nat.add_mul, hq, Nat.one_mul]) (by omega)
    show (if (decide (long ≤ Ln l i) && decide ((num + 1) * 2 ^ (Ln l i - long) < 100000)) = true then fromGo l (r.map fun x : Nat => (x : Int)) false ((num + 1) * 2 ^ (Ln l i - long)) (Ln l i) (out.set ((i : Int)).toNat (sigB ((num + 1) * 2 ^ (Ln l i - long)) (Ln l i))) else none) = _
    rw [if_pos (by rw [Bool.and_eq_true, decide_eq_true_eq, decide_eq_true_eq]; omega), Int.toNat_natCast, ← hdiv, hdiv]
    rw [hdiv] at hrest
    rw [hrest]
    show _ = some (canon l r _ (out.set i (sigB (b / 2 ^ (12 - Ln l i)) (Ln l i))))
    rw [hdiv]
theorem refO_up (l : List Int) : (refO l 1 12).Pairwise (fun i j => Ln l i ≤ Ln l j) := by
  refine List.Pairwise.imp_of_mem (R := Lex (keyN l)) (fun {a b} ha hb h => ?_) (refO_lex l 1 12)
  have hk : ∀ x, x ∈ refO l 1 12 → keyN l x = rd l (x : Int) := fun x hx => by
    obtain ⟨m, _, hx⟩ := List.mem_flatMap.1 hx
    have := (mem_rowO.1 hx).1
    unfold keyN; rw [Nat.mod_eq_of_lt (by omega)]
  unfold Lex at h
  rw [hk a ha, hk b hb] at h
  unfold Ln; omega
def canonP (l : List Int) : List ByteArray := canon l (refO l 1 12) 0 (List.replicate l.length ByteArray.empty)
theorem Ln_ok {l : List Int} (hl : LenOk l) {i : Nat} (hi : i < l.length) : 1 ≤ Ln l i ∧ Ln l i ≤ 12 ∧ ((Ln l i : Nat) : Int) = rd l (i : Int) := by
  obtain ⟨h1, h2⟩ := hl.2 (rd l (i : Int)) (by rw [rd_nat]; exact getD_mem hi)
  unfold Ln; omega
theorem fromL_canon {l : List Int} (hl : LenOk l) (h0 : 0 < l.length) (hf : fillN l ≤ 4096) : fromL l = some (canonP l) := by
  have hs := shareL_fill hl
  have hp := refO_up l
  have hm := @mem_refO l hl
  have hlen := (refO_perm hl).length_eq
  unfold fromL canonP
  rw [ordL_ref hl]
  generalize refO l 1 12 = o at *
  cases o with
  | nil => simp at hlen; omega
  | cons i r =>
    have hi := hm.1 (List.mem_cons_self ..)
    have hr0 : rd ((i :: r).map fun x : Nat => (x : Int)) 0 = (i : Int) := rfl
    rw [hr0]
    rw [shareL_cons] at hs
    have hrest := from_canon r 0 (Ln l i) (0 + 2 ^ (12 - Ln l i)) ((List.replicate l.length ByteArray.empty).set i (sigB (0 / 2 ^ (12 - Ln l i)) (Ln l i)))
      (fun j hj => ⟨(Ln_ok hl (hm.1 (List.mem_cons_of_mem _ hj))).2.1, (List.pairwise_cons.1 hp).1 j hj⟩) (List.pairwise_cons.1 hp).2 (by rw [Nat.zero_add, Nat.one_mul, Nat.zero_add]) (by omega)
    rw [Nat.zero_div] at hrest
    show (if (decide (Ln l i ≤ Ln l i) && decide (0 < 100000)) = true then fromGo l (r.map fun x : Nat => (x : Int)) false 0 (Ln l i) ((List.replicate l.length ByteArray.empty).set ((i : Int)).toNat (sigB 0 (Ln l i))) else none) = _
    rw [if_pos (by simp), Int.toNat_natCast, hrest]
    show _ = some (canon l r _ (List.set _ i (sigB (0 / 2 ^ (12 - Ln l i)) (Ln l i))))
    rw [Nat.zero_div]
end Go.Proofs.Ytpkafcoflgbnaaa.Pure
