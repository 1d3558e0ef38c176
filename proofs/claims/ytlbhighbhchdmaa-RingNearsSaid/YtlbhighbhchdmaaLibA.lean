import Derived.Test.YtlbhighbhchdmaaQx0
namespace Go.Proofs.Ytlbhighbhchdmaa.Pure
open Go.RowKit Go.Proofs.Ytlbhighbhchdmaa.Q Go.Proofs.YtlbhighbhchdmaaW.PrintWords Go.Proofs.YtlbhighbhchdmaaW.PrintLast

/-! Plain facts on the ten digits: the product, the inverse, the turn. -/

theorem Ev.ifp {α : Type} {c : Prop} [Decidable c] {f g : Nat → Option α} {r : α} (h : c) (k : Ev f r) : Ev (fun n => if c then f n else g n) r := by
  obtain ⟨K, k⟩ := k
  exact ⟨K, fun n hn => by show (if c then f n else g n) = some r; rw [if_pos h]; exact k n hn⟩
theorem Ev.ifn {α : Type} {c : Prop} [Decidable c] {f g : Nat → Option α} {r : α} (h : ¬ c) (k : Ev g r) : Ev (fun n => if c then f n else g n) r := by
  obtain ⟨K, k⟩ := k
  exact ⟨K, fun n hn => by show (if c then f n else g n) = some r; rw [if_neg h]; exact k n hn⟩
theorem Ev.some_bind {α β : Type} {f : Nat → α → Option β} {a : α} {r : β} (k : Ev (fun n => f n a) r) : Ev (fun n => (some a).bind (f n)) r := k
theorem Ev.bindc {α β : Type} {g : Option α} {f : Nat → α → Option β} {a : α} {r : β} (h : g = some a) (k : Ev (fun n => f n a) r) : Ev (fun n => g.bind (f n)) r := by
  subst h
  exact k
theorem Ev.val {α : Type} {a r : α} (h : a = r) : Ev (fun _ => some a) r := by
  subst h
  exact Ev.now _

def tm (x y : Nat) : Nat := if x < 5 then (if y < 5 then (x + y) % 5 else 5 + (x + y) % 5) else (if y < 5 then 5 + (x + 5 - y) % 5 else (x + 5 - y) % 5)
def ud (x : Nat) : Nat := if x < 5 then (5 - x) % 5 else x
def tn1 (x : Nat) : Nat := [1, 5, 7, 6, 2, 8, 3, 0, 9, 4].getD x 0
def tn : Nat → Nat → Nat
  | x, 0 => x
  | x, n + 1 => tn (tn1 x) n

theorem fin10 {P : Nat → Prop} (h : ∀ x : Fin 10, P x.val) (x : Nat) (hx : x < 10) : P x := h ⟨x, hx⟩
theorem tm_lt {x y : Nat} (hx : x < 10) (hy : y < 10) : tm x y < 10 := (by decide +kernel : ∀ x y : Fin 10, tm x.val y.val < 10) ⟨x, hx⟩ ⟨y, hy⟩
theorem ud_lt {x : Nat} (hx : x < 10) : ud x < 10 := (by decide +kernel : ∀ x : Fin 10, ud x.val < 10) ⟨x, hx⟩
theorem tn1_lt (x : Nat) : tn1 x < 10 := by
  by_cases hx : x < 10
  · exact (by decide +kernel : ∀ x : Fin 10, tn1 x.val < 10) ⟨x, hx⟩
  · unfold tn1
    rw [List.getD_eq_getElem?_getD, List.getElem?_eq_none (by simp; omega)]
    decide
theorem tn_lt {x : Nat} (hx : x < 10) (n : Nat) : tn x n < 10 := by
  induction n generalizing x with
  | zero => exact hx
  | succ n ih => exact ih (tn1_lt x)
theorem tm_assoc {x y z : Nat} (hx : x < 10) (hy : y < 10) (hz : z < 10) : tm (tm x y) z = tm x (tm y z) := (by decide +kernel : ∀ x y z : Fin 10, tm (tm x.val y.val) z.val = tm x.val (tm y.val z.val)) ⟨x, hx⟩ ⟨y, hy⟩ ⟨z, hz⟩
theorem tm_zero {x : Nat} (hx : x < 10) : tm 0 x = x := (by decide +kernel : ∀ x : Fin 10, tm 0 x.val = x.val) ⟨x, hx⟩
theorem zero_tm {x : Nat} (hx : x < 10) : tm x 0 = x := (by decide +kernel : ∀ x : Fin 10, tm x.val 0 = x.val) ⟨x, hx⟩
theorem ud_tm {x : Nat} (hx : x < 10) : tm (ud x) x = 0 := (by decide +kernel : ∀ x : Fin 10, tm (ud x.val) x.val = 0) ⟨x, hx⟩
theorem tm_ud {x : Nat} (hx : x < 10) : tm x (ud x) = 0 := (by decide +kernel : ∀ x : Fin 10, tm x.val (ud x.val) = 0) ⟨x, hx⟩
theorem tm_inj_left {x y z : Nat} (hx : x < 10) (hy : y < 10) (hz : z < 10) (h : tm x y = tm x z) : y = z := (by decide +kernel : ∀ x y z : Fin 10, tm x.val y.val = tm x.val z.val → y.val = z.val) ⟨x, hx⟩ ⟨y, hy⟩ ⟨z, hz⟩ h
theorem tm_inj_right {x y z : Nat} (hx : x < 10) (hy : y < 10) (hz : z < 10) (h : tm y x = tm z x) : y = z := (by decide +kernel : ∀ x y z : Fin 10, tm y.val x.val = tm z.val x.val → y.val = z.val) ⟨x, hx⟩ ⟨y, hy⟩ ⟨z, hz⟩ h
theorem tn1_inj {x y : Nat} (hx : x < 10) (hy : y < 10) (h : tn1 x = tn1 y) : x = y := (by decide +kernel : ∀ x y : Fin 10, tn1 x.val = tn1 y.val → x.val = y.val) ⟨x, hx⟩ ⟨y, hy⟩ h
theorem tn_inj {x y : Nat} (hx : x < 10) (hy : y < 10) {n : Nat} (h : tn x n = tn y n) : x = y := by
  induction n generalizing x y with
  | zero => exact h
  | succ n ih => exact tn1_inj hx hy (ih (tn1_lt x) (tn1_lt y) h)
theorem tn_succ (x n : Nat) : tn x (n + 1) = tn1 (tn x n) := by
  induction n generalizing x with
  | zero => rfl
  | succ n ih => exact ih (tn1 x)
/-- No exchange of two different neighbors passes. -/
theorem tm_swap1 : ∀ x y c : Fin 10, tm (tm c.val x.val) (tn1 y.val) = tm (tm c.val y.val) (tn1 x.val) → x.val = y.val := by decide +kernel
theorem tm_swap {x y c : Nat} (hx : x < 10) (hy : y < 10) (hc : c < 10) {n : Nat} (h : tm (tm c (tn x n)) (tn y (n + 1)) = tm (tm c (tn y n)) (tn x (n + 1))) : x = y := by
  rw [tn_succ, tn_succ] at h
  exact tn_inj hx hy (tm_swap1 ⟨_, tn_lt hx n⟩ ⟨_, tn_lt hy n⟩ ⟨c, hc⟩ h)

/-! The sum of digits. -/
def sumN (l : List Nat) (b : Nat) : Nat → Nat → Nat
  | c, 0 => c
  | c, n + 1 => sumN l b (tm c (tn (l.getD n 0) (l.length - 1 - n + b))) n
def Digs (l : List Nat) : Prop := ∀ n, l.getD n 0 < 10
theorem Digs.of {l : List Nat} (h : ∀ x ∈ l, x < 10) : Digs l := by
  intro n
  rw [List.getD_eq_getElem?_getD]
  rcases Nat.lt_or_ge n l.length with hn | hn
  · rw [List.getElem?_eq_getElem hn]; exact h _ (List.getElem_mem hn)
  · rw [List.getElem?_eq_none hn]; decide
theorem Digs.mem {l : List Nat} (h : Digs l) {x : Nat} (hx : x ∈ l) : x < 10 := by
  obtain ⟨n, hn, rfl⟩ := List.mem_iff_getElem.1 hx
  have := h n
  rwa [List.getD_eq_getElem?_getD, List.getElem?_eq_getElem hn] at this
theorem sumN_lt {l : List Nat} (hl : Digs l) (b : Nat) {c : Nat} (hc : c < 10) (n : Nat) : sumN l b c n < 10 := by
  induction n generalizing c with
  | zero => exact hc
  | succ n ih => exact ih (tm_lt hc (tn_lt (hl n) _))
theorem sumN_inj {l : List Nat} (hl : Digs l) (b : Nat) {c d : Nat} (hc : c < 10) (hd : d < 10) (n : Nat) (h : sumN l b c n = sumN l b d n) : c = d := by
  induction n generalizing c d with
  | zero => exact h
  | succ n ih =>
    have := ih (tm_lt hc (tn_lt (hl n) _)) (tm_lt hd (tn_lt (hl n) _)) h
    exact tm_inj_right (tn_lt (hl n) _) hc hd this
theorem sumN_left {l : List Nat} (hl : Digs l) (b : Nat) {c d : Nat} (hc : c < 10) (hd : d < 10) (n : Nat) : sumN l b (tm c d) n = tm c (sumN l b d n) := by
  induction n generalizing d with
  | zero => rfl
  | succ n ih =>
    show sumN l b (tm (tm c d) _) n = tm c (sumN l b (tm d _) n)
    rw [tm_assoc hc hd (tn_lt (hl n) _), ih (tm_lt hd (tn_lt (hl n) _))]
/-- Two lists of one length that agree below n. -/
theorem sumN_agree {l m : List Nat} (hlen : l.length = m.length) (b : Nat) (n : Nat) (h : ∀ i, i < n → l.getD i 0 = m.getD i 0) (c : Nat) : sumN l b c n = sumN m b c n := by
  induction n generalizing c with
  | zero => rfl
  | succ n ih =>
    show sumN l b _ n = sumN m b _ n
    rw [h n (by omega), hlen]
    exact ih (fun i hi => h i (by omega)) _
theorem sumN_wrong {l m : List Nat} (hl : Digs l) (hm : Digs m) (hlen : l.length = m.length) (b k : Nat) (h : ∀ i, i ≠ k → l.getD i 0 = m.getD i 0) (hk : l.getD k 0 ≠ m.getD k 0) (n : Nat) (hn : k < n) {c : Nat} (hc : c < 10) :
    sumN l b c n ≠ sumN m b c n := by
  induction n generalizing c with
  | zero => omega
  | succ n ih =>
    show sumN l b (tm c (tn (l.getD n 0) (l.length - 1 - n + b))) n ≠ sumN m b (tm c (tn (m.getD n 0) (m.length - 1 - n + b))) n
    by_cases e : n = k
    · subst e
      intro hh
      rw [sumN_agree hlen b n (fun i hi => h i (by omega)), ← hlen] at hh
      have h1 := sumN_inj hm b (tm_lt hc (tn_lt (hl n) _)) (tm_lt hc (tn_lt (hm n) _)) n hh
      exact hk (tn_inj (hl n) (hm n) (tm_inj_left hc (tn_lt (hl n) _) (tn_lt (hm n) _) h1))
    · rw [h n e, ← hlen]
      exact ih (by omega) (tm_lt hc (tn_lt (hm n) _))
theorem sumN_swap {l m : List Nat} (hl : Digs l) (hm : Digs m) (hlen : l.length = m.length) (b k : Nat) (h : ∀ i, i ≠ k → i ≠ k + 1 → l.getD i 0 = m.getD i 0) (h1 : l.getD k 0 = m.getD (k + 1) 0) (h2 : l.getD (k + 1) 0 = m.getD k 0)
    (hne : l.getD k 0 ≠ l.getD (k + 1) 0) (n : Nat) (hn : k + 1 < n) (hnl : n ≤ l.length) {c : Nat} (hc : c < 10) : sumN l b c n ≠ sumN m b c n := by
  induction n generalizing c with
  | zero => omega
  | succ n ih =>
    by_cases e : n = k + 1
    · subst e
      show sumN l b (tm (tm c (tn (l.getD (k + 1) 0) (l.length - 1 - (k + 1) + b))) (tn (l.getD k 0) (l.length - 1 - k + b))) k ≠ sumN m b (tm (tm c (tn (m.getD (k + 1) 0) (m.length - 1 - (k + 1) + b))) (tn (m.getD k 0) (m.length - 1 - k + b))) k
      intro hh
      rw [sumN_agree hlen b k (fun i hi => h i (by omega) (by omega)), ← hlen, ← h1, ← h2] at hh
      have e1 : l.length - 1 - k + b = (l.length - 1 - (k + 1) + b) + 1 := by omega
      rw [e1] at hh
      have h3 := sumN_inj hm b (tm_lt (tm_lt hc (tn_lt (hl _) _)) (tn_lt (hl _) _)) (tm_lt (tm_lt hc (tn_lt (hl _) _)) (tn_lt (hl _) _)) k hh
      exact hne (tm_swap (hl _) (hl _) hc h3).symm
    · show sumN l b (tm c (tn (l.getD n 0) (l.length - 1 - n + b))) n ≠ sumN m b (tm c (tn (m.getD n 0) (m.length - 1 - n + b))) n
      rw [h n (by omega) e, ← hlen]
      exact ih (by omega) (by omega) (tm_lt hc (tn_lt (hm n) _))
def sum0 (l : List Nat) (b : Nat) : Nat := sumN l b 0 l.length
theorem sum0_lt {l : List Nat} (hl : Digs l) (b : Nat) : sum0 l b < 10 := sumN_lt hl b (by decide) _
theorem getD_append_left (l : List Nat) (x : Nat) (i : Nat) (h : i < l.length) : (l ++ [x]).getD i 0 = l.getD i 0 := by
  rw [List.getD_eq_getElem?_getD, List.getD_eq_getElem?_getD, List.getElem?_append_left h]
theorem getD_append_last (l : List Nat) (x : Nat) : (l ++ [x]).getD l.length 0 = x := by
  rw [List.getD_eq_getElem?_getD]; simp
theorem Digs.snoc {l : List Nat} (hl : Digs l) {x : Nat} (hx : x < 10) : Digs (l ++ [x]) := by
  refine Digs.of fun y hy => ?_
  rcases List.mem_append.1 hy with h | h
  · exact hl.mem h
  · simp at h; omega
theorem sumN_snoc (l : List Nat) (x : Nat) (n : Nat) (hn : n ≤ l.length) (c : Nat) : sumN (l ++ [x]) 0 c n = sumN l 1 c n := by
  induction n generalizing c with
  | zero => rfl
  | succ n ih =>
    show sumN (l ++ [x]) 0 (tm c (tn ((l ++ [x]).getD n 0) ((l ++ [x]).length - 1 - n + 0))) n = sumN l 1 (tm c (tn (l.getD n 0) (l.length - 1 - n + 1))) n
    rw [getD_append_left l x n (by omega), ih (by omega)]
    have e : (l ++ [x]).length - 1 - n + 0 = l.length - 1 - n + 1 := by simp; omega
    rw [e]
/-- The sum of a list with one digit more. -/
theorem sum0_snoc {l : List Nat} (hl : Digs l) {x : Nat} (hx : x < 10) : sum0 (l ++ [x]) 0 = tm x (sum0 l 1) := by
  unfold sum0
  rw [List.length_append]
  show sumN (l ++ [x]) 0 (tm 0 (tn ((l ++ [x]).getD l.length 0) ((l ++ [x]).length - 1 - l.length + 0))) l.length = _
  rw [getD_append_last, sumN_snoc l x _ (Nat.le_refl _)]
  have e : (l ++ [x]).length - 1 - l.length + 0 = 0 := by simp
  rw [e]
  show sumN l 1 (tm 0 x) l.length = _
  rw [tm_zero hx, ← sumN_left hl 1 hx (by decide), zero_tm hx]
theorem check_zero {l : List Nat} (hl : Digs l) : sum0 (l ++ [ud (sum0 l 1)]) 0 = 0 := by
  rw [sum0_snoc hl (ud_lt (sum0_lt hl 1)), ud_tm (sum0_lt hl 1)]
theorem check_only {l : List Nat} (hl : Digs l) {x : Nat} (hx : x < 10) (h : sum0 (l ++ [x]) 0 = 0) : x = ud (sum0 l 1) := by
  rw [sum0_snoc hl hx] at h
  exact tm_inj_right (sum0_lt hl 1) hx (ud_lt (sum0_lt hl 1)) (h.trans (ud_tm (sum0_lt hl 1)).symm)

end Go.Proofs.Ytlbhighbhchdmaa.Pure
