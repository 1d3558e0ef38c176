/- What the law TopRings needs of texts, digits and rings. For all texts. -/
import Derived.Test.YtlbhighbhchdmaaQx2
import Derived.Test.YtlbhighbhchdmaaQx9
import Derived.Test.YtlbhighbhchdmaaQx12
import Derived.Test.YtlbhighbhchdmaaQx15
import Derived.Test.YtlbhighbhchdmaaQx21
import Derived.Test.YtlbhighbhchdmaaQx22
import Derived.Test.YtlbhighbhchdmaaQx23
import Derived.Test.YtlbhighbhchdmaaQx32
import Derived.Lib.SlicesCompact
import Derived.Test.YtlbhighbhchdmaaNearB
import Derived.Sort.Walk0
namespace Go.Proofs.Ytlbhighbhchdmaa.Pure
open Go.RowKit Go.Proofs.Ytlbhighbhchdmaa.Q Go.Proofs.YtlbhighbhchdmaaW.PrintWords Go.Proofs.YtlbhighbhchdmaaW.PrintLast
open Go.Proofs Go.Lib


/-! Plain facts on the ten digits: the product, the inverse, the turn. -/

theorem Ev.ifp {α : Type} {c : Prop} [Decidable c] {f g : Nat → Option α} {r : α} (h : c) (k : Ev f r) : Ev (fun n => if c then f n else g n) r := by
  obtain ⟨K, k⟩ := k
  exact ⟨K, fun n hn => by show (if c then f n else g n) = some r; rw [if_pos h]; exact k n hn⟩
theorem Ev.ifn {α : Type} {c : Prop} [Decidable c] {f g : Nat → Option α} {r : α} (h : ¬ c) (k : Ev g r) : Ev (fun n => if c then f n else g n) r := by
  obtain ⟨K, k⟩ := k
  exact ⟨K, fun n hn => by show (if c then f n else g n) = some r; rw [if_neg h]; exact k n hn⟩
theorem Ev.some_bind {α β : Type} {f : Nat → α → Option β} {a : α} {r : β} (k : Ev (fun n => f n a) r) : Ev (fun n => (some a).bind (f n)) r := k
theorem Ev.bindc {α β : Type} {g : Option α} {f : Nat → α → Option β} {a : α} {r : β} (h : g = some a) (k : Ev (fun n => f n a) r) : Ev (fun n => g.bind (f n)) r := by
  subst h
  exact k
theorem Ev.val {α : Type} {a r : α} (h : a = r) : Ev (fun _ => some a) r := by
  subst h
  exact Ev.now _
def tm (x y : Nat) : Nat := if x < 5 then (if y < 5 then (x + y) % 5 else 5 + (x + y) % 5) else (if y < 5 then 5 + (x + 5 - y) % 5 else (x + 5 - y) % 5)
def ud (x : Nat) : Nat := if x < 5 then (5 - x) % 5 else x
def tn1 (x : Nat) : Nat := [1, 5, 7, 6, 2, 8, 3, 0, 9, 4].getD x 0
def tn : Nat → Nat → Nat
  | x, 0 => x
  | x, n + 1 => tn (tn1 x) n
theorem tm_lt {x y : Nat} (hx : x < 10) (hy : y < 10) : tm x y < 10 := (by decide +kernel : ∀ x y : Fin 10, tm x.val y.val < 10) ⟨x, hx⟩ ⟨y, hy⟩
theorem ud_lt {x : Nat} (hx : x < 10) : ud x < 10 := (by decide +kernel : ∀ x : Fin 10, ud x.val < 10) ⟨x, hx⟩
theorem tn1_lt (x : Nat) : tn1 x < 10 := by
  by_cases hx : x < 10
  · exact (by decide +kernel : ∀ x : Fin 10, tn1 x.val < 10) ⟨x, hx⟩
  · unfold tn1
    rw [List.getD_eq_getElem?_getD, List.getElem?_eq_none (by simp; omega)]
    decide
theorem tn_lt {x : Nat} (hx : x < 10) (n : Nat) : tn x n < 10 := by
  induction n generalizing x with
  | zero => exact hx
  | succ n ih => exact ih (tn1_lt x)
theorem tm_assoc {x y z : Nat} (hx : x < 10) (hy : y < 10) (hz : z < 10) : tm (tm x y) z = tm x (tm y z) := (by decide +kernel : ∀ x y z : Fin 10, tm (tm x.val y.val) z.val = tm x.val (tm y.val z.val)) ⟨x, hx⟩ ⟨y, hy⟩ ⟨z, hz⟩
theorem tm_zero {x : Nat} (hx : x < 10) : tm 0 x = x := (by decide +kernel : ∀ x : Fin 10, tm 0 x.val = x.val) ⟨x, hx⟩
theorem zero_tm {x : Nat} (hx : x < 10) : tm x 0 = x := (by decide +kernel : ∀ x : Fin 10, tm x.val 0 = x.val) ⟨x, hx⟩
theorem ud_tm {x : Nat} (hx : x < 10) : tm (ud x) x = 0 := (by decide +kernel : ∀ x : Fin 10, tm (ud x.val) x.val = 0) ⟨x, hx⟩
theorem tm_inj_left {x y z : Nat} (hx : x < 10) (hy : y < 10) (hz : z < 10) (h : tm x y = tm x z) : y = z := (by decide +kernel : ∀ x y z : Fin 10, tm x.val y.val = tm x.val z.val → y.val = z.val) ⟨x, hx⟩ ⟨y, hy⟩ ⟨z, hz⟩ h
theorem tm_inj_right {x y z : Nat} (hx : x < 10) (hy : y < 10) (hz : z < 10) (h : tm y x = tm z x) : y = z := (by decide +kernel : ∀ x y z : Fin 10, tm y.val x.val = tm z.val x.val → y.val = z.val) ⟨x, hx⟩ ⟨y, hy⟩ ⟨z, hz⟩ h
theorem tn1_inj {x y : Nat} (hx : x < 10) (hy : y < 10) (h : tn1 x = tn1 y) : x = y := (by decide +kernel : ∀ x y : Fin 10, tn1 x.val = tn1 y.val → x.val = y.val) ⟨x, hx⟩ ⟨y, hy⟩ h
theorem tn_inj {x y : Nat} (hx : x < 10) (hy : y < 10) {n : Nat} (h : tn x n = tn y n) : x = y := by
  induction n generalizing x y with
  | zero => exact h
  | succ n ih => exact tn1_inj hx hy (ih (tn1_lt x) (tn1_lt y) h)
theorem tn_succ (x n : Nat) : tn x (n + 1) = tn1 (tn x n) := by
  induction n generalizing x with
  | zero => rfl
  | succ n ih => exact ih (tn1 x)
/-- No exchange of two different neighbors passes. -/
theorem tm_swap1 : ∀ x y c : Fin 10, tm (tm c.val x.val) (tn1 y.val) = tm (tm c.val y.val) (tn1 x.val) → x.val = y.val := by decide +kernel
theorem tm_swap {x y c : Nat} (hx : x < 10) (hy : y < 10) (hc : c < 10) {n : Nat} (h : tm (tm c (tn x n)) (tn y (n + 1)) = tm (tm c (tn y n)) (tn x (n + 1))) : x = y := by
  rw [tn_succ, tn_succ] at h
  exact tn_inj hx hy (tm_swap1 ⟨_, tn_lt hx n⟩ ⟨_, tn_lt hy n⟩ ⟨c, hc⟩ h)
/-! The sum of digits. -/
def sumN (l : List Nat) (b : Nat) : Nat → Nat → Nat
  | c, 0 => c
  | c, n + 1 => sumN l b (tm c (tn (l.getD n 0) (l.length - 1 - n + b))) n
def Digs (l : List Nat) : Prop := ∀ n, l.getD n 0 < 10
theorem Digs.of {l : List Nat} (h : ∀ x ∈ l, x < 10) : Digs l := by
  intro n
  rw [List.getD_eq_getElem?_getD]
  rcases Nat.lt_or_ge n l.length with hn | hn
  · rw [List.getElem?_eq_getElem hn]; exact h _ (List.getElem_mem hn)
  · rw [List.getElem?_eq_none hn]; decide
theorem Digs.mem {l : List Nat} (h : Digs l) {x : Nat} (hx : x ∈ l) : x < 10 := by
  obtain ⟨n, hn, rfl⟩ := List.mem_iff_getElem.1 hx
  have := h n
  rwa [List.getD_eq_getElem?_getD, List.getElem?_eq_getElem hn] at this
theorem sumN_lt {l : List Nat} (hl : Digs l) (b : Nat) {c : Nat} (hc : c < 10) (n : Nat) : sumN l b c n < 10 := by
  induction n generalizing c with
  | zero => exact hc
  | succ n ih => exact ih (tm_lt hc (tn_lt (hl n) _))
theorem sumN_inj {l : List Nat} (hl : Digs l) (b : Nat) {c d : Nat} (hc : c < 10) (hd : d < 10) (n : Nat) (h : sumN l b c n = sumN l b d n) : c = d := by
  induction n generalizing c d with
  | zero => exact h
  | succ n ih =>
    have := ih (tm_lt hc (tn_lt (hl n) _)) (tm_lt hd (tn_lt (hl n) _)) h
    exact tm_inj_right (tn_lt (hl n) _) hc hd this
theorem sumN_left {l : List Nat} (hl : Digs l) (b : Nat) {c d : Nat} (hc : c < 10) (hd : d < 10) (n : Nat) : sumN l b (tm c d) n = tm c (sumN l b d n) := by
  induction n generalizing d with
  | zero => rfl
  | succ n ih =>
    show sumN l b (tm (tm c d) _) n = tm c (sumN l b (tm d _) n)
    rw [tm_assoc hc hd (tn_lt (hl n) _), ih (tm_lt hd (tn_lt (hl n) _))]
/-- Two lists of one length that agree below n. -/
theorem sumN_agree {l m : List Nat} (hlen : l.length = m.length) (b : Nat) (n : Nat) (h : ∀ i, i < n → l.getD i 0 = m.getD i 0) (c : Nat) : sumN l b c n = sumN m b c n := by
  induction n generalizing c with
  | zero => rfl
  | succ n ih =>
    show sumN l b _ n = sumN m b _ n
    rw [h n (by omega), hlen]
    exact ih (fun i hi => h i (by omega)) _
theorem sumN_wrong {l m : List Nat} (hl : Digs l) (hm : Digs m) (hlen : l.length = m.length) (b k : Nat) (h : ∀ i, i ≠ k → l.getD i 0 = m.getD i 0) (hk : l.getD k 0 ≠ m.getD k 0) (n : Nat) (hn : k < n) {c : Nat} (hc : c < 10) :
    sumN l b c n ≠ sumN m b c n := by
  induction n generalizing c with
  | zero => omega
  | succ n ih =>
    show sumN l b (tm c (tn (l.getD n 0) (l.length - 1 - n + b))) n ≠ sumN m b (tm c (tn (m.getD n 0) (m.length - 1 - n + b))) n
    by_cases e : n = k
    · subst e
      intro hh
      rw [sumN_agree hlen b n (fun i hi => h i (by omega)), ← hlen] at hh
      have h1 := sumN_inj hm b (tm_lt hc (tn_lt (hl n) _)) (tm_lt hc (tn_lt (hm n) _)) n hh
      exact hk (tn_inj (hl n) (hm n) (tm_inj_left hc (tn_lt (hl n) _) (tn_lt (hm n) _) h1))
    · rw [h n e, ← hlen]
      exact ih (by omega) (tm_lt hc (tn_lt (hm n) _))
theorem sumN_swap {l m : List Nat} (hl : Digs l) (hm : Digs m) (hlen : l.length = m.length) (b k : Nat) (h : ∀ i, i ≠ k → i ≠ k + 1 → l.getD i 0 = m.getD i 0) (h1 : l.getD k 0 = m.getD (k + 1) 0) (h2 : l.getD (k + 1) 0 = m.getD k 0)
    (hne : l.getD k 0 ≠ l.getD (k + 1) 0) (n : Nat) (hn : k + 1 < n) (hnl : n ≤ l.length) {c : Nat} (hc : c < 10) : sumN l b c n ≠ sumN m b c n := by
  induction n generalizing c with
  | zero => omega
  | succ n ih =>
    by_cases e : n = k + 1
    · subst e
      show sumN l b (tm (tm c (tn (l.getD (k + 1) 0) (l.length - 1 - (k + 1) + b))) (tn (l.getD k 0) (l.length - 1 - k + b))) k ≠ sumN m b (tm (tm c (tn (m.getD (k + 1) 0) (m.length - 1 - (k + 1) + b))) (tn (m.getD k 0) (m.length - 1 - k + b))) k
      intro hh
      rw [sumN_agree hlen b k (fun i hi => h i (by omega) (by omega)), ← hlen, ← h1, ← h2] at hh
      have e1 : l.length - 1 - k + b = (l.length - 1 - (k + 1) + b) + 1 := by omega
      rw [e1] at hh
      have h3 := sumN_inj hm b (tm_lt (tm_lt hc (tn_lt (hl _) _)) (tn_lt (hl _) _)) (tm_lt (tm_lt hc (tn_lt (hl _) _)) (tn_lt (hl _) _)) k hh
      exact hne (tm_swap (hl _) (hl _) hc h3).symm
    · show sumN l b (tm c (tn (l.getD n 0) (l.length - 1 - n + b))) n ≠ sumN m b (tm c (tn (m.getD n 0) (m.length - 1 - n + b))) n
      rw [h n (by omega) e, ← hlen]
      exact ih (by omega) (by omega) (tm_lt hc (tn_lt (hm n) _))
def sum0 (l : List Nat) (b : Nat) : Nat := sumN l b 0 l.length
theorem sum0_lt {l : List Nat} (hl : Digs l) (b : Nat) : sum0 l b < 10 := sumN_lt hl b (by decide) _
theorem getD_append_left (l : List Nat) (x : Nat) (i : Nat) (h : i < l.length) : (l ++ [x]).getD i 0 = l.getD i 0 := by
  rw [List.getD_eq_getElem?_getD, List.getD_eq_getElem?_getD, List.getElem?_append_left h]
theorem getD_append_last (l : List Nat) (x : Nat) : (l ++ [x]).getD l.length 0 = x := by
  rw [List.getD_eq_getElem?_getD]; simp
theorem sumN_snoc (l : List Nat) (x : Nat) (n : Nat) (hn : n ≤ l.length) (c : Nat) : sumN (l ++ [x]) 0 c n = sumN l 1 c n := by
  induction n generalizing c with
  | zero => rfl
  | succ n ih =>
    show sumN (l ++ [x]) 0 (tm c (tn ((l ++ [x]).getD n 0) ((l ++ [x]).length - 1 - n + 0))) n = sumN l 1 (tm c (tn (l.getD n 0) (l.length - 1 - n + 1))) n
    rw [getD_append_left l x n (by omega), ih (by omega)]
    have e : (l ++ [x]).length - 1 - n + 0 = l.length - 1 - n + 1 := by simp; omega
    rw [e]
/-- The sum of a list with one digit more. -/
theorem sum0_snoc {l : List Nat} (hl : Digs l) {x : Nat} (hx : x < 10) : sum0 (l ++ [x]) 0 = tm x (sum0 l 1) := by
  unfold sum0
  rw [List.length_append]
  show sumN (l ++ [x]) 0 (tm 0 (tn ((l ++ [x]).getD l.length 0) ((l ++ [x]).length - 1 - l.length + 0))) l.length = _
  rw [getD_append_last, sumN_snoc l x _ (Nat.le_refl _)]
  have e : (l ++ [x]).length - 1 - l.length + 0 = 0 := by simp
  rw [e]
  show sumN l 1 (tm 0 x) l.length = _
  rw [tm_zero hx, ← sumN_left hl 1 hx (by decide), zero_tm hx]
theorem check_zero {l : List Nat} (hl : Digs l) : sum0 (l ++ [ud (sum0 l 1)]) 0 = 0 := by
  rw [sum0_snoc hl (ud_lt (sum0_lt hl 1)), ud_tm (sum0_lt hl 1)]

/-! What the program's functions on digits come to. -/

theorem w64 {n : Int} (h0 : -9223372036854775808 ≤ n) (h1 : n < 9223372036854775808) : wrap64 n = n := by
  unfold wrap64
  omega
theorem rd_map (l : List Nat) (i : Nat) : rd (l.map (fun n : Nat => (n : Int))) (i : Int) = ((l.getD i 0 : Nat) : Int) := by
  unfold rd
  rw [Int.toNat_natCast, List.getD_eq_getElem?_getD, List.getD_eq_getElem?_getD, List.getElem?_map]
  cases l[i]? <;> rfl
theorem digs_of (l : List Int) (h : ∀ x ∈ l, 0 ≤ x ∧ x ≤ 9) : ∃ m : List Nat, l = m.map (fun n : Nat => (n : Int)) ∧ Digs m := by
  refine ⟨l.map Int.toNat, ?_, ?_⟩
  · rw [List.map_map]
    conv => lhs; rw [← List.map_id l]
    apply List.map_congr_left
    intro x hx
    have := (h x hx).1
    simp; omega
  · refine Digs.of fun y hy => ?_
    obtain ⟨x, hx, rfl⟩ := List.mem_map.1 hy
    have := h x hx
    omega
theorem digit_eq (x : Int) : ring_digit.f x = some (decide (0 ≤ x ∧ x ≤ 9)) := by
  unfold ring_digit.f
  by_cases h : x ≥ 0
  · rw [if_pos h]
    have h' : 0 ≤ x := h
    simp [h']
  · rw [if_neg h]
    have h' : ¬ 0 ≤ x := h
    simp [h']
theorem times_one : ∀ x y : Fin 10, ring_times.f 1 (x.val : Int) (y.val : Int) = some ((tm x.val y.val : Nat) : Int) := by decide +kernel
theorem times_ev {x y : Nat} (hx : x < 10) (hy : y < 10) : Ev (fun k => ring_times.f k (x : Int) (y : Int)) ((tm x y : Nat) : Int) :=
  Ev.of (fun k => ring_times.mono _ _ k) (times_one ⟨x, hx⟩ ⟨y, hy⟩)
theorem undo_all : ∀ x : Fin 10, ring_undo.f (x.val : Int) = some ((ud x.val : Nat) : Int) := by decide +kernel
theorem undo_eq {x : Nat} (hx : x < 10) : ring_undo.f (x : Int) = some ((ud x : Nat) : Int) := undo_all ⟨x, hx⟩
theorem turn_all : ∀ x : Fin 10, ring_turn.f (x.val : Int) = some ((tn1 x.val : Nat) : Int) := by decide +kernel
theorem turn_eq {x : Nat} (hx : x < 10) : ring_turn.f (x : Int) = some ((tn1 x : Nat) : Int) := turn_all ⟨x, hx⟩
theorem turned_loop (d : Nat) : ∀ (x : Nat) (n i : Int), x < 10 → 0 ≤ i → i + d = n → n ≤ 1000000 → Ev (fun k => ring_turned.l0 k (x : Int) n i) ((tn x d : Nat) : Int) := by
  induction d with
  | zero =>
    intro x n i hx hi hd hn
    refine Ev.step (fun k => by rw [ring_turned.l0]) ?_
    exact Ev.ifn (by omega) (Ev.now _)
  | succ d ih =>
    intro x n i hx hi hd hn
    refine Ev.step (fun k => by rw [ring_turned.l0]) ?_
    refine Ev.ifp (by omega) (Ev.bindc (turn_eq hx) ?_)
    rw [w64 (by omega) (by omega)]
    exact ih (tn1 x) n (i + 1) (tn1_lt x) (by omega) (by omega) hn
theorem turned_ev {x : Nat} (hx : x < 10) (n : Nat) (hn : n ≤ 1000000) : Ev (fun k => ring_turned.f k (x : Int) (n : Int)) ((tn x n : Nat) : Int) :=
  turned_loop n x n 0 hx (by omega) (by omega) (by omega)
theorem sum_loop (l : List Nat) (hl : Digs l) (hlen : l.length ≤ 1000) (b : Nat) (hb : b ≤ 1000) (n : Nat) : ∀ (c : Nat), c < 10 → n ≤ l.length →
    Ev (fun k => ring_sum.l0 k (l.map (fun n : Nat => (n : Int))) (b : Int) (c : Int) ((n : Int) - 1)) ((sumN l b c n : Nat) : Int) := by
  induction n with
  | zero =>
    intro c hc hn
    refine Ev.step (fun k => by rw [ring_sum.l0]) ?_
    exact Ev.ifn (by omega) (Ev.now _)
  | succ n ih =>
    intro c hc hn
    refine Ev.step (fun k => by rw [ring_sum.l0]) ?_
    refine Ev.ifp (by omega) (Ev.ifp (by omega) (Ev.ifp (by rw [List.length_map]; omega) ?_))
    have e1 : ((n + 1 : Nat) : Int) - 1 = (n : Int) := by omega
    rw [e1, List.length_map, w64 (n := (l.length : Int) - 1) (by omega) (by omega), w64 (n := (l.length : Int) - 1 - n) (by omega) (by omega), w64 (n := (l.length : Int) - 1 - n + b) (by omega) (by omega), w64 (n := (n : Int) - 1) (by omega) (by omega), rd_map]
    have e2 : (l.length : Int) - 1 - n + b = ((l.length - 1 - n + b : Nat) : Int) := by omega
    rw [e2]
    refine Ev.bind (turned_ev (hl n) _ (by omega)) (Ev.bind (times_ev hc (tn_lt (hl n) _)) ?_)
    exact ih _ (tm_lt hc (tn_lt (hl n) _)) (by omega)
theorem sum_ev (l : List Nat) (hl : Digs l) (hlen : l.length ≤ 1000) (b : Nat) (hb : b ≤ 1000) :
    Ev (fun k => ring_sum.f k (l.map (fun n : Nat => (n : Int))) (b : Int)) ((sum0 l b : Nat) : Int) := by
  have h := sum_loop l hl hlen b hb l.length 0 (by decide) (Nat.le_refl _)
  unfold ring_sum.f
  rw [List.length_map, w64 (by omega) (by omega)]
  exact h
/-- What a list of digits is refused with. -/
def listedP (l : List Int) (most : Int) : Int := if (l.length : Int) > most then 3 else if l.all (fun x => decide (0 ≤ x ∧ x ≤ 9)) then 0 else 1
theorem listedP_zero {l : List Int} {most : Int} (h : listedP l most = 0) : (l.length : Int) ≤ most ∧ ∀ x ∈ l, 0 ≤ x ∧ x ≤ 9 := by
  unfold listedP at h
  split at h
  · omega
  · split at h
    · rename_i h1 h2
      rw [List.all_eq_true] at h2
      exact ⟨by omega, fun x hx => of_decide_eq_true (h2 x hx)⟩
    · omega
theorem rd_lt (l : List Int) (i : Nat) (h : i < l.length) : rd l (i : Int) = l[i] := by
  unfold rd
  rw [Int.toNat_natCast, List.getD_eq_getElem?_getD, List.getElem?_eq_getElem h]; rfl
theorem listed_loop (l : List Int) (hlen : l.length ≤ 1000) (d : Nat) : ∀ i : Nat, i + d = l.length →
    Ev (fun k => ring_listed.l0 k l (l.length : Int) (i : Int)) (if (l.drop i).all (fun x => decide (0 ≤ x ∧ x ≤ 9)) then 0 else 1) := by
  induction d with
  | zero =>
    intro i hi
    refine Ev.step (fun k => by rw [ring_listed.l0]) ?_
    refine Ev.ifn (by omega) ?_
    rw [List.drop_of_length_le (by omega)]
    exact Ev.now _
  | succ d ih =>
    intro i hi
    refine Ev.step (fun k => by rw [ring_listed.l0]) ?_
    refine Ev.ifp (by omega) (Ev.ifp (by omega) (Ev.ifp (by omega) (Ev.bindc (digit_eq _) ?_)))
    rw [rd_lt l i (by omega), List.drop_eq_getElem_cons (show i < l.length by omega), List.all_cons]
    by_cases h : 0 ≤ l[i] ∧ l[i] ≤ 9
    · refine Ev.ifp (by simp [h]) ?_
      rw [w64 (by omega) (by omega)]
      have e : ((i : Int) + 1) = ((i + 1 : Nat) : Int) := by omega
      rw [e, show decide (0 ≤ l[i] ∧ l[i] ≤ 9) = true from decide_eq_true h, Bool.true_and]
      exact ih (i + 1) (by omega)
    · refine Ev.ifn (by simp [h]) ?_
      rw [show decide (0 ≤ l[i] ∧ l[i] ≤ 9) = false from decide_eq_false h, Bool.false_and]
      exact Ev.now _
theorem listed_ev (l : List Int) (most : Int) (hm : most ≤ 1000) : Ev (fun k => ring_listed.f k l most) (listedP l most) := by
  unfold ring_listed.f listedP
  by_cases h : (l.length : Int) > most
  · simp only [if_pos h]
    exact Ev.now _
  · simp only [if_neg h]
    exact listed_loop l (by omega) l.length 0 (by omega)
def CheckP (l : List Int) : Int × Int := if listedP l 11 = 0 then (((ud (sum0 (l.map Int.toNat) 1) : Nat) : Int), 0) else (0, listedP l 11)
theorem map_toNat (m : List Nat) : (m.map (fun n : Nat => (n : Int))).map Int.toNat = m := by
  rw [List.map_map]
  conv => rhs; rw [← List.map_id m]
  exact List.map_congr_left fun x _ => by simp
theorem check_ev (l : List Int) : Ev (fun k => ring_CheckDigit.f k l) (CheckP l) := by
  unfold ring_CheckDigit.f CheckP
  refine Ev.bind (listed_ev l 11 (by omega)) ?_
  by_cases h : listedP l 11 = 0
  · simp only [if_pos h]
    obtain ⟨hl, hd⟩ := listedP_zero h
    obtain ⟨m, rfl, hm⟩ := digs_of l hd
    rw [List.length_map] at hl
    refine Ev.bind (sum_ev m hm (by omega) 1 (by omega)) ?_
    rw [map_toNat]
    exact Ev.bindc (undo_eq (sum0_lt hm 1)) (Ev.now _)
  · simp only [if_neg h]
    exact Ev.now _

/-! Texts of the form of a ring. -/

theorem formP_true {s : ByteArray} {worn : Bool} (h : (formP s worn).2 = true) : 7 ≤ s.size ∧ s.size ≤ 8 ∧ (formP s worn) = ((s.size : Int) - 6, true) ∧ ∀ i, i < s.size → okb worn (s.size - 6) i (bt s i) = true := by
  unfold formP at h ⊢
  by_cases h1 : s.size < 7 ∨ s.size > 8
  · rw [if_pos h1] at h; exact absurd h (by decide)
  · rw [if_neg h1] at h ⊢
    by_cases h2 : ((List.range s.size).all fun i => okb worn (s.size - 6) i (bt s i)) = true
    · rw [if_pos h2]
      refine ⟨by omega, by omega, rfl, fun i hi => ?_⟩
      rw [List.all_eq_true] at h2
      exact h2 i (List.mem_range.2 hi)
    · rw [if_neg h2] at h; exact absurd h (by decide)
theorem form_eq {s : ByteArray} (h : s.size ≤ 9223372036854775807) : ring_form.f s ⟨#[]⟩ = some (formP s false) := by
  unfold ring_form.f
  rw [if_pos h, if_pos rfl]
theorem formw_eq {s : ByteArray} (h : s.size ≤ 9223372036854775807) : ring_form.f s ⟨#[63]⟩ = some (formP s true) := by
  unfold ring_form.f
  rw [if_pos h, if_neg (by simp), if_pos rfl]
/-! The digits behind the letters. -/
def tailI (s : ByteArray) : List Int := (List.range 6).map (fun i : Nat => bt s ((s.size - 6 + i : Nat) : Int) - 48)
def tailN (s : ByteArray) : List Nat := (tailI s).map Int.toNat
theorem formed_digit {s : ByteArray} (h7 : 7 ≤ s.size) (h : ∀ i, i < s.size → okb false (s.size - 6) i (bt s i) = true) (i : Nat) (hi : i < 6) : 48 ≤ bt s ((s.size - 6 + i : Nat) : Int) ∧ bt s ((s.size - 6 + i : Nat) : Int) ≤ 57 := by
  have := h (s.size - 6 + i) (by omega)
  unfold okb at this
  rw [if_pos (by omega)] at this
  simpa using this
theorem formed_letter {s : ByteArray} (h7 : 7 ≤ s.size) (h : ∀ i, i < s.size → okb false (s.size - 6) i (bt s i) = true) (i : Nat) (hi : i < s.size - 6) : 65 ≤ bt s (i : Int) ∧ bt s (i : Int) ≤ 90 := by
  have := h i (by omega)
  unfold okb at this
  rw [if_neg (by omega)] at this
  simpa using this
theorem tailI_range {s : ByteArray} (h7 : 7 ≤ s.size) (h : ∀ i, i < s.size → okb false (s.size - 6) i (bt s i) = true) : ∀ x ∈ tailI s, 0 ≤ x ∧ x ≤ 9 := by
  intro x hx
  obtain ⟨i, hi, rfl⟩ := List.mem_map.1 hx
  have := formed_digit h7 h i (List.mem_range.1 hi)
  omega
theorem tailI_length (s : ByteArray) : (tailI s).length = 6 := by simp [tailI]
theorem tailN_length (s : ByteArray) : (tailN s).length = 6 := by simp [tailN, tailI]
theorem tail_cast {s : ByteArray} (h7 : 7 ≤ s.size) (h : ∀ i, i < s.size → okb false (s.size - 6) i (bt s i) = true) : tailI s = (tailN s).map (fun n : Nat => (n : Int)) ∧ Digs (tailN s) := by
  obtain ⟨m, e, hm⟩ := digs_of (tailI s) (tailI_range h7 h)
  have e2 : tailN s = m := by unfold tailN; rw [e, map_toNat]
  rw [e2]
  exact ⟨e, hm⟩
theorem ascii_of {s : ByteArray} (h7 : 7 ≤ s.size) (h : ∀ i, i < s.size → okb false (s.size - 6) i (bt s i) = true) : asciiB s = true := by
  unfold asciiB
  rw [List.all_eq_true]
  intro i hi
  have hi' := List.mem_range.1 hi
  refine decide_eq_true ?_
  by_cases hl : i < s.size - 6
  · have := formed_letter h7 h i hl; omega
  · have := formed_digit h7 h (i - (s.size - 6)) (by omega)
    rw [show s.size - 6 + (i - (s.size - 6)) = i by omega] at this
    omega
theorem bt_extract (s : ByteArray) (n i : Nat) (h : n + i < s.size) : bt (s.extract n s.size) (i : Int) = bt s ((n + i : Nat) : Int) := by
  have h1 : i < (s.extract n s.size).size := by simp; omega
  rw [bt_of h1, bt_of h]
  congr 2
  simp [ByteArray.getElem_extract]
theorem digits_eq {s : ByteArray} (h7 : 7 ≤ s.size) (h8 : s.size ≤ 8) (h : ∀ i, i < s.size → okb false (s.size - 6) i (bt s i) = true) : ring_digits.f s ((s.size : Int) - 6) = some (tailI s) := by
  unfold ring_digits.f
  rw [if_pos ⟨ascii_of h7 h, by omega, by omega, by omega⟩]
  congr 1
  have e : ((s.size : Int) - 6).toNat = s.size - 6 := by omega
  rw [e]
  unfold digsTo tailI
  rw [show s.size - (s.size - 6) = 6 by omega]
  apply List.map_congr_left
  intro i hi
  rw [bt_extract s _ _ (by have := List.mem_range.1 hi; omega)]
/-- What is wrong with a ring. -/
def ValidP (s : ByteArray) : Int := if (formP s false).2 = true then (if sum0 (tailN s) 0 = 0 then 0 else 6) else 2
theorem Valid_ev (s : ByteArray) (hs : s.size ≤ 140737488351232) : Ev (fun k => ring_Valid.f k s) (ValidP s) := by
  unfold ring_Valid.f ValidP
  refine Ev.bindc (form_eq (by omega)) ?_
  by_cases hf : (formP s false).2 = true
  · simp only [if_pos hf]
    obtain ⟨h7, h8, e, h⟩ := formP_true hf
    obtain ⟨et, hd⟩ := tail_cast h7 h
    rw [e]
    refine Ev.bindc (digits_eq h7 h8 h) ?_
    rw [et]
    refine Ev.bind (sum_ev _ hd (by rw [tailN_length]; omega) 0 (by omega)) ?_
    by_cases h0 : sum0 (tailN s) 0 = 0
    · rw [if_pos h0]
      exact Ev.ifp (by rw [h0]; rfl) (Ev.now _)
    · rw [if_neg h0]
      exact Ev.ifn (by omega) (Ev.now _)
  · simp only [if_neg hf]
    exact Ev.now _
theorem ValidP_ok {s : ByteArray} (h : ValidP s = 0) : (formP s false).2 = true ∧ sum0 (tailN s) 0 = 0 := by
  unfold ValidP at h
  by_cases h1 : (formP s false).2 = true
  · rw [if_pos h1] at h
    by_cases h2 : sum0 (tailN s) 0 = 0
    · exact ⟨h1, h2⟩
    · rw [if_neg h2] at h
      exact absurd h (by decide)
  · rw [if_neg h1] at h
    exact absurd h (by decide)
theorem IsWorn_eq {s : ByteArray} (hs : s.size ≤ 140737488351232) : ring_IsWorn.f s = some (formP s true).2 := by
  unfold ring_IsWorn.f
  rw [formw_eq (by omega)]
  simp only [Option.bind_some]

/-! The number of a ring, and the ring of a series with a number. -/

theorem tail_at {s : ByteArray} (j : Nat) (h : j < 6) : rd (tailI s) (j : Int) = bt s ((s.size - 6 + j : Nat) : Int) - 48 := by
  rw [rd_lt _ _ (by rw [tailI_length]; exact h)]
  simp [tailI]
/-- The number that the first five of some digits make. -/
def numTo (l : List Int) : Nat → Int
  | 0 => 0
  | j + 1 => 10 * numTo l j + rd l (j : Int)
def numP (s : ByteArray) : Int := numTo (tailI s) 5
theorem numTo_range (l : List Int) (h : ∀ j : Nat, 0 ≤ rd l (j : Int) ∧ rd l (j : Int) ≤ 9) (j : Nat) : 0 ≤ numTo l j ∧ numTo l j < 10 ^ j := by
  induction j with
  | zero => exact ⟨Int.le_refl 0, by show (0 : Int) < 1; decide⟩
  | succ j ih =>
    have := h j
    unfold numTo
    rw [Int.pow_succ]
    omega
theorem rd_out (l : List Int) (h : ∀ x ∈ l, 0 ≤ x ∧ x ≤ 9) (j : Nat) : 0 ≤ rd l (j : Int) ∧ rd l (j : Int) ≤ 9 := by
  unfold rd
  rw [Int.toNat_natCast, List.getD_eq_getElem?_getD]
  rcases Nat.lt_or_ge j l.length with hj | hj
  · rw [List.getElem?_eq_getElem hj]; exact h _ (List.getElem_mem hj)
  · rw [List.getElem?_eq_none hj]; decide
theorem numTo_lt (l : List Int) (h : ∀ x ∈ l, 0 ≤ x ∧ x ≤ 9) (j : Nat) (hj : j ≤ 5) : 0 ≤ numTo l j ∧ numTo l j ≤ 99999 := by
  have h1 := numTo_range l (rd_out l h) j
  have h2 : (10 : Int) ^ j ≤ 100000 := by
    have : j = 0 ∨ j = 1 ∨ j = 2 ∨ j = 3 ∨ j = 4 ∨ j = 5 := by omega
    rcases this with rfl | rfl | rfl | rfl | rfl | rfl <;> decide
  omega
theorem rd_take (l : List Int) (j n : Nat) (h : j < n) : rd (l.take n) (j : Int) = rd l (j : Int) := by
  unfold rd
  rw [Int.toNat_natCast, List.getD_eq_getElem?_getD, List.getD_eq_getElem?_getD, List.getElem?_take, if_pos h]
theorem split_loop (s : ByteArray) (l : List Int) (h : ∀ x ∈ l, 0 ≤ x ∧ x ≤ 9) (hl : l.length = 6) (h7 : 7 ≤ s.size) (h8 : s.size ≤ 8) (d : Nat) : ∀ j : Nat, j + d = 5 →
    Ev (fun k => ring_Split.l0 k s ((s.size : Int) - 6) (numTo l j) (l.take 5) ((l.take 5).length : Int) (j : Int)) (s.extract 0 (s.size - 6), numTo l 5, 0) := by
  have h5 : (l.take 5).length = 5 := by rw [List.length_take]; omega
  induction d with
  | zero =>
    intro j hj
    obtain rfl : j = 5 := by omega
    refine Ev.step (fun k => by rw [ring_Split.l0]) (Ev.ifn (by omega) (Ev.ifp (by omega) (Ev.ifp (by omega) (Ev.val ?_))))
    rw [show ((s.size : Int) - 6).toNat = s.size - 6 by omega]
  | succ d ih =>
    intro j hj
    refine Ev.step (fun k => by rw [ring_Split.l0]) (Ev.ifp (by omega) (Ev.ifp (by omega) (Ev.ifp (by omega) ?_)))
    have h1 := numTo_lt l h j (by omega)
    have h2 := rd_out l h j
    rw [rd_take l j 5 (by omega), w64 (n := 10 * numTo l j) (by omega) (by omega), w64 (n := 10 * numTo l j + rd l (j : Int)) (by omega) (by omega), w64 (by omega) (by omega)]
    exact ih (j + 1) (by omega)
def SplitP (s : ByteArray) : ByteArray × Int × Int := if ValidP s = 0 then (s.extract 0 (s.size - 6), numP s, 0) else (⟨#[]⟩, 0, ValidP s)
theorem Split_ev (s : ByteArray) (hs : s.size ≤ 140737488351232) : Ev (fun k => ring_Split.f k s) (SplitP s) := by
  unfold ring_Split.f SplitP
  refine Ev.bind (Valid_ev s hs) ?_
  by_cases hv : ValidP s = 0
  · simp only [if_pos hv]
    obtain ⟨hf, _⟩ := ValidP_ok hv
    obtain ⟨h7, h8, e, h⟩ := formP_true hf
    rw [w64 (by omega) (by omega)]
    refine Ev.bindc (digits_eq h7 h8 h) (Ev.ifp (by rw [tailI_length]; decide) (Ev.some_bind ?_))
    exact split_loop s (tailI s) (tailI_range h7 h) (tailI_length s) h7 h8 5 0 (by omega)
  · simp only [if_neg hv]
    exact Ev.now _
def fiveN (n : Int) : List Nat := (fiveD n).map Int.toNat
theorem five_cast (n : Int) : fiveD n = (fiveN n).map (fun n : Nat => (n : Int)) ∧ Digs (fiveN n) := by
  obtain ⟨m, e, hm⟩ := digs_of (fiveD n) (fiveD_range n)
  have e2 : fiveN n = m := by unfold fiveN; rw [e, map_toNat]
  rw [e2]
  exact ⟨e, hm⟩
def chk (n : Int) : Nat := ud (sum0 (fiveN n) 1)
theorem chk_lt (n : Int) : chk n < 10 := ud_lt (sum0_lt (five_cast n).2 1)
def makeP (s : ByteArray) (n : Int) : ByteArray := ⟨s.data ++ ((fiveD n ++ [(chk n : Int)]).map Q.byteOf).toArray⟩
theorem make5_ev (s : ByteArray) (n : Int) (h0 : 0 ≤ n) (h1 : n ≤ 99999) (hs : s.size ≤ 1000) : Ev (fun k => ring_make5.f k s n) (makeP s n) := by
  unfold ring_make5.f
  refine Ev.ifp ⟨h0, h1, hs⟩ ?_
  obtain ⟨e, hd⟩ := five_cast n
  have hsum := sum_ev (fiveN n) hd (by unfold fiveN fiveD; simp) 1 (by omega)
  rw [← e] at hsum
  refine Ev.bind hsum (Ev.bindc (undo_eq (sum0_lt hd 1)) (Ev.ifp ?_ (Ev.val rfl)))
  have := chk_lt n
  unfold chk at this
  omega

/-! A ring that is made is read back. -/

theorem join_size (s : ByteArray) (l : List UInt8) : (⟨s.data ++ l.toArray⟩ : ByteArray).size = s.size + l.length := by
  show (s.data ++ l.toArray).size = _
  rw [Array.size_append]
  rfl
theorem join_left (s : ByteArray) (l : List UInt8) (i : Nat) (h : i < s.size) : bt (⟨s.data ++ l.toArray⟩ : ByteArray) (i : Int) = bt s (i : Int) := by
  rw [bt_of (by rw [join_size]; omega), bt_of h]
  congr 2
  show (s.data ++ l.toArray)[i]'_ = s.data[i]'_
  rw [Array.getElem_append_left]
theorem join_right (s : ByteArray) (l : List UInt8) (i : Nat) (h : i < l.length) : bt (⟨s.data ++ l.toArray⟩ : ByteArray) ((s.size + i : Nat) : Int) = ((l[i].toNat : Nat) : Int) := by
  rw [bt_of (by rw [join_size]; omega)]
  congr 2
  show (s.data ++ l.toArray)[s.size + i]'_ = _
  have h1 : s.data.size ≤ s.size + i := Nat.le_add_right _ _
  rw [Array.getElem_append_right h1]
  simp only [List.getElem_toArray]
  congr 1
  show s.size + i - s.size = i
  omega
theorem join_extract (s : ByteArray) (l : List UInt8) : (⟨s.data ++ l.toArray⟩ : ByteArray).extract 0 s.size = s := by
  apply ByteArray.ext
  rw [ByteArray.data_extract]
  apply Array.ext'
  show ((s.data ++ l.toArray).extract 0 s.data.size).toList = _
  simp
  exact List.take_of_length_le (Nat.le_refl _)
/-- Is a text a series? -/
def serP (s : ByteArray) : Bool := (decide (s.size = 1) || decide (s.size = 2)) && (List.range s.size).all (fun i => decide (65 ≤ bt s (i : Int) ∧ bt s (i : Int) ≤ 90))
theorem serP_true {s : ByteArray} (h : serP s = true) : (s.size = 1 ∨ s.size = 2) ∧ ∀ i, i < s.size → 65 ≤ bt s (i : Int) ∧ bt s (i : Int) ≤ 90 := by
  unfold serP at h
  rw [Bool.and_eq_true, Bool.or_eq_true, decide_eq_true_eq, decide_eq_true_eq, List.all_eq_true] at h
  exact ⟨h.1, fun i hi => of_decide_eq_true (h.2 i (List.mem_range.2 hi))⟩
def zeros6 : ByteArray := ⟨#[48, 48, 48, 48, 48, 48]⟩
theorem ser_join (s : ByteArray) : s ++ zeros6 = ⟨s.data ++ ([48, 48, 48, 48, 48, 48] : List UInt8).toArray⟩ := by
  apply ByteArray.ext
  rw [ByteArray.data_append]
  rfl
/-- A text with six digits behind it has the form of a ring exactly if it is a series. -/
theorem form_join (s : ByteArray) (l : List UInt8) (hl : l.length = 6) (hd : ∀ x ∈ l, 48 ≤ x.toNat ∧ x.toNat ≤ 57) : formP ⟨s.data ++ l.toArray⟩ false = if serP s = true then ((s.size : Int), true) else (0, false) := by
  have hsz := join_size s l
  by_cases hs : serP s = true
  · rw [if_pos hs]
    obtain ⟨h12, hb⟩ := serP_true hs
    rw [formP_good (by omega) (by omega) (fun i hi => ?_)]
    · rw [hsz, hl]
      congr 1
      omega
    · unfold okb
      by_cases hi6 : i ≥ (⟨s.data ++ l.toArray⟩ : ByteArray).size - 6
      · rw [if_pos hi6]
        have e : ((i : Nat) : Int) = ((s.size + (i - s.size) : Nat) : Int) := by omega
        rw [e, join_right s l _ (by omega)]
        have := hd _ (List.getElem_mem (show i - s.size < l.length by omega))
        simp only [Bool.or_eq_true, decide_eq_true_eq]
        omega
      · rw [if_neg hi6, join_left s l i (by omega)]
        have := hb i (by omega)
        simp only [Bool.or_eq_true, decide_eq_true_eq]
        omega
  · rw [if_neg hs]
    by_cases h12 : s.size = 1 ∨ s.size = 2
    · have : ∃ i, i < s.size ∧ ¬ (65 ≤ bt s (i : Int) ∧ bt s (i : Int) ≤ 90) := by
        unfold serP at hs
        rw [Bool.and_eq_true, Bool.or_eq_true, decide_eq_true_eq, decide_eq_true_eq] at hs
        have h3 : ((List.range s.size).all fun i => decide (65 ≤ bt s (i : Int) ∧ bt s (i : Int) ≤ 90)) = false := by
          cases hq : ((List.range s.size).all fun i => decide (65 ≤ bt s (i : Int) ∧ bt s (i : Int) ≤ 90)) with
          | false => rfl
          | true => exact absurd ⟨h12, hq⟩ hs
        rw [List.all_eq_false] at h3
        obtain ⟨i, hi, hn⟩ := h3
        exact ⟨i, List.mem_range.1 hi, fun h => hn (decide_eq_true h)⟩
      obtain ⟨i, hi, hn⟩ := this
      refine formP_bad i (by omega) ?_
      unfold okb
      rw [if_neg (by omega), join_left s l i hi]
      simp only [Bool.or_eq_false_iff, decide_eq_false_iff_not]
      exact ⟨hn, by simp⟩
    · unfold formP
      rw [if_pos (by omega)]
theorem zeros_join (s : ByteArray) : formP (s ++ zeros6) false = if serP s = true then ((s.size : Int), true) else (0, false) := by
  rw [ser_join]
  exact form_join s _ rfl (by decide)
theorem series_eq (s : ByteArray) (hs : s.size ≤ 140737488351232) : ring_series.f s = some (serP s) := by
  unfold ring_series.f
  have hz : (s ++ (⟨#[48, 48, 48, 48, 48, 48]⟩ : ByteArray)).size ≤ 9223372036854775807 := by
    have e : (s ++ (⟨#[48, 48, 48, 48, 48, 48]⟩ : ByteArray)) = s ++ zeros6 := rfl
    rw [e, ser_join, join_size]
    simp
    omega
  rw [if_pos (by omega), form_eq hz]
  simp only [Option.bind_some]
  have e : (s ++ (⟨#[48, 48, 48, 48, 48, 48]⟩ : ByteArray)) = s ++ zeros6 := rfl
  rw [e, zeros_join]
  cases h : serP s with
  | true => simp
  | false => simp
def MakeP (s : ByteArray) (n : Int) : ByteArray × Int := if serP s = true then (if n < 0 then (⟨#[]⟩, 1) else if n > 99999 then (⟨#[]⟩, 1) else (makeP s n, 0)) else (⟨#[]⟩, 2)
theorem Make_ev (s : ByteArray) (n : Int) (hs : s.size ≤ 1000) : Ev (fun k => ring_Make.f k s n) (MakeP s n) := by
  unfold ring_Make.f MakeP
  refine Ev.bindc (series_eq s (by omega)) ?_
  by_cases h : serP s = true
  · simp only [if_pos h]
    by_cases h0 : n < 0
    · simp only [if_pos h0]; exact Ev.now _
    · simp only [if_neg h0]
      by_cases h1 : n > 99999
      · simp only [if_pos h1]; exact Ev.now _
      · simp only [if_neg h1]
        exact Ev.bind (make5_ev s n (by omega) (by omega) hs) (Ev.now _)
  · simp only [if_neg h]; exact Ev.now _
/-- The six digits of a ring that is made. -/
def sixD (n : Int) : List Int := fiveD n ++ [(chk n : Int)]
theorem sixD_length (n : Int) : (sixD n).length = 6 := rfl
theorem sixD_range (n : Int) : ∀ x ∈ sixD n, 0 ≤ x ∧ x ≤ 9 := by
  intro x hx
  have := chk_lt n
  exact (List.mem_append.1 hx).elim (fiveD_range n x) (fun h => by simp at h; omega)
theorem make_size (s : ByteArray) (n : Int) : (makeP s n).size = s.size + 6 := by
  unfold makeP
  rw [join_size]
  simp [fiveD]
theorem make_digit (s : ByteArray) (n : Int) (i : Nat) (h : i < 6) : bt (makeP s n) ((s.size + i : Nat) : Int) = 48 + rd (sixD n) (i : Int) := by
  have hl : i < (sixD n).length := by rw [sixD_length]; exact h
  have hb := sixD_range n _ (List.getElem_mem hl)
  show bt (⟨s.data ++ ((sixD n).map Q.byteOf).toArray⟩ : ByteArray) _ = _
  rw [join_right s _ i (by rw [List.length_map]; exact hl), List.getElem_map, byteOf_toNat hb.1 hb.2, rd_lt _ _ hl]
theorem make_tail (s : ByteArray) (n : Int) : tailI (makeP s n) = sixD n := by
  apply List.ext_getElem
  · rw [tailI_length, sixD_length]
  · intro i h1 h2
    rw [tailI_length] at h1
    have e := make_digit s n i h1
    have e2 := tail_at (s := makeP s n) i h1
    rw [rd_lt _ _ (by rw [tailI_length]; exact h1)] at e2
    rw [rd_lt _ _ h2] at e
    have e3 : ((makeP s n).size - 6 + i : Nat) = s.size + i := by rw [make_size]; omega
    rw [e3] at e2
    omega
theorem make_form (s : ByteArray) (n : Int) (hs : serP s = true) : formP (makeP s n) false = ((s.size : Int), true) := by
  have h := form_join s ((sixD n).map Q.byteOf) (by rw [List.length_map, sixD_length]) (fun x hx => by
    obtain ⟨d, hd, rfl⟩ := List.mem_map.1 hx
    have hb := sixD_range n d hd
    have := byteOf_toNat hb.1 hb.2
    omega)
  rw [if_pos hs] at h
  exact h
theorem make_tailN (s : ByteArray) (n : Int) : tailN (makeP s n) = fiveN n ++ [chk n] := by
  unfold tailN
  rw [make_tail]
  unfold sixD fiveN
  rw [List.map_append]
  simp
theorem make_valid (s : ByteArray) (n : Int) (hs : serP s = true) : ValidP (makeP s n) = 0 := by
  unfold ValidP
  rw [if_pos (by rw [make_form s n hs]), make_tailN, if_pos (show sum0 (fiveN n ++ [chk n]) 0 = 0 from check_zero (five_cast n).2)]
theorem make_num (s : ByteArray) (n : Int) (h0 : 0 ≤ n) (h1 : n ≤ 99999) : numP (makeP s n) = n := by
  unfold numP
  rw [make_tail]
  show 10 * (10 * (10 * (10 * (10 * 0 + n / 10000 % 10) + n / 1000 % 10) + n / 100 % 10) + n / 10 % 10) + n % 10 = n
  omega
theorem Count_eq {s : ByteArray} (hs : s.size ≤ 140737488351232) : ring_Count.f s = some (countP s) := by
  unfold ring_Count.f
  rw [if_pos (by omega)]
theorem First_eq {s : ByteArray} (hs : s.size ≤ 140737488351232) : ring_First.f s = some (firstP s) := by
  unfold ring_First.f
  rw [if_pos (by omega)]
theorem list6_ext {l m : List Int} (hl : l.length = 6) (hm : m.length = 6) (h : ∀ i : Nat, i < 6 → rd l (i : Int) = rd m (i : Int)) : l = m := by
  refine List.ext_getElem (by omega) (fun i h1 h2 => ?_)
  have := h i (by omega)
  rwa [rd_lt l i h1, rd_lt m i h2] at this
theorem dig8_bt {b : ByteArray} {i d : Nat} (hi : i < b.size) (hd : d < 10) : bt (putB b i (dig8 d)) (i : Int) = 48 + (d : Int) := by
  rw [putB_same b i _ hi, dig8_nat hd]
  omega
theorem bytes_ext {a b : ByteArray} (hs : a.size = b.size) (h : ∀ i : Nat, i < a.size → bt a (i : Int) = bt b (i : Int)) : a = b := by
  apply ByteArray.ext
  refine Array.ext hs (fun i h1 h2 => ?_)
  have h3 := h i h1
  rw [bt_of (s := a) h1, bt_of (s := b) h2] at h3
  have h4 : (a[i]'h1).toNat = (b[i]'h2).toNat := by omega
  exact UInt8.toNat_inj.mp h4
theorem sum_cS (l : List Nat) (hl : l.length = 6) : sum0 l 0 = cS (fun j => l.getD (5 - j) 0) 6 := by
  match l, hl with
  | [a, b, c, d, e, f], _ =>
    show tm (tm (tm (tm (tm (tm 0 (tn f 0)) (tn e 1)) (tn d 2)) (tn c 3)) (tn b 4)) (tn a 5) = tmQ (tmQ (tmQ (tmQ (tmQ (tmQ 0 (tnQ f 0)) (tnQ e 1)) (tnQ d 2)) (tnQ c 3)) (tnQ b 4)) (tnQ a 5)
    rfl
theorem tailN_at {c : ByteArray} (m : Nat) (hm : m < 6) : (tailN c).getD m 0 = (bt c ((c.size - 6 + m : Nat) : Int) - 48).toNat := by
  unfold tailN
  rw [List.getD_eq_getElem?_getD, List.getElem?_map, List.getElem?_eq_getElem (by rw [tailI_length]; exact hm)]
  simp [tailI]
/-- A text without worn digits: in how many ways it has the sum 0. -/
theorem good_sum {c : ByteArray} (h6 : 6 ≤ c.size) (h : ∀ m, m < 6 → 48 ≤ bt c ((c.size - 6 + m : Nat) : Int) ∧ bt c ((c.size - 6 + m : Nat) : Int) ≤ 57) : gN (waysT c 6) 0 = if sum0 (tailN c) 0 = 0 then 1 else 0 := by
  have hx : ∀ j, j < 6 → (tailN c).getD (5 - j) 0 < 10 := fun j hj => by
    have := h (5 - j) (by omega)
    rw [tailN_at (5 - j) (by omega)]
    omega
  have h2 : ∀ j d, j < 6 → d < 10 → oS c j d = decide (d = (tailN c).getD (5 - j) 0) := fun j d hj hd => by
    have h1 := h (5 - j) (by omega)
    rw [tailN_at (5 - j) (by omega)]
    unfold oS okQ
    rw [show c.size - 6 + (5 - j) = c.size - 1 - j by omega] at h1 ⊢
    generalize bt c ((c.size - 1 - j : Nat) : Int) = x at *
    rw [show (x == 63) = false from beq_eq_false_iff_ne.mpr (by omega), Bool.false_or, Bool.eq_iff_iff, beq_iff_eq, decide_eq_true_eq]
    omega
  rw [waysT_get c 6 0 h6 (by decide), wT_fixed hx h2 0, sum_cS (tailN c) (tailN_length c)]
  by_cases e : cS (fun j => (tailN c).getD (5 - j) 0) 6 = 0
  · rw [if_pos e, if_pos e.symm]
  · rw [if_neg e, if_neg (fun q => e q.symm)]
def fitH (a b : ByteArray) : Bool := decide (a.size = b.size) && (List.range a.size).all (fun i => fitB a b i)
def FitsH (a b : ByteArray) : Bool × Int := if (formP a true).2 = true then (if ValidP b = 0 then (fitH a b, 0) else (false, ValidP b)) else (false, 2)
theorem FitsH_ev (a b : ByteArray) (ha : a.size ≤ 140737488351232) (hb : b.size ≤ 140737488351232) : Ev (fun k => ring_Fits.f k a b) (FitsH a b) := by
  unfold ring_Fits.f FitsH
  refine Ev.bindc (IsWorn_eq ha) ?_
  by_cases hf : (formP a true).2 = true
  · simp only [if_pos hf]
    obtain ⟨h7, h8, _⟩ := formP_true hf
    refine Ev.bind (Valid_ev b hb) ?_
    by_cases hv : ValidP b = 0
    · simp only [if_pos hv]
      have e : ring_fits.f a b = some (fitH a b) := by unfold ring_fits.f; rw [if_pos (by omega)]; rfl
      exact Ev.bindc e (Ev.now _)
    · simp only [if_neg hv]
      exact Ev.now _
  · simp only [if_neg hf]
    exact Ev.now _

abbrev Txt := List UInt8
theorem txt_tri (a b : Txt) : a < b ∨ a = b ∨ b < a := by
  by_cases h1 : a < b
  · exact .inl h1
  · by_cases h2 : b < a
    · exact .inr (.inr h2)
    · exact .inr (.inl (List.le_antisymm (List.not_lt.1 h2) (List.not_lt.1 h1)))
theorem txt_irrefl (a : Txt) : ¬ a < a := List.lt_irrefl a
theorem txt_trans {a b c : Txt} (h1 : a < b) (h2 : b < c) : a < c := List.lt_trans h1 h2
theorem txt_lt_le {a b c : Txt} (h1 : a ≤ b) (h2 : b < c) : a < c := by
  rcases txt_tri a b with h | h | h
  · exact txt_trans h h2
  · exact h ▸ h2
  · exact absurd h (List.not_lt.2 h1)
def Asc (l : List Txt) : Prop := l.Pairwise (· < ·)
/-- Two ascending lists with the same members are the same. -/
theorem asc_ext : ∀ {a b : List Txt}, Asc a → Asc b → (∀ x, x ∈ a ↔ x ∈ b) → a = b
  | [], [], _, _, _ => rfl
  | [], y :: b, _, _, h => absurd ((h y).2 (List.mem_cons_self ..)) (by simp)
  | x :: a, [], _, _, h => absurd ((h x).1 (List.mem_cons_self ..)) (by simp)
  | x :: a, y :: b, ha, hb, h => by
    have ha' := List.pairwise_cons.1 ha
    have hb' := List.pairwise_cons.1 hb
    have e : x = y := by
      rcases List.mem_cons.1 ((h x).1 (List.mem_cons_self ..)) with e | e
      · exact e
      · rcases List.mem_cons.1 ((h y).2 (List.mem_cons_self ..)) with e2 | e2
        · exact e2.symm
        · exact absurd (txt_trans (hb'.1 x e) (ha'.1 y e2)) (txt_irrefl y)
    subst e
    refine congrArg (x :: ·) (asc_ext ha'.2 hb'.2 fun z => ?_)
    constructor
    · intro hz
      rcases List.mem_cons.1 ((h z).1 (List.mem_cons_of_mem _ hz)) with e | e
      · subst e; exact absurd (ha'.1 z hz) (txt_irrefl z)
      · exact e
    · intro hz
      rcases List.mem_cons.1 ((h z).2 (List.mem_cons_of_mem _ hz)) with e | e
      · subst e; exact absurd (hb'.1 z hz) (txt_irrefl z)
      · exact e
/-- A text put among ascending ones, once. -/
def putT (s : Txt) : List Txt → List Txt
  | [] => [s]
  | x :: l => if s < x then s :: x :: l else if s = x then x :: l else x :: putT s l
theorem putT_mem (s x : Txt) (l : List Txt) : x ∈ putT s l ↔ x = s ∨ x ∈ l := by
  induction l with
  | nil => simp [putT]
  | cons y l ih =>
    unfold putT
    by_cases h1 : s < y
    · rw [if_pos h1]; simp
    · rw [if_neg h1]
      by_cases h2 : s = y
      · rw [if_pos h2, h2]; simp
      · rw [if_neg h2, List.mem_cons, ih, List.mem_cons]
        constructor
        · rintro (h | h | h)
          · exact .inr (.inl h)
          · exact .inl h
          · exact .inr (.inr h)
        · rintro (h | h | h)
          · exact .inr (.inl h)
          · exact .inl h
          · exact .inr (.inr h)
theorem putT_asc (s : Txt) : ∀ (l : List Txt), Asc l → Asc (putT s l)
  | [], _ => by unfold putT; exact List.pairwise_singleton _ _
  | x :: l, h => by
    have h' := List.pairwise_cons.1 h
    unfold putT
    by_cases h1 : s < x
    · rw [if_pos h1]
      refine List.pairwise_cons.2 ⟨fun y hy => ?_, h⟩
      rcases List.mem_cons.1 hy with e | e
      · subst e; exact h1
      · exact txt_trans h1 (h'.1 y e)
    · rw [if_neg h1]
      by_cases h2 : s = x
      · rw [if_pos h2]; exact h
      · rw [if_neg h2]
        refine List.pairwise_cons.2 ⟨fun y hy => ?_, putT_asc s l h'.2⟩
        rcases (putT_mem s y l).1 hy with e | e
        · subst e
          rcases txt_tri y x with g | g | g
          · exact absurd g h1
          · exact absurd g h2
          · exact g
        · exact h'.1 y e
def putAll : List Txt → List Txt → List Txt
  | out, [] => out
  | out, s :: l => putAll (putT s out) l
theorem putAll_asc : ∀ (l out : List Txt), Asc out → Asc (putAll out l)
  | [], _, h => h
  | s :: l, out, h => putAll_asc l _ (putT_asc s out h)
theorem putAll_mem : ∀ (l out : List Txt) (x : Txt), x ∈ putAll out l ↔ x ∈ out ∨ x ∈ l
  | [], out, x => by simp [putAll]
  | s :: l, out, x => by
    show x ∈ putAll (putT s out) l ↔ _
    rw [putAll_mem l, putT_mem, List.mem_cons]
    constructor
    · rintro ((h | h) | h)
      · exact .inr (.inl h)
      · exact .inl h
      · exact .inr (.inr h)
    · rintro (h | h | h)
      · exact .inl (.inr h)
      · exact .inl (.inl h)
      · exact .inr h
/-- Compact of a sorted list: ascending, of the same members. -/
theorem upTo_succ (d : Array Txt) (m : Nat) : compactUpTo d (m + 1) = if keeps d m = true then compactUpTo d m ++ [d[m]!] else compactUpTo d m := by
  unfold compactUpTo
  rw [List.range_succ, List.filter_append, List.map_append]
  by_cases h : keeps d m = true
  · rw [if_pos h]; simp [h]
  · rw [if_neg h]; simp [h]
theorem upTo_mem (d : Array Txt) (m : Nat) (x : Txt) : x ∈ compactUpTo d m ↔ ∃ j, j < m ∧ d[j]! = x := by
  induction m with
  | zero => simp [compactUpTo]
  | succ m ih =>
    rw [upTo_succ]
    by_cases h : keeps d m = true
    · rw [if_pos h, List.mem_append, ih, List.mem_singleton]
      constructor
      · rintro (⟨j, hj, e⟩ | e)
        · exact ⟨j, by omega, e⟩
        · exact ⟨m, by omega, e.symm⟩
      · rintro ⟨j, hj, e⟩
        by_cases e2 : j = m
        · subst e2; exact .inr e.symm
        · exact .inl ⟨j, by omega, e⟩
    · rw [if_neg h, ih]
      have hk : m ≠ 0 ∧ d[m]! = d[m - 1]! := by
        unfold keeps at h
        rw [decide_eq_true_eq] at h
        constructor
        · exact fun e => h (.inl e)
        · exact Classical.byContradiction fun e => h (.inr e)
      constructor
      · rintro ⟨j, hj, e⟩; exact ⟨j, by omega, e⟩
      · rintro ⟨j, hj, e⟩
        by_cases e2 : j = m
        · subst e2; exact ⟨j - 1, by omega, by rw [← hk.2]; exact e⟩
        · exact ⟨j, by omega, e⟩
theorem upTo_asc (d : Array Txt) (hs : ∀ i j : Nat, i < j → j < d.size → d[i]! ≤ d[j]!) (m : Nat) (hm : m ≤ d.size) : Asc (compactUpTo d m) := by
  induction m with
  | zero => simp [compactUpTo, Asc]
  | succ m ih =>
    rw [upTo_succ]
    by_cases h : keeps d m = true
    · rw [if_pos h]
      refine List.pairwise_append.2 ⟨ih (by omega), List.pairwise_singleton _ _, fun a ha b hb => ?_⟩
      rw [List.mem_singleton] at hb
      subst hb
      obtain ⟨j, hj, e⟩ := (upTo_mem d m a).1 ha
      subst e
      unfold keeps at h
      rw [decide_eq_true_eq] at h
      have hne : d[m]! ≠ d[m - 1]! := h.resolve_left (by omega)
      have h1 : d[m - 1]! ≤ d[m]! := hs (m - 1) m (by omega) (by omega)
      have h2 : d[j]! ≤ d[m - 1]! := by
        by_cases e : j = m - 1
        · subst e; exact List.le_refl _
        · exact hs j (m - 1) (by omega) (by omega)
      rcases txt_tri (d[m - 1]!) (d[m]!) with g | g | g
      · exact txt_lt_le h2 g
      · exact absurd g.symm hne
      · exact absurd g (List.not_lt.2 h1)
    · rw [if_neg h]
      exact ih (by omega)
/-- The two ways to sorted texts without repetition. -/
theorem sort_compact (l : List Txt) : compact (l.mergeSort fun x y => decide (x ≤ y)) = putAll [] l := by
  have hsort : (l.mergeSort fun x y => decide (x ≤ y)).Pairwise (fun a b => decide (a ≤ b) = true) := List.pairwise_mergeSort (fun a b c h1 h2 => by
    rw [decide_eq_true_eq] at h1 h2 ⊢
    exact List.le_trans h1 h2) (fun a b => by
    rw [Bool.or_eq_true, decide_eq_true_eq, decide_eq_true_eq]
    exact List.le_total a b) l
  obtain ⟨s, hs⟩ : ∃ s, (l.mergeSort fun x y => decide (x ≤ y)) = s := ⟨_, rfl⟩
  have hmem : ∀ x, x ∈ s ↔ x ∈ l := fun x => by rw [← hs]; exact List.mem_mergeSort
  rw [hs] at hsort ⊢
  refine asc_ext (upTo_asc _ (fun i j hij hj => ?_) _ (by simp)) (putAll_asc l [] List.Pairwise.nil) fun x => ?_
  · have hj2 : j < s.length := by simpa using hj
    have h := List.pairwise_iff_getElem.1 hsort i j (by omega) hj2 hij
    simpa [hj2, show i < s.length by omega] using h
  · rw [putAll_mem, show compact s = compactUpTo s.toArray s.length from rfl, upTo_mem]
    constructor
    · rintro ⟨j, hj, e⟩
      right
      rw [← hmem, ← e]
      simp [hj]
    · rintro (h | h)
      · cases h
      · rw [← hmem] at h
        obtain ⟨j, hj, e⟩ := List.mem_iff_getElem.1 h
        exact ⟨j, hj, by simp [hj, e]⟩

def tryA (s : ByteArray) (n i : Nat) : List ByteArray := (List.range 10).map fun c => putB s (n + i) (dig8 c)
def swpA (s : ByteArray) (n i : Nat) : List ByteArray := if 0 < i then [swapB s (n + (i - 1))] else []
def refC (s : ByteArray) (n : Nat) : List ByteArray := (List.range 6).flatMap fun i => tryA s n i ++ swpA s n i
theorem cand_same (s : ByteArray) (n : Nat) (x : ByteArray) : x ∈ candN s n ↔ x ∈ refC s n := by
  unfold candN refC swpA
  rw [List.mem_flatMap, List.mem_flatMap]
  constructor
  · rintro ⟨i, hi, hx⟩
    have hi6 := List.mem_range.1 hi
    rcases List.mem_append.1 hx with h | h
    · exact ⟨i, hi, List.mem_append.2 (.inl h)⟩
    · by_cases h1 : i + 1 < 6
      · rw [if_pos h1] at h
        refine ⟨i + 1, List.mem_range.2 h1, List.mem_append.2 (.inr ?_)⟩
        rw [if_pos (by omega), Nat.add_sub_cancel]
        exact h
      · rw [if_neg h1] at h; cases h
  · rintro ⟨i, hi, hx⟩
    have hi6 := List.mem_range.1 hi
    rcases List.mem_append.1 hx with h | h
    · exact ⟨i, hi, List.mem_append.2 (.inl h)⟩
    · by_cases h1 : 0 < i
      · rw [if_pos h1] at h
        refine ⟨i - 1, List.mem_range.2 (by omega), List.mem_append.2 (.inr ?_)⟩
        rw [if_pos (by omega)]
        exact h
      · rw [if_neg h1] at h; cases h
/-- Which of them are rings other than the text. -/
def isNew (s : ByteArray) (x : ByteArray) : Bool := decide (x ≠ s) && decide (ValidP x = 0)
def goodC (s : ByteArray) (l : List ByteArray) : List ByteArray := l.filter (isNew s)
def txtB (b : ByteArray) : Txt := b.data.toList
def backT (t : Txt) : ByteArray := ⟨t.toArray⟩
theorem back_txt (b : ByteArray) : backT (txtB b) = b := by cases b; rfl
theorem txt_back (t : Txt) : txtB (backT t) = t := rfl
theorem txtB_inj {a b : ByteArray} (h : txtB a = txtB b) : a = b := by rw [← back_txt a, h, back_txt]
/-- Candidates put among what is found. -/
def goT (s : ByteArray) (T : List Txt) (l : List ByteArray) : List Txt := putAll T ((goodC s l).map txtB)
theorem putAll_append : ∀ (l m : List Txt) (T : List Txt), putAll T (l ++ m) = putAll (putAll T l) m
  | [], _, _ => rfl
  | x :: l, m, T => putAll_append l m (putT x T)
theorem goT_append (s : ByteArray) (T : List Txt) (l m : List ByteArray) : goT s T (l ++ m) = goT s (goT s T l) m := by
  unfold goT goodC
  rw [List.filter_append, List.map_append, putAll_append]
theorem goT_one (s : ByteArray) (T : List Txt) (x : ByteArray) : goT s T [x] = if isNew s x = true then putT (txtB x) T else T := by
  unfold goT goodC
  by_cases h : isNew s x = true
  · rw [if_pos h, List.filter_cons_of_pos h]; rfl
  · rw [if_neg h, List.filter_cons_of_neg h]; rfl
theorem goT_asc {s : ByteArray} {T : List Txt} (h : Asc T) (l : List ByteArray) : Asc (goT s T l) := putAll_asc _ _ h
theorem near_same (s : ByteArray) (n : Nat) : goT s [] (candN s n) = goT s [] (refC s n) := by
  refine asc_ext (goT_asc List.Pairwise.nil _) (goT_asc List.Pairwise.nil _) fun x => ?_
  unfold goT goodC
  rw [putAll_mem, putAll_mem, List.mem_map, List.mem_map]
  constructor
  · rintro (h | ⟨b, hb, e⟩)
    · cases h
    · rw [List.mem_filter] at hb
      exact .inr ⟨b, List.mem_filter.2 ⟨(cand_same s n b).1 hb.1, hb.2⟩, e⟩
  · rintro (h | ⟨b, hb, e⟩)
    · cases h
    · rw [List.mem_filter] at hb
      exact .inr ⟨b, List.mem_filter.2 ⟨(cand_same s n b).2 hb.1, hb.2⟩, e⟩
/-! The program's list. -/
theorem keepB_filter (s : ByteArray) (L : List ByteArray) (b : ByteArray) : keepB ValidP s L b = L ++ goodC s [b] := by
  unfold keepB goodC
  by_cases h : b ≠ s ∧ ValidP b = 0
  · rw [if_pos h, List.filter_cons_of_pos (by unfold isNew; rw [decide_eq_true h.1, decide_eq_true h.2]; rfl)]; rfl
  · rw [if_neg h, List.filter_cons_of_neg (by unfold isNew; rw [Bool.and_eq_true, decide_eq_true_eq, decide_eq_true_eq]; exact h)]
    simp
theorem digL_filter (s : ByteArray) (i : Nat) (L : List ByteArray) : ∀ c, digL ValidP s i L c = L ++ goodC s ((List.range c).map fun c => putB s i (dig8 c))
  | 0 => by simp [digL, goodC]
  | c + 1 => by
    show keepB ValidP s (digL ValidP s i L c) (putB s i (dig8 c)) = _
    rw [keepB_filter, digL_filter s i L c, List.range_succ, List.map_append]
    unfold goodC
    rw [List.filter_append, List.append_assoc]
    rfl
theorem placeL_filter (s : ByteArray) (n : Nat) : ∀ j, j ≤ 6 → placeL ValidP s n j = goodC s ((List.range j).flatMap fun i => tryA s n i ++ (if i + 1 < 6 then [swapB s (n + i)] else []))
  | 0, _ => rfl
  | j + 1, hj => by
    unfold placeL
    rw [placeL_filter s n j (by omega), digL_filter, show List.range (j + 1) = List.range j ++ [j] from List.range_succ, List.flatMap_append]
    unfold goodC
    rw [List.filter_append]
    by_cases h1 : j + 1 < 6
    · rw [if_pos h1, keepB_filter]
      unfold goodC
      simp only [List.flatMap_cons, List.flatMap_nil, List.append_nil, if_pos h1, List.filter_append]
      rw [List.append_assoc]
      rfl
    · rw [if_neg h1]
      simp only [List.flatMap_cons, List.flatMap_nil, List.append_nil, if_neg h1]
      rfl
theorem prog_near (s : ByteArray) (n : Nat) : nearR (placeL ValidP s n 6) = (goT s [] (candN s n)).map backT := by
  rw [placeL_filter s n 6 (Nat.le_refl _)]
  unfold nearR goT
  rw [show ((goodC s ((List.range 6).flatMap fun i => tryA s n i ++ (if i + 1 < 6 then [swapB s (n + i)] else []))).map (·.data.toList)) = (goodC s (candN s n)).map txtB from rfl, sort_compact]
  rfl
theorem Near_ev (s : ByteArray) (hs : s.size ≤ 140737488351232) : Ev (fun k => ring_Near.f k s) (if (formP s false).2 = true then ((goT s [] (refC s (s.size - 6))).map backT, 0) else ([], 2)) := by
  unfold ring_Near.f
  refine Ev.bindc (form_eq (by omega)) ?_
  by_cases hf : (formP s false).2 = true
  · rw [if_pos hf]
    obtain ⟨h7, h8, e, _⟩ := formP_true hf
    rw [e]
    have e6 : ((s.size : Int) - 6).toNat = s.size - 6 := by omega
    refine Ev.ifp rfl ?_
    simp only [e6]
    refine Ev.ifp ⟨by omega, by omega, h7, h8⟩ ?_
    have hv : ∀ b ∈ candN s (s.size - 6), Ev (fun k => ring_Valid.f k b) (ValidP b) := fun b hb => Valid_ev b (by
      have : b.size = s.size := by
        obtain ⟨i, _, hx⟩ := List.mem_flatMap.1 hb
        rcases List.mem_append.1 hx with h | h
        · obtain ⟨c, _, rfl⟩ := List.mem_map.1 h
          exact putB_size _ _ _
        · split at h
          · rw [List.mem_singleton.1 h]
            unfold swapB
            rw [putB_size, putB_size]
          · cases h
      omega)
    have hall : ∃ m, ∀ k, m ≤ k → ∀ b ∈ candN s (s.size - 6), ring_Valid.f k b = some (ValidP b) := by
      generalize candN s (s.size - 6) = L at hv
      induction L with
      | nil => exact ⟨0, fun _ _ b hb => by cases hb⟩
      | cons x L ih =>
        obtain ⟨m, hm⟩ := ih (fun b hb => hv b (List.mem_cons_of_mem _ hb))
        obtain ⟨m2, hm2⟩ := hv x (List.mem_cons_self ..)
        refine ⟨max m m2, fun k hk b hb => ?_⟩
        rcases List.mem_cons.1 hb with h | h
        · rw [h]; exact hm2 k (by omega)
        · exact hm k (by omega) b h
    obtain ⟨m, hm⟩ := hall
    refine ⟨m, fun k hk => ?_⟩
    have h1 : nearAll k s (s.size - 6) = true := List.all_eq_true.2 fun b hb => by rw [hm k hk b hb]; rfl
    show (if nearAll k s (s.size - 6) = true then some (nearR (placeL (nearE k) s (s.size - 6) 6), (0 : Int)) else none) = _
    rw [if_pos h1, placeL_congr (e' := ValidP) (fun b hb => by unfold nearE; rw [hm k hk b hb]; rfl) 6 (Nat.le_refl _), prog_near, near_same]
  · rw [if_neg hf]
    exact Ev.ifn hf (Ev.now _)
/-! The document's. -/
/-- A text with the letters of another one and six digits. -/
def candT (s : ByteArray) (t : List Int) : ByteArray := ⟨(s.extract 0 (s.size - 6)).data ++ (t.map Q.byteOf).toArray⟩
theorem ext_size {s : ByteArray} (h : 6 ≤ s.size) : (s.extract 0 (s.size - 6)).size = s.size - 6 := by rw [ByteArray.size_extract]; omega
theorem candT_size {s : ByteArray} (h : 6 ≤ s.size) {t : List Int} (ht : t.length = 6) : (candT s t).size = s.size := by
  unfold candT
  rw [join_size, ext_size h, List.length_map, ht]
  omega
theorem candT_left {s : ByteArray} (h : 6 ≤ s.size) {t : List Int} (i : Nat) (hi : i < s.size - 6) : bt (candT s t) (i : Int) = bt s (i : Int) := by
  unfold candT
  rw [join_left _ _ i (by rw [ext_size h]; exact hi)]
  rw [bt_of (s := s.extract 0 (s.size - 6)) (p := i) (by rw [ext_size h]; exact hi), bt_of (s := s) (p := i) (by omega)]
  congr 2
  simp [ByteArray.getElem_extract]
theorem candT_right {s : ByteArray} (h : 6 ≤ s.size) {t : List Int} (ht : t.length = 6) (hd : ∀ x ∈ t, 0 ≤ x ∧ x ≤ 9) (m : Nat) (hm : m < 6) : bt (candT s t) ((s.size - 6 + m : Nat) : Int) = 48 + rd t (m : Int) := by
  have hl : m < t.length := by omega
  have hb := hd _ (List.getElem_mem hl)
  unfold candT
  have h1 := join_right (s.extract 0 (s.size - 6)) (t.map Q.byteOf) m (by rw [List.length_map]; exact hl)
  rw [ext_size h] at h1
  rw [h1, List.getElem_map, byteOf_toNat hb.1 hb.2, rd_lt _ _ hl]
theorem candT_is {s b : ByteArray} (h : 6 ≤ s.size) {t : List Int} (ht : t.length = 6) (hd : ∀ x ∈ t, 0 ≤ x ∧ x ≤ 9) (hb : b.size = s.size) (hl : ∀ i, i < s.size - 6 → bt b (i : Int) = bt s (i : Int)) (hr : ∀ m, m < 6 → bt b ((s.size - 6 + m : Nat) : Int) = 48 + rd t (m : Int)) : candT s t = b := by
  refine bytes_ext (by rw [candT_size h ht, hb]) fun i hi => ?_
  rw [candT_size h ht] at hi
  by_cases h1 : i < s.size - 6
  · rw [candT_left h i h1, hl i h1]
  · obtain ⟨m, rfl⟩ : ∃ m, i = s.size - 6 + m := ⟨i - (s.size - 6), by omega⟩
    rw [candT_right h ht hd m (by omega), hr m (by omega)]
theorem candT_valid {s : ByteArray} (hf : (formP s false).2 = true) {t : List Int} (ht : t.length = 6) (hd : ∀ x ∈ t, 0 ≤ x ∧ x ≤ 9) : ValidP (candT s t) = if sum0 (t.map Int.toNat) 0 = 0 then 0 else 6 := by
  obtain ⟨h7, h8, e, h⟩ := formP_true hf
  have hsz := candT_size (s := s) (by omega) ht
  have h1 : (formP (candT s t) false).2 = true := by
    rw [formP_good (by omega) (by omega)]
    intro i hi
    rw [hsz] at hi ⊢
    unfold okb
    by_cases h1 : i < s.size - 6
    · rw [if_neg (by omega), candT_left (by omega) i h1]
      have := h i hi
      unfold okb at this
      rw [if_neg (by omega)] at this
      exact this
    · obtain ⟨m, rfl⟩ : ∃ m, i = s.size - 6 + m := ⟨i - (s.size - 6), by omega⟩
      rw [if_pos (by omega), candT_right (by omega) ht hd m (by omega), rd_lt _ _ (show m < t.length by omega)]
      have := hd _ (List.getElem_mem (show m < t.length by omega))
      simp only [Bool.or_eq_true, decide_eq_true_eq]
      omega
  have h2 : tailI (candT s t) = t := by
    refine list6_ext (tailI_length _) ht fun m hm => ?_
    rw [tail_at m hm, hsz, candT_right (by omega) ht hd m hm]
    omega
  unfold ValidP
  rw [if_pos h1]
  unfold tailN
  rw [h2]
theorem tail_mem_range {s : ByteArray} (hf : (formP s false).2 = true) : ∀ x ∈ tailI s, 0 ≤ x ∧ x ≤ 9 := by
  obtain ⟨h7, h8, e, h⟩ := formP_true hf
  exact tailI_range h7 h
theorem tail_bt {s : ByteArray} (_ : 6 ≤ s.size) (m : Nat) (hm : m < 6) : bt s ((s.size - 6 + m : Nat) : Int) = 48 + rd (tailI s) (m : Int) := by
  rw [tail_at m hm]
  omega
theorem set_range {t : List Int} (hd : ∀ x ∈ t, 0 ≤ x ∧ x ≤ 9) (i : Nat) {c : Int} (h0 : 0 ≤ c) (h1 : c ≤ 9) : ∀ x ∈ t.set i c, 0 ≤ x ∧ x ≤ 9 := by
  intro x hx
  rcases List.mem_or_eq_of_mem_set hx with h | h
  · exact hd x h
  · omega
theorem rd_range {t : List Int} (hd : ∀ x ∈ t, 0 ≤ x ∧ x ≤ 9) (m : Nat) (hm : m < t.length) : 0 ≤ rd t (m : Int) ∧ rd t (m : Int) ≤ 9 := by
  rw [rd_lt _ _ hm]
  exact hd _ (List.getElem_mem hm)
theorem cand_digit {s : ByteArray} (hf : (formP s false).2 = true) (i c : Nat) (hi : i < 6) (hc : c < 10) : candT s ((tailI s).set i (c : Int)) = putB s (s.size - 6 + i) (dig8 c) := by
  obtain ⟨h7, h8, _, _⟩ := formP_true hf
  have hd := set_range (tail_mem_range hf) i (c := (c : Int)) (by omega) (by omega)
  refine candT_is (by omega) (by rw [List.length_set, tailI_length]) hd (putB_size _ _ _) (fun q hq => putB_other _ _ _ _ (by omega) (by omega)) fun m hm => ?_
  by_cases e : m = i
  · subst e
    rw [dig8_bt (by omega) hc, rd_set_same _ _ _ (by rw [tailI_length]; exact hm)]
  · rw [putB_other _ _ _ _ (by omega) (by omega), rd_set_other _ _ _ _ e, tail_bt (by omega) m hm]
theorem by8_bt {s : ByteArray} {i : Nat} (h : i < s.size) : (((by8 s i).toNat : Nat) : Int) = bt s (i : Int) := (bt_by8 s h).symm
theorem cand_swapped {s : ByteArray} (hf : (formP s false).2 = true) (i : Nat) (hi : i < 6) (h0 : 0 < i) : candT s (((tailI s).set (i - 1) (rd (tailI s) (i : Int))).set i (rd (tailI s) ((i - 1 : Nat) : Int))) = swapB s (s.size - 6 + (i - 1)) := by
  obtain ⟨h7, h8, _, _⟩ := formP_true hf
  have hr := tail_mem_range hf
  have hl := tailI_length s
  have r1 := rd_range hr i (by omega)
  have r2 := rd_range hr (i - 1) (by omega)
  have hd := set_range (set_range hr (i - 1) r1.1 r1.2) i r2.1 r2.2
  have e1 : s.size - 6 + (i - 1) + 1 = s.size - 6 + i := by omega
  unfold swapB
  rw [e1]
  refine candT_is (by omega) (by rw [List.length_set, List.length_set, hl]) hd (by rw [putB_size, putB_size]) (fun q hq => ?_) fun m hm => ?_
  · rw [putB_other _ _ _ _ (by rw [putB_size]; omega) (by omega), putB_other _ _ _ _ (by omega) (by omega)]
  · by_cases e : m = i
    · subst e
      rw [putB_same _ _ _ (by rw [putB_size]; omega), by8_bt (by omega), rd_set_same _ _ _ (by rw [List.length_set, hl]; exact hm), tail_bt (by omega) _ (by omega)]
    · rw [putB_other _ _ _ _ (by rw [putB_size]; omega) (by omega), rd_set_other _ _ _ _ e]
      by_cases e2 : m = i - 1
      · subst e2
        rw [putB_same _ _ _ (by omega), by8_bt (by omega), rd_set_same _ _ _ (by rw [hl]; omega), tail_bt (by omega) _ (by omega)]
      · rw [putB_other _ _ _ _ (by omega) (by omega), rd_set_other _ _ _ _ e2, tail_bt (by omega) m hm]

theorem toList_txt (b : ByteArray) : b.toList = txtB b := ByteArray.toList_eq b
theorem rdOf_at (l : List ByteArray) (i : Nat) (h : i < l.length) : rdOf ByteArray.empty l (i : Int) = l[i] := by
  unfold rdOf
  simp [h]

theorem putT_len (x : Txt) : ∀ l : List Txt, (putT x l).length ≤ l.length + 1
  | [] => Nat.le_refl _
  | y :: l => by
    unfold putT
    have := putT_len x l
    by_cases h : x < y
    · rw [if_pos h]; simp
    · rw [if_neg h]
      by_cases h2 : x = y
      · rw [if_pos h2]; simp
      · rw [if_neg h2]; simp; omega
theorem goT_cons (s : ByteArray) (T : List Txt) (x : ByteArray) (l : List ByteArray) : goT s T (x :: l) = goT s (if isNew s x = true then putT (txtB x) T else T) l := by
  rw [← goT_one, ← goT_append]
  rfl
theorem goT_len (s : ByteArray) : ∀ (l : List ByteArray) (T : List Txt), (goT s T l).length ≤ T.length + l.length
  | [], _ => Nat.le_refl _
  | x :: l, T => by
    rw [goT_cons]
    have h := goT_len s l (if isNew s x = true then putT (txtB x) T else T)
    have h2 : (if isNew s x = true then putT (txtB x) T else T).length ≤ T.length + 1 := by
      split
      · exact putT_len _ _
      · omega
    simp only [List.length_cons]
    omega
/-! None is near to a ring. -/
theorem set_ne (l : List Nat) (k i x : Nat) (h : i ≠ k) : (l.set k x).getD i 0 = l.getD i 0 := by
  rw [List.getD_eq_getElem?_getD, List.getD_eq_getElem?_getD, List.getElem?_set_ne (Ne.symm h)]
theorem set_self (l : List Nat) (k x : Nat) (h : k < l.length) : (l.set k x).getD k 0 = x := by
  rw [List.getD_eq_getElem?_getD, List.getElem?_set_self h]; rfl
theorem digs_set {l : List Nat} (hl : Digs l) {x : Nat} (hx : x < 10) (k : Nat) : Digs (l.set k x) := by
  refine Digs.of fun y hy => ?_
  rcases List.mem_or_eq_of_mem_set hy with h | h
  · exact hl.mem h
  · omega
theorem one_wrong {m : List Nat} (hm : Digs m) (h0 : sum0 m 0 = 0) {k x : Nat} (hk : k < m.length) (hx : x < 10) (hne : m.getD k 0 ≠ x) : sum0 (m.set k x) 0 ≠ 0 := by
  intro h
  unfold sum0 at h h0
  rw [List.length_set] at h
  refine sumN_wrong (l := m) (m := m.set k x) hm (digs_set hm hx k) (by rw [List.length_set]) 0 k (fun i hi => (set_ne m k i x hi).symm) ?_ m.length hk (c := 0) (by decide) (h0.trans h.symm)
  rw [set_self m k x hk]
  exact hne
theorem two_wrong {m : List Nat} (hm : Digs m) (h0 : sum0 m 0 = 0) {k : Nat} (hk : k + 1 < m.length) (hne : m.getD (k + 1) 0 ≠ m.getD k 0) : sum0 ((m.set k (m.getD (k + 1) 0)).set (k + 1) (m.getD k 0)) 0 ≠ 0 := by
  intro h
  unfold sum0 at h h0
  rw [List.length_set, List.length_set] at h
  refine sumN_swap (l := m) (m := (m.set k (m.getD (k + 1) 0)).set (k + 1) (m.getD k 0)) hm (digs_set (digs_set hm (hm (k + 1)) _) (hm k) _) (by rw [List.length_set, List.length_set]) 0 k (fun i hi hj => ?_) ?_ ?_ (Ne.symm hne) m.length hk (Nat.le_refl _) (c := 0) (by decide) (h0.trans h.symm)
  · rw [set_ne _ (k + 1) i _ hj, set_ne _ k i _ hi]
  · rw [set_self _ (k + 1) _ (by rw [List.length_set]; omega)]
  · rw [set_ne _ (k + 1) k _ (by omega), set_self m k _ (by omega)]
theorem set_same (l : List Int) (i : Nat) (h : i < l.length) : l.set i (rd l (i : Int)) = l := by
  rw [rd_lt _ _ h, List.set_getElem_self]
theorem candT_tail {s : ByteArray} (hf : (formP s false).2 = true) : candT s (tailI s) = s := by
  obtain ⟨h7, _, _, _⟩ := formP_true hf
  exact candT_is (by omega) (tailI_length s) (tail_mem_range hf) rfl (fun _ _ => rfl) fun m hm => tail_bt (by omega) m hm
theorem rd_nat {s : ByteArray} (hf : (formP s false).2 = true) (m : Nat) (_ : m < 6) : rd (tailI s) (m : Int) = (((tailN s).getD m 0 : Nat) : Int) := by
  obtain ⟨h7, _, _, h⟩ := formP_true hf
  obtain ⟨et, _⟩ := tail_cast h7 h
  rw [et, rd_map]
theorem toNat_set (l : List Int) (i : Nat) (x : Int) : (l.set i x).map Int.toNat = (l.map Int.toNat).set i x.toNat := List.map_set ..
/-- Every text that comes from a ring by one small change is no ring, or the ring. -/
theorem ref_none {s : ByteArray} (hv : ValidP s = 0) : ∀ x ∈ refC s (s.size - 6), isNew s x = false := by
  obtain ⟨hf, h0⟩ := ValidP_ok hv
  obtain ⟨h7, h8, _, h⟩ := formP_true hf
  obtain ⟨et, hD⟩ := tail_cast h7 h
  have hr := tail_mem_range hf
  have htl := tailI_length s
  have hNl := tailN_length s
  have key : ∀ t : List Int, t.length = 6 → (∀ x ∈ t, 0 ≤ x ∧ x ≤ 9) → (t ≠ tailI s → sum0 (t.map Int.toNat) 0 ≠ 0) → isNew s (candT s t) = false := by
    intro t ht hd hn
    unfold isNew
    by_cases e : t = tailI s
    · rw [e, candT_tail hf]
      simp
    · have := candT_valid hf ht hd
      rw [if_neg (hn e)] at this
      rw [this]
      simp
  intro x hx
  obtain ⟨i, hi, hx⟩ := List.mem_flatMap.1 hx
  have hi6 := List.mem_range.1 hi
  rcases List.mem_append.1 hx with g | g
  · obtain ⟨c, hc, rfl⟩ := List.mem_map.1 g
    have hc10 := List.mem_range.1 hc
    rw [← cand_digit hf i c hi6 hc10]
    refine key _ (by rw [List.length_set, htl]) (set_range hr i (by omega) (by omega)) fun hne => ?_
    rw [toNat_set]
    refine one_wrong hD h0 (by omega) (by simpa using hc10) fun e => hne ?_
    rw [Int.toNat_natCast] at e
    have e2 := rd_nat hf i hi6
    rw [e] at e2
    rw [← e2, set_same _ _ (by omega)]
  · unfold swpA at g
    by_cases hp : 0 < i
    · rw [if_pos hp] at g
      rw [List.mem_singleton.1 g, ← cand_swapped hf i hi6 hp]
      have r1 := rd_range hr i (by omega)
      have r2 := rd_range hr (i - 1) (by omega)
      refine key _ (by rw [List.length_set, List.length_set, htl]) (set_range (set_range hr (i - 1) r1.1 r1.2) i r2.1 r2.2) fun hne => ?_
      obtain ⟨j, rfl⟩ : ∃ j, i = j + 1 := ⟨i - 1, by omega⟩
      rw [Nat.add_sub_cancel] at hne ⊢
      rw [toNat_set, toNat_set, rd_nat hf (j + 1) hi6, rd_nat hf j (by omega), Int.toNat_natCast, Int.toNat_natCast]
      refine two_wrong hD h0 (by rw [hNl]; exact hi6) fun e => hne ?_
      have e1 := rd_nat hf (j + 1) hi6
      have e2 := rd_nat hf j (by omega)
      have e3 : rd (tailI s) ((j + 1 : Nat) : Int) = rd (tailI s) (j : Int) := by rw [e1, e2, e]
      rw [e3, set_same _ _ (by omega), ← e3, set_same _ _ (by omega)]
    · rw [if_neg hp] at g
      cases g
theorem near_none {s : ByteArray} (hv : ValidP s = 0) : goT s [] (refC s (s.size - 6)) = [] := by
  have h : goodC s (refC s (s.size - 6)) = [] := List.filter_eq_nil_iff.2 fun x hx => by rw [ref_none hv x hx]; decide
  unfold goT
  rw [h]
  rfl

/-- Two texts that agree up to a place, where the first one has the smaller byte. -/
theorem lex_lt {a b : ByteArray} (p : Nat) (ha : p < a.size) (hb : p < b.size) (h : ∀ i, i < p → bt a (i : Int) = bt b (i : Int)) (hp : bt a (p : Int) < bt b (p : Int)) : txtB a < txtB b := by
  have e : ∀ (c : ByteArray) (i : Nat) (hi : i < c.size), bt c (i : Int) = (((c.data.toList[i]'(by simpa using hi)).toNat : Nat) : Int) := fun c i hi => by
    rw [bt_of hi]
    rfl
  refine List.lt_iff_exists.2 (.inr ⟨p, by simpa [txtB] using ha, by simpa [txtB] using hb, fun j hj => ?_, ?_⟩)
  · have h1 := h j hj
    rw [e a j (by omega), e b j (by omega)] at h1
    exact UInt8.toNat_inj.mp (by unfold txtB; omega)
  · rw [e a p ha, e b p hb] at hp
    exact UInt8.lt_iff_toNat_lt.2 (by unfold txtB; omega)
theorem less_false {a b : ByteArray} (h : txtB a = txtB b ∨ txtB a < txtB b) : Op.bytesLess b.toList a.toList = false := by
  rw [Go.Proofs.bytesLess_eq, toList_txt, toList_txt]
  refine decide_eq_false fun q => ?_
  rcases h with h | h
  · exact txt_irrefl _ (h ▸ q)
  · exact txt_irrefl _ (txt_trans h q)
theorem less_true {a b : ByteArray} (h : txtB a < txtB b) : Op.bytesLess a.toList b.toList = true := by
  rw [Go.Proofs.bytesLess_eq, toList_txt, toList_txt]
  exact decide_eq_true h
/-! The next ring of a series. -/
theorem make_left (s : ByteArray) (n : Int) (i : Nat) (h : i < s.size) : bt (makeP s n) (i : Int) = bt s (i : Int) := join_left s _ i h
theorem make_less (s : ByteArray) (n : Int) (h0 : 0 ≤ n) (h1 : n < 99999) : txtB (makeP s n) < txtB (makeP s (n + 1)) := by
  have hz := make_size s n
  have hz2 := make_size s (n + 1)
  have key : ∀ p : Nat, p < 5 → (∀ i : Nat, i < p → rd (sixD n) (i : Int) = rd (sixD (n + 1)) (i : Int)) → rd (sixD n) (p : Int) < rd (sixD (n + 1)) (p : Int) → txtB (makeP s n) < txtB (makeP s (n + 1)) := by
    intro p hp ha hb
    refine lex_lt (s.size + p) (by omega) (by omega) (fun i hi => ?_) ?_
    · by_cases hi2 : i < s.size
      · rw [make_left s n i hi2, make_left s (n + 1) i hi2]
      · obtain ⟨m, rfl⟩ : ∃ m, i = s.size + m := ⟨i - s.size, by omega⟩
        rw [make_digit s n m (by omega), make_digit s (n + 1) m (by omega), ha m (by omega)]
    · rw [make_digit s n p (by omega), make_digit s (n + 1) p (by omega)]
      omega
  have d0 : ∀ m : Int, rd (sixD m) ((0 : Nat) : Int) = m / 10000 % 10 := fun _ => rfl
  have d1 : ∀ m : Int, rd (sixD m) ((1 : Nat) : Int) = m / 1000 % 10 := fun _ => rfl
  have d2 : ∀ m : Int, rd (sixD m) ((2 : Nat) : Int) = m / 100 % 10 := fun _ => rfl
  have d3 : ∀ m : Int, rd (sixD m) ((3 : Nat) : Int) = m / 10 % 10 := fun _ => rfl
  have d4 : ∀ m : Int, rd (sixD m) ((4 : Nat) : Int) = m % 10 := fun _ => rfl
  have pre : ∀ p : Nat, p ≤ 4 → (0 < p → n / 10000 % 10 = (n + 1) / 10000 % 10) → (1 < p → n / 1000 % 10 = (n + 1) / 1000 % 10) → (2 < p → n / 100 % 10 = (n + 1) / 100 % 10) → (3 < p → n / 10 % 10 = (n + 1) / 10 % 10) → ∀ i : Nat, i < p → rd (sixD n) (i : Int) = rd (sixD (n + 1)) (i : Int) := by
    intro p hp a b c d i hi
    match i, hi with
    | 0, hi => rw [d0, d0]; exact a hi
    | 1, hi => rw [d1, d1]; exact b hi
    | 2, hi => rw [d2, d2]; exact c hi
    | 3, hi => rw [d3, d3]; exact d hi
    | i + 4, hi => omega
  by_cases c4 : n % 10 < 9
  · exact key 4 (by omega) (pre 4 (by omega) (by omega) (by omega) (by omega) (by omega)) (by rw [d4, d4]; omega)
  · by_cases c3 : n / 10 % 10 < 9
    · exact key 3 (by omega) (pre 3 (by omega) (by omega) (by omega) (by omega) (by omega)) (by rw [d3, d3]; omega)
    · by_cases c2 : n / 100 % 10 < 9
      · exact key 2 (by omega) (pre 2 (by omega) (by omega) (by omega) (by omega) (by omega)) (by rw [d2, d2]; omega)
      · by_cases c1 : n / 1000 % 10 < 9
        · exact key 1 (by omega) (pre 1 (by omega) (by omega) (by omega) (by omega) (by omega)) (by rw [d1, d1]; omega)
        · exact key 0 (by omega) (pre 0 (by omega) (by omega) (by omega) (by omega) (by omega)) (by rw [d0, d0]; omega)
def NextQ (s : ByteArray) : ByteArray × Int := if ValidP s = 0 then (if numP s = 99999 then (⟨#[]⟩, 3) else (makeP (s.extract 0 (s.size - 6)) (numP s + 1), 0)) else (⟨#[]⟩, ValidP s)
theorem NextQ_ev (s : ByteArray) (hs : s.size ≤ 140737488351232) : Ev (fun k => ring_Next.f k s) (NextQ s) := by
  unfold ring_Next.f NextQ
  refine Ev.bind (Split_ev s hs) ?_
  unfold SplitP
  by_cases hv : ValidP s = 0
  · simp only [if_pos hv]
    obtain ⟨hf, _⟩ := ValidP_ok hv
    obtain ⟨h7, h8, _, h⟩ := formP_true hf
    obtain ⟨h0, h1⟩ := numTo_lt (tailI s) (tailI_range h7 h) 5 (by omega)
    have h0 : 0 ≤ numP s := h0
    have h1 : numP s ≤ 99999 := h1
    refine Ev.ifp trivial ?_
    by_cases hn : numP s = 99999
    · simp only [if_pos hn]
      exact Ev.now _
    · simp only [if_neg hn]
      rw [w64 (by omega) (by omega)]
      exact Ev.bind (make5_ev _ _ (by omega) (by omega) (by simp; omega)) (Ev.now _)
  · simp only [if_neg hv]
    exact Ev.now _
/-! A ring is worn, fits itself, and is the only one. -/
theorem mulQ_same (s : ByteArray) (m n : Nat) (h : ∀ i, i < n → bt s (i : Int) ≠ 63) : mulQ s m n = m := by
  induction n with
  | zero => rfl
  | succ n ih =>
    unfold mulQ
    rw [if_neg (h n (by omega))]
    exact ih (fun i hi => h i (by omega))
theorem worn_form {t w : ByteArray} (h7 : 7 ≤ t.size) (h8 : t.size ≤ 8) (hok : ∀ i, i < t.size → okb false (t.size - 6) i (bt t i) = true) (hs : w.size = t.size) (h : ∀ i, i < t.size → bt w (i : Int) = bt t (i : Int) ∨ bt w (i : Int) = 63) : (formP w true).2 = true ∧ ∀ i, i < w.size → okb true (w.size - 6) i (bt w i) = true := by
  have hokw : ∀ i, i < w.size → okb true (w.size - 6) i (bt w i) = true := by
    intro i hi
    rw [hs] at hi ⊢
    have h1 := hok i hi
    rcases h i hi with e | e
    · rw [e]
      unfold okb at h1 ⊢
      rw [Bool.false_and, Bool.or_false] at h1
      rw [h1, Bool.true_or]
    · rw [e]
      unfold okb
      simp
  exact ⟨by rw [formP_good (worn := true) (by omega) (by omega) hokw], hokw⟩
theorem self_worn {t : ByteArray} (hv : ValidP t = 0) : FitsH t t = (true, 0) ∧ countP t = (1, 0) := by
  obtain ⟨hf, hsum⟩ := ValidP_ok hv
  obtain ⟨h7, h8, _, hok⟩ := formP_true hf
  have hdg : ∀ m, m < 6 → 48 ≤ bt t ((t.size - 6 + m : Nat) : Int) ∧ bt t ((t.size - 6 + m : Nat) : Int) ≤ 57 := fun m hm => formed_digit h7 hok m hm
  have hw := (worn_form h7 h8 hok rfl (fun _ _ => .inl rfl)).1
  constructor
  · unfold FitsH fitH
    rw [if_pos hw, if_pos hv, decide_eq_true rfl, Bool.true_and, show ((List.range t.size).all fun i => fitB t t i) = true from List.all_eq_true.2 fun i _ => by unfold fitB; simp]
  · unfold countP
    rw [if_pos hw, good_sum (by omega) hdg, if_pos hsum, mulQ_same]
    · rfl
    · intro i hi
      have := formed_letter h7 hok i hi
      omega
/-! Two worn digits. -/
theorem one_hole {t : ByteArray} (h6 : 6 ≤ t.size) (hd : ∀ m, m < 6 → 48 ≤ bt t ((t.size - 6 + m : Nat) : Int) ∧ bt t ((t.size - 6 + m : Nat) : Int) ≤ 57) (q : Nat) (hq : q < 6) : gN (waysT (putB t (t.size - 6 + q) 63) 6) 0 = 1 := by
  rw [waysT_get _ 6 0 (by rw [putB_size]; exact h6) (by decide)]
  refine wT_hole (x := fun j => (bt t ((t.size - 1 - j : Nat) : Int) - 48).toNat) (j0 := 5 - q) (Nat.le_refl 6) (by omega) (fun j hj => ?_) (fun d _ => ?_) (fun j d hj hne hd10 => ?_) 0 (by decide)
  · have := hd (5 - j) (by omega)
    rw [show t.size - 6 + (5 - j) = t.size - 1 - j by omega] at this
    show (bt t ((t.size - 1 - j : Nat) : Int) - 48).toNat < 10
    omega
  · unfold oS okQ
    rw [putB_size, show t.size - 1 - (5 - q) = t.size - 6 + q by omega, putB_same _ _ _ (by omega)]
    rfl
  · have := hd (5 - j) (by omega)
    rw [show t.size - 6 + (5 - j) = t.size - 1 - j by omega] at this
    unfold oS okQ
    rw [putB_size, putB_other _ _ _ _ (by omega) (by omega)]
    show _ = decide (d = (bt t ((t.size - 1 - j : Nat) : Int) - 48).toNat)
    generalize bt t ((t.size - 1 - j : Nat) : Int) = x at *
    rw [show (x == 63) = false from beq_eq_false_iff_ne.mpr (by omega), Bool.false_or, Bool.eq_iff_iff, beq_iff_eq, decide_eq_true_eq]
    omega
theorem sumF_ones {f : Nat → Nat} : ∀ n, (∀ x, x < n → f x = 1) → sumF f n = n
  | 0, _ => rfl
  | n + 1, h => by
    unfold sumF
    rw [sumF_ones n (fun x hx => h x (by omega)), h n (by omega)]
    <;> omega
theorem putB_comm (b : ByteArray) (i j : Nat) (c d : UInt8) (h : i ≠ j) : putB (putB b i c) j d = putB (putB b j d) i c := by
  unfold putB
  rw [Array.setIfInBounds_comm _ _ h]
def twoB (t : ByteArray) : ByteArray := putB (putB t (t.size - 6 + 4) 63) (t.size - 6 + 5) 63
theorem twoB_size (t : ByteArray) : (twoB t).size = t.size := by unfold twoB; rw [putB_size, putB_size]
theorem digits_put {t : ByteArray} (h6 : 6 ≤ t.size) (hd : ∀ m, m < 6 → 48 ≤ bt t ((t.size - 6 + m : Nat) : Int) ∧ bt t ((t.size - 6 + m : Nat) : Int) ≤ 57) (q x : Nat) (hq : q < 6) (hx : x < 10) : ∀ m, m < 6 → 48 ≤ bt (putB t (t.size - 6 + q) (dig8 x)) (((putB t (t.size - 6 + q) (dig8 x)).size - 6 + m : Nat) : Int) ∧ bt (putB t (t.size - 6 + q) (dig8 x)) (((putB t (t.size - 6 + q) (dig8 x)).size - 6 + m : Nat) : Int) ≤ 57 := by
  intro m hm
  rw [putB_size]
  by_cases e : m = q
  · subst e
    rw [dig8_bt (by omega) hx]
    omega
  · rw [putB_other _ _ _ _ (by omega) (by omega)]
    exact hd m hm
theorem two_count {t : ByteArray} (h6 : 6 ≤ t.size) (hd : ∀ m, m < 6 → 48 ≤ bt t ((t.size - 6 + m : Nat) : Int) ∧ bt t ((t.size - 6 + m : Nat) : Int) ≤ 57) : gN (waysT (twoB t) 6) 0 = 10 := by
  have hsz := twoB_size t
  have hb : bt (twoB t) ((t.size - 6 + 5 : Nat) : Int) = 63 := putB_same _ _ _ (by rw [putB_size]; omega)
  have hi : t.size - 6 + 5 < (twoB t).size := by omega
  rw [waysT_get _ 6 0 (by omega) (by decide), wT_split (oS (twoB t)) ((twoB t).size - 1 - (t.size - 6 + 5)) 6 0 (fun d _ => oS_hole hi hb d) (by omega) (by decide)]
  refine sumF_ones 10 fun x hx => ?_
  rw [hole_put hi hb x hx 0 (by decide) 6 (by omega)]
  unfold twoB
  have h1 := one_hole (t := putB t (t.size - 6 + 5) (dig8 x)) (by rw [putB_size]; exact h6) (digits_put h6 hd 5 x (by decide) hx) 4 (by decide)
  rw [waysT_get _ 6 0 (by rw [putB_size, putB_size]; exact h6) (by decide), putB_size, putB_comm _ _ _ _ _ (by omega)] at h1
  rw [putB_putB]
  exact h1
theorem fst_still {n : Nat} {w : ByteArray} (j : Nat) (h : ∀ i, i < j → bt w (i : Int) ≠ 63) (hj : j ≤ w.size) : fstB n w j = w := by
  induction j with
  | zero => rfl
  | succ j ih =>
    have e := ih (fun i hi => h i (by omega)) (by omega)
    unfold fstB
    rw [e, if_neg (h j (by omega))]
theorem two_first {t : ByteArray} (hv : ValidP t = 0) : ∃ F, firstP (twoB t) = (F, true, 0) ∧ countP (twoB t) = (10, 0) ∧ (txtB F = txtB t ∨ txtB F < txtB t) := by
  obtain ⟨hf, hsum⟩ := ValidP_ok hv
  obtain ⟨h7, h8, _, hok⟩ := formP_true hf
  have hdg : ∀ m, m < 6 → 48 ≤ bt t ((t.size - 6 + m : Nat) : Int) ∧ bt t ((t.size - 6 + m : Nat) : Int) ≤ 57 := fun m hm => formed_digit h7 hok m hm
  have hsz := twoB_size t
  have h4 : bt (twoB t) ((t.size - 6 + 4 : Nat) : Int) = 63 := by unfold twoB; rw [putB_other _ _ _ _ (by rw [putB_size]; omega) (by omega), putB_same _ _ _ (by omega)]; rfl
  have h5 : bt (twoB t) ((t.size - 6 + 5 : Nat) : Int) = 63 := putB_same _ _ _ (by rw [putB_size]; omega)
  have ho : ∀ i, i < t.size - 6 + 4 → bt (twoB t) (i : Int) = bt t (i : Int) := fun i hi => by unfold twoB; rw [putB_other _ _ _ _ (by rw [putB_size]; omega) (by omega), putB_other _ _ _ _ (by omega) (by omega)]
  have h63 : ∀ i, i < t.size → bt t (i : Int) ≠ 63 := fun i hi => by
    by_cases hl : i < t.size - 6
    · have := formed_letter h7 hok i hl; omega
    · have := hdg (i - (t.size - 6)) (by omega)
      rw [show t.size - 6 + (i - (t.size - 6)) = i by omega] at this
      omega
  obtain ⟨hw, hokw⟩ := worn_form h7 h8 hok hsz (fun i hi => by
    by_cases e5 : i = t.size - 6 + 5
    · rw [e5]; exact .inr h5
    · by_cases e4 : i = t.size - 6 + 4
      · rw [e4]; exact .inr h4
      · exact .inl (ho i (by omega)))
  have htwo := two_count (t := t) (by omega) hdg
  refine ⟨fstB ((twoB t).size - 6) (twoB t) (twoB t).size, ?_, ?_, ?_⟩
  · unfold firstP
    rw [if_pos hw, if_neg (by rw [htwo]; decide)]
  · unfold countP
    rw [if_pos hw, htwo, mulQ_same]
    · rfl
    · intro i hi
      rw [ho i (by omega)]
      exact h63 i (by omega)
  · rw [hsz]
    have e4 : fstB (t.size - 6) (twoB t) (t.size - 6 + 4) = twoB t := fst_still _ (fun i hi => by rw [ho i hi]; exact h63 i (by omega)) (by omega)
    have hp0 : putB (twoB t) (t.size - 6 + 4) (dig8 0) = putB (putB t (t.size - 6 + 4) (dig8 0)) (t.size - 6 + 5) 63 := by
      unfold twoB
      rw [putB_comm _ _ _ _ _ (show t.size - 6 + 4 ≠ t.size - 6 + 5 by omega), putB_putB, putB_comm _ _ _ _ _ (show t.size - 6 + 5 ≠ t.size - 6 + 4 by omega)]
    have hg0 : goodB (putB (twoB t) (t.size - 6 + 4) (dig8 0)) = true := by
      rw [hp0]
      have h1 := one_hole (t := putB t (t.size - 6 + 4) (dig8 0)) (by rw [putB_size]; omega) (digits_put (by omega) hdg 4 0 (by decide) (by decide)) 5 (by decide)
      rw [putB_size] at h1
      unfold goodB
      rw [h1]
      rfl
    have hpick : pickB (twoB t) (t.size - 6 + 4) = 0 := leastD_eq (p := fun d => goodB (putB (twoB t) (t.size - 6 + 4) (dig8 d))) hg0 (fun e he => by omega) 10 0 (by omega) (by omega)
    have e5 : fstB (t.size - 6) (twoB t) (t.size - 6 + 5) = putB (twoB t) (t.size - 6 + 4) (dig8 0) := by
      show (if bt (fstB (t.size - 6) (twoB t) (t.size - 6 + 4)) ((t.size - 6 + 4 : Nat) : Int) = 63 then _ else _) = _
      rw [e4, if_pos h4, if_neg (by omega), hpick]
    have e6 : fstB (t.size - 6) (twoB t) t.size = putB (putB (twoB t) (t.size - 6 + 4) (dig8 0)) (t.size - 6 + 5) (dig8 (pickB (putB (twoB t) (t.size - 6 + 4) (dig8 0)) (t.size - 6 + 5))) := by
      have es : t.size = (t.size - 6 + 5) + 1 := by omega
      have h := show fstB (t.size - 6) (twoB t) ((t.size - 6 + 5) + 1) = (if bt (fstB (t.size - 6) (twoB t) (t.size - 6 + 5)) ((t.size - 6 + 5 : Nat) : Int) = 63 then (if t.size - 6 + 5 < t.size - 6 then putB (fstB (t.size - 6) (twoB t) (t.size - 6 + 5)) (t.size - 6 + 5) 65 else putB (fstB (t.size - 6) (twoB t) (t.size - 6 + 5)) (t.size - 6 + 5) (dig8 (pickB (fstB (t.size - 6) (twoB t) (t.size - 6 + 5)) (t.size - 6 + 5)))) else fstB (t.size - 6) (twoB t) (t.size - 6 + 5)) from rfl
      rw [← es, e5, putB_other _ _ _ _ (by omega) (by omega), if_pos h5, if_neg (by omega)] at h
      exact h
    rw [e6]
    have hF4 : ∀ c, bt (putB (putB (twoB t) (t.size - 6 + 4) (dig8 0)) (t.size - 6 + 5) c) ((t.size - 6 + 4 : Nat) : Int) = 48 := fun c => by
      rw [putB_other _ _ _ _ (by rw [putB_size]; omega) (by omega), dig8_bt (by omega) (by decide)]
      rfl
    have hFo : ∀ c i, i < t.size - 6 + 4 → bt (putB (putB (twoB t) (t.size - 6 + 4) (dig8 0)) (t.size - 6 + 5) c) (i : Int) = bt t (i : Int) := fun c i hi => by
      rw [putB_other _ _ _ _ (by rw [putB_size]; omega) (by omega), putB_other _ _ _ _ (by omega) (by omega), ho i hi]
    by_cases hz : bt t ((t.size - 6 + 4 : Nat) : Int) = 48
    · left
      have et : putB t (t.size - 6 + 4) (dig8 0) = t := bytes_ext (putB_size _ _ _) fun i hi => by
        rw [putB_size] at hi
        by_cases e : i = t.size - 6 + 4
        · subst e
          rw [dig8_bt hi (by decide), hz]
          rfl
        · exact putB_other _ _ _ _ hi e
      rw [hp0, et, putB_putB]
      have hg := one_hole (t := t) (by omega) hdg 5 (by decide)
      have hpk : ∃ d, d < 10 ∧ goodB (putB (putB t (t.size - 6 + 5) 63) (t.size - 6 + 5) (dig8 d)) = true := pick_some (by rw [putB_size]; omega) (by rw [putB_size]; omega) (by rw [putB_size]; omega) (putB_same _ _ _ (by omega)) (by unfold goodB; rw [hg]; rfl)
      obtain ⟨hd10, hgd⟩ := pickB_spec hpk
      rw [putB_putB] at hgd
      generalize pickB (putB t (t.size - 6 + 5) 63) (t.size - 6 + 5) = d at *
      have hdd := digits_put (by omega) hdg 5 d (by decide) hd10
      have h9 := good_sum (c := putB t (t.size - 6 + 5) (dig8 d)) (by rw [putB_size]; omega) hdd
      have hs0 : sum0 (tailN (putB t (t.size - 6 + 5) (dig8 d))) 0 = 0 := by
        apply Classical.byContradiction
        intro hne
        rw [if_neg hne] at h9
        unfold goodB at hgd
        rw [h9] at hgd
        exact absurd hgd (by decide)
      have hr := tail_mem_range hf
      have hc := cand_digit hf 5 d (by decide) hd10
      have hvc := candT_valid hf (t := (tailI t).set 5 (d : Int)) (by rw [List.length_set, tailI_length]) (set_range hr 5 (by omega) (by omega))
      rw [hc] at hvc
      have hnew : isNew t (putB t (t.size - 6 + 5) (dig8 d)) = false := ref_none hv _ (List.mem_flatMap.2 ⟨5, List.mem_range.2 (by decide), List.mem_append.2 (.inl (List.mem_map.2 ⟨d, List.mem_range.2 hd10, rfl⟩))⟩)
      have hv6 : ValidP (putB t (t.size - 6 + 5) (dig8 d)) = 0 := by
        have h1 : ValidP (putB t (t.size - 6 + 5) (dig8 d)) = 0 ∨ ValidP (putB t (t.size - 6 + 5) (dig8 d)) = 6 := by
          rw [hvc]; split
          · exact .inl rfl
          · exact .inr rfl
        rcases h1 with h1 | h1
        · exact h1
        · unfold ValidP at h1
          rw [if_pos hs0] at h1
          split at h1 <;> exact absurd h1 (by decide)
      unfold isNew at hnew
      rw [decide_eq_true hv6, Bool.and_true, decide_eq_false_iff_not] at hnew
      rw [Classical.not_not.1 hnew]
    · right
      have h48 := (hdg 4 (by decide)).1
      refine lex_lt (t.size - 6 + 4) (by rw [putB_size, putB_size]; omega) (by omega) (fun i hi => hFo _ i hi) ?_
      rw [hF4]
      omega
theorem two_bytes (t : ByteArray) (h6 : 6 ≤ t.size) : (t.extract 0 (t.size - 2)) ++ (⟨#[63, 63]⟩ : ByteArray) = twoB t := by
  have h1 : (t.extract 0 (t.size - 2)).size = t.size - 2 := by rw [ByteArray.size_extract]; omega
  have h2 : (⟨#[63, 63]⟩ : ByteArray).size = 2 := rfl
  refine bytes_ext (by rw [ByteArray.size_append, h1, h2, twoB_size]; omega) fun i hi => ?_
  rw [ByteArray.size_append, h1, h2] at hi
  unfold twoB
  by_cases e1 : i < t.size - 2
  · rw [putB_other _ _ _ _ (by rw [putB_size]; omega) (by omega), putB_other _ _ _ _ (by omega) (by omega), bt_of (p := i) (by rw [ByteArray.size_append]; omega), ByteArray.getElem_append_left (by omega), bt_of (s := t) (p := i) (by omega)]
    congr 2
    simp [ByteArray.getElem_extract]
  · rw [bt_of (p := i) (by rw [ByteArray.size_append]; omega), ByteArray.getElem_append_right (by omega)]
    by_cases e2 : i = t.size - 6 + 4
    · subst e2
      rw [putB_other _ _ _ _ (by rw [putB_size]; omega) (by omega), putB_same _ _ _ (by omega)]
      have e : t.size - 6 + 4 - (t.extract 0 (t.size - 2)).size = 0 := by omega
      simp only [e]
      rfl
    · have e3 : i = t.size - 6 + 5 := by omega
      subst e3
      rw [putB_same _ _ _ (by rw [putB_size]; omega)]
      have e : t.size - 6 + 5 - (t.extract 0 (t.size - 2)).size = 1 := by omega
      simp only [e]
      rfl
/-! How many rings are near to a text that is none. -/
theorem six_le {α : Type} [DecidableEq α] (f : Nat → α) : ∀ (k : Nat) (l : List α), (∀ i, i < k → f i ∈ l) → (∀ i j, i < j → j < k → f i ≠ f j) → k ≤ l.length
  | 0, _, _, _ => Nat.zero_le _
  | k + 1, l, hm, hne => by
    have h := six_le f k (l.erase (f k)) (fun i hi => (List.mem_erase_of_ne (hne i k hi (by omega))).2 (hm i (by omega))) (fun i j hi hj => hne i j hi (by omega))
    rw [List.length_erase_of_mem (hm k (by omega))] at h
    have h2 := List.length_pos_of_mem (hm k (by omega))
    omega
theorem near_one {s : ByteArray} (hf : (formP s false).2 = true) (hv : ValidP s ≠ 0) (m : Nat) (hm : m < 6) : ∃ d, d < 10 ∧ isNew s (putB s (s.size - 6 + m) (dig8 d)) = true ∧ putB s (s.size - 6 + m) (dig8 d) ∈ refC s (s.size - 6) := by
  obtain ⟨h7, h8, _, hok⟩ := formP_true hf
  have hdg : ∀ m, m < 6 → 48 ≤ bt s ((s.size - 6 + m : Nat) : Int) ∧ bt s ((s.size - 6 + m : Nat) : Int) ≤ 57 := fun m hm => formed_digit h7 hok m hm
  have hg := one_hole (t := s) (by omega) hdg m hm
  obtain ⟨d, hd10, hgd⟩ := pick_some (b := putB s (s.size - 6 + m) 63) (i := s.size - 6 + m) (by rw [putB_size]; omega) (by rw [putB_size]; omega) (by rw [putB_size]; omega) (putB_same _ _ _ (by omega)) (by unfold goodB; rw [hg]; rfl)
  rw [putB_putB] at hgd
  have h9 := good_sum (c := putB s (s.size - 6 + m) (dig8 d)) (by rw [putB_size]; omega) (digits_put (by omega) hdg m d hm hd10)
  have hs0 : sum0 (tailN (putB s (s.size - 6 + m) (dig8 d))) 0 = 0 := by
    apply Classical.byContradiction
    intro hne
    rw [if_neg hne] at h9
    unfold goodB at hgd
    rw [h9] at hgd
    exact absurd hgd (by decide)
  have hc := cand_digit hf m d hm hd10
  have hvc := candT_valid hf (t := (tailI s).set m (d : Int)) (by rw [List.length_set, tailI_length]) (set_range (tail_mem_range hf) m (by omega) (by omega))
  rw [hc] at hvc
  have hv6 : ValidP (putB s (s.size - 6 + m) (dig8 d)) = 0 := by
    have h1 : ValidP (putB s (s.size - 6 + m) (dig8 d)) = 0 ∨ ValidP (putB s (s.size - 6 + m) (dig8 d)) = 6 := by
      rw [hvc]; split
      · exact .inl rfl
      · exact .inr rfl
    rcases h1 with h1 | h1
    · exact h1
    · unfold ValidP at h1
      rw [if_pos hs0] at h1
      split at h1 <;> exact absurd h1 (by decide)
  refine ⟨d, hd10, ?_, List.mem_flatMap.2 ⟨m, List.mem_range.2 hm, List.mem_append.2 (.inl (List.mem_map.2 ⟨d, List.mem_range.2 hd10, rfl⟩))⟩⟩
  unfold isNew
  rw [decide_eq_true hv6, decide_eq_true (show putB s (s.size - 6 + m) (dig8 d) ≠ s from fun e => hv (by rw [← e]; exact hv6))]
  rfl
theorem near_six {s : ByteArray} (hf : (formP s false).2 = true) (hv : ValidP s ≠ 0) : 6 ≤ (goT s [] (refC s (s.size - 6))).length := by
  obtain ⟨h7, h8, _, hok⟩ := formP_true hf
  have hx : ∀ m, ∃ x : ByteArray, m < 6 → (∃ d, d < 10 ∧ x = putB s (s.size - 6 + m) (dig8 d)) ∧ isNew s x = true ∧ x ∈ refC s (s.size - 6) := fun m => by
    by_cases hm : m < 6
    · obtain ⟨d, h1, h2, h3⟩ := near_one hf hv m hm
      exact ⟨_, fun _ => ⟨⟨d, h1, rfl⟩, h2, h3⟩⟩
    · exact ⟨s, fun h => absurd h hm⟩
  refine six_le (fun m => txtB (Classical.choose (hx m))) 6 _ (fun i hi => ?_) fun i j hij hj => ?_
  · obtain ⟨_, h2, h3⟩ := Classical.choose_spec (hx i) hi
    unfold goT
    rw [putAll_mem]
    exact .inr (List.mem_map.2 ⟨_, List.mem_filter.2 ⟨h3, h2⟩, rfl⟩)
  · intro e
    have e := txtB_inj e
    obtain ⟨⟨d, hd, hd2⟩, h2, _⟩ := Classical.choose_spec (hx i) (by omega)
    obtain ⟨⟨c, hc, hc2⟩, _, _⟩ := Classical.choose_spec (hx j) hj
    have hne : Classical.choose (hx i) = s := by
      refine bytes_ext (by rw [hd2, putB_size]) fun q hq => ?_
      rw [hd2, putB_size] at hq
      by_cases h : q = s.size - 6 + i
      · rw [e, hc2]
        exact putB_other _ _ _ _ hq (by omega)
      · rw [hd2]
        exact putB_other _ _ _ _ hq h
    have h3 : isNew s s = false := by unfold isNew; simp
    rw [hne, h3] at h2
    exact absurd h2 (by decide)
theorem near_valid {s : ByteArray} {x : Txt} (h : x ∈ goT s [] (refC s (s.size - 6))) : ValidP (backT x) = 0 := by
  unfold goT at h
  rw [putAll_mem] at h
  rcases h with h | h
  · cases h
  · obtain ⟨b, hb, rfl⟩ := List.mem_map.1 h
    have h1 := (List.mem_filter.1 hb).2
    unfold isNew at h1
    rw [Bool.and_eq_true, decide_eq_true_eq, decide_eq_true_eq] at h1
    rw [back_txt]
    exact h1.2

end Go.Proofs.Ytlbhighbhchdmaa.Pure
