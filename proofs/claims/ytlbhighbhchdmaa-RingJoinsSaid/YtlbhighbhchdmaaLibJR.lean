/- What the law RingJoins needs of blocks, texts and digits. For all lists and texts. -/
import Derived.Test.YtlbhighbhchdmaaQx0
import Derived.Test.YtlbhighbhchdmaaQx2
import Derived.Test.YtlbhighbhchdmaaQx9
import Derived.Test.YtlbhighbhchdmaaQx10
import Derived.Test.YtlbhighbhchdmaaQx12
import Derived.Test.YtlbhighbhchdmaaQx15
import Derived.Test.YtlbhighbhchdmaaQx17
import Derived.Test.YtlbhighbhchdmaaQx18
import Derived.Test.YtlbhighbhchdmaaQx19
import Derived.Test.YtlbhighbhchdmaaJoinD
namespace Go.Proofs.Ytlbhighbhchdmaa.Pure
open Go.RowKit Go.Proofs.Ytlbhighbhchdmaa.Q Go.Proofs.YtlbhighbhchdmaaW.PrintWords Go.Proofs.YtlbhighbhchdmaaW.PrintLast
theorem Ev.ifp {α : Type} {c : Prop} [Decidable c] {f g : Nat → Option α} {r : α} (h : c) (k : Ev f r) : Ev (fun n => if c then f n else g n) r := by
  obtain ⟨K, k⟩ := k
  exact ⟨K, fun n hn => by show (if c then f n else g n) = some r; rw [if_pos h]; exact k n hn⟩
theorem Ev.ifn {α : Type} {c : Prop} [Decidable c] {f g : Nat → Option α} {r : α} (h : ¬ c) (k : Ev g r) : Ev (fun n => if c then f n else g n) r := by
  obtain ⟨K, k⟩ := k
  exact ⟨K, fun n hn => by show (if c then f n else g n) = some r; rw [if_neg h]; exact k n hn⟩
theorem Ev.some_bind {α β : Type} {f : Nat → α → Option β} {a : α} {r : β} (k : Ev (fun n => f n a) r) : Ev (fun n => (some a).bind (f n)) r := k
theorem Ev.bindc {α β : Type} {g : Option α} {f : Nat → α → Option β} {a : α} {r : β} (h : g = some a) (k : Ev (fun n => f n a) r) : Ev (fun n => g.bind (f n)) r := by
  subst h
  exact k
theorem Ev.val {α : Type} {a r : α} (h : a = r) : Ev (fun _ => some a) r := by
  subst h
  exact Ev.now _
def tm (x y : Nat) : Nat := if x < 5 then (if y < 5 then (x + y) % 5 else 5 + (x + y) % 5) else (if y < 5 then 5 + (x + 5 - y) % 5 else (x + 5 - y) % 5)
def tn1 (x : Nat) : Nat := [1, 5, 7, 6, 2, 8, 3, 0, 9, 4].getD x 0
def tn : Nat → Nat → Nat
  | x, 0 => x
  | x, n + 1 => tn (tn1 x) n
theorem tm_lt {x y : Nat} (hx : x < 10) (hy : y < 10) : tm x y < 10 := (by decide +kernel : ∀ x y : Fin 10, tm x.val y.val < 10) ⟨x, hx⟩ ⟨y, hy⟩
theorem tn1_lt (x : Nat) : tn1 x < 10 := by
  by_cases hx : x < 10
  · exact (by decide +kernel : ∀ x : Fin 10, tn1 x.val < 10) ⟨x, hx⟩
  · unfold tn1
    rw [List.getD_eq_getElem?_getD, List.getElem?_eq_none (by simp; omega)]
    decide
theorem tn_lt {x : Nat} (hx : x < 10) (n : Nat) : tn x n < 10 := by
  induction n generalizing x with
  | zero => exact hx
  | succ n ih => exact ih (tn1_lt x)
def sumN (l : List Nat) (b : Nat) : Nat → Nat → Nat
  | c, 0 => c
  | c, n + 1 => sumN l b (tm c (tn (l.getD n 0) (l.length - 1 - n + b))) n
def Digs (l : List Nat) : Prop := ∀ n, l.getD n 0 < 10
theorem Digs.of {l : List Nat} (h : ∀ x ∈ l, x < 10) : Digs l := by
  intro n
  rw [List.getD_eq_getElem?_getD]
  rcases Nat.lt_or_ge n l.length with hn | hn
  · rw [List.getElem?_eq_getElem hn]; exact h _ (List.getElem_mem hn)
  · rw [List.getElem?_eq_none hn]; decide
def sum0 (l : List Nat) (b : Nat) : Nat := sumN l b 0 l.length
theorem w64 {n : Int} (h0 : -9223372036854775808 ≤ n) (h1 : n < 9223372036854775808) : wrap64 n = n := by
  unfold wrap64
  omega
theorem rd_map (l : List Nat) (i : Nat) : rd (l.map (fun n : Nat => (n : Int))) (i : Int) = ((l.getD i 0 : Nat) : Int) := by
  unfold rd
  rw [Int.toNat_natCast, List.getD_eq_getElem?_getD, List.getD_eq_getElem?_getD, List.getElem?_map]
  cases l[i]? <;> rfl
theorem digs_of (l : List Int) (h : ∀ x ∈ l, 0 ≤ x ∧ x ≤ 9) : ∃ m : List Nat, l = m.map (fun n : Nat => (n : Int)) ∧ Digs m := by
  refine ⟨l.map Int.toNat, ?_, ?_⟩
  · rw [List.map_map]
    conv => lhs; rw [← List.map_id l]
    apply List.map_congr_left
    intro x hx
    have := (h x hx).1
    simp; omega
  · refine Digs.of fun y hy => ?_
    obtain ⟨x, hx, rfl⟩ := List.mem_map.1 hy
    have := h x hx
    omega
theorem times_one : ∀ x y : Fin 10, ring_times.f 1 (x.val : Int) (y.val : Int) = some ((tm x.val y.val : Nat) : Int) := by decide +kernel
theorem times_ev {x y : Nat} (hx : x < 10) (hy : y < 10) : Ev (fun k => ring_times.f k (x : Int) (y : Int)) ((tm x y : Nat) : Int) :=
  Ev.of (fun k => ring_times.mono _ _ k) (times_one ⟨x, hx⟩ ⟨y, hy⟩)
theorem turn_all : ∀ x : Fin 10, ring_turn.f (x.val : Int) = some ((tn1 x.val : Nat) : Int) := by decide +kernel
theorem turn_eq {x : Nat} (hx : x < 10) : ring_turn.f (x : Int) = some ((tn1 x : Nat) : Int) := turn_all ⟨x, hx⟩
theorem turned_loop (d : Nat) : ∀ (x : Nat) (n i : Int), x < 10 → 0 ≤ i → i + d = n → n ≤ 1000000 → Ev (fun k => ring_turned.l0 k (x : Int) n i) ((tn x d : Nat) : Int) := by
  induction d with
  | zero =>
    intro x n i hx hi hd hn
    refine Ev.step (fun k => by rw [ring_turned.l0]) ?_
    exact Ev.ifn (by omega) (Ev.now _)
  | succ d ih =>
    intro x n i hx hi hd hn
    refine Ev.step (fun k => by rw [ring_turned.l0]) ?_
    refine Ev.ifp (by omega) (Ev.bindc (turn_eq hx) ?_)
    rw [w64 (by omega) (by omega)]
    exact ih (tn1 x) n (i + 1) (tn1_lt x) (by omega) (by omega) hn
theorem turned_ev {x : Nat} (hx : x < 10) (n : Nat) (hn : n ≤ 1000000) : Ev (fun k => ring_turned.f k (x : Int) (n : Int)) ((tn x n : Nat) : Int) :=
  turned_loop n x n 0 hx (by omega) (by omega) (by omega)
theorem sum_loop (l : List Nat) (hl : Digs l) (hlen : l.length ≤ 1000) (b : Nat) (hb : b ≤ 1000) (n : Nat) : ∀ (c : Nat), c < 10 → n ≤ l.length →
    Ev (fun k => ring_sum.l0 k (l.map (fun n : Nat => (n : Int))) (b : Int) (c : Int) ((n : Int) - 1)) ((sumN l b c n : Nat) : Int) := by
  induction n with
  | zero =>
    intro c hc hn
    refine Ev.step (fun k => by rw [ring_sum.l0]) ?_
    exact Ev.ifn (by omega) (Ev.now _)
  | succ n ih =>
    intro c hc hn
    refine Ev.step (fun k => by rw [ring_sum.l0]) ?_
    refine Ev.ifp (by omega) (Ev.ifp (by omega) (Ev.ifp (by rw [List.length_map]; omega) ?_))
    have e1 : ((n + 1 : Nat) : Int) - 1 = (n : Int) := by omega
    rw [e1, List.length_map, w64 (n := (l.length : Int) - 1) (by omega) (by omega), w64 (n := (l.length : Int) - 1 - n) (by omega) (by omega), w64 (n := (l.length : Int) - 1 - n + b) (by omega) (by omega), w64 (n := (n : Int) - 1) (by omega) (by omega), rd_map]
    have e2 : (l.length : Int) - 1 - n + b = ((l.length - 1 - n + b : Nat) : Int) := by omega
    rw [e2]
    refine Ev.bind (turned_ev (hl n) _ (by omega)) (Ev.bind (times_ev hc (tn_lt (hl n) _)) ?_)
    exact ih _ (tm_lt hc (tn_lt (hl n) _)) (by omega)
theorem sum_ev (l : List Nat) (hl : Digs l) (hlen : l.length ≤ 1000) (b : Nat) (hb : b ≤ 1000) :
    Ev (fun k => ring_sum.f k (l.map (fun n : Nat => (n : Int))) (b : Int)) ((sum0 l b : Nat) : Int) := by
  have h := sum_loop l hl hlen b hb l.length 0 (by decide) (Nat.le_refl _)
  unfold ring_sum.f
  rw [List.length_map, w64 (by omega) (by omega)]
  exact h
theorem map_toNat (m : List Nat) : (m.map (fun n : Nat => (n : Int))).map Int.toNat = m := by
  rw [List.map_map]
  conv => rhs; rw [← List.map_id m]
  exact List.map_congr_left fun x _ => by simp
theorem known_ev : Ev (fun k => wigeonlaw01_known.f k) true := Ev.of (fun k => wigeonlaw01_known.mono k) (k := 20) (by decide +kernel)
theorem known_bind : Ev (fun k => (wigeonlaw01_known.f k).bind fun t => some t) true := Ev.bind known_ev (Ev.now _)
theorem formP_true {s : ByteArray} {worn : Bool} (h : (formP s worn).2 = true) : 7 ≤ s.size ∧ s.size ≤ 8 ∧ (formP s worn) = ((s.size : Int) - 6, true) ∧ ∀ i, i < s.size → okb worn (s.size - 6) i (bt s i) = true := by
  unfold formP at h ⊢
  by_cases h1 : s.size < 7 ∨ s.size > 8
  · rw [if_pos h1] at h; exact absurd h (by decide)
  · rw [if_neg h1] at h ⊢
    by_cases h2 : ((List.range s.size).all fun i => okb worn (s.size - 6) i (bt s i)) = true
    · rw [if_pos h2]
      refine ⟨by omega, by omega, rfl, fun i hi => ?_⟩
      rw [List.all_eq_true] at h2
      exact h2 i (List.mem_range.2 hi)
    · rw [if_neg h2] at h; exact absurd h (by decide)
theorem formP_false {s : ByteArray} {worn : Bool} (h : (formP s worn).2 = false) : formP s worn = (0, false) ∧ (s.size < 7 ∨ 8 < s.size ∨ ∃ i, i < s.size ∧ okb worn (s.size - 6) i (bt s i) = false) := by
  unfold formP at h ⊢
  by_cases h1 : s.size < 7 ∨ s.size > 8
  · rw [if_pos h1]
    exact ⟨rfl, by omega⟩
  · rw [if_neg h1] at h ⊢
    by_cases h2 : ((List.range s.size).all fun i => okb worn (s.size - 6) i (bt s i)) = true
    · rw [if_pos h2] at h; exact absurd h (by simp)
    · rw [if_neg h2]
      refine ⟨rfl, .inr (.inr ?_)⟩
      rw [Bool.not_eq_true, List.all_eq_false] at h2
      obtain ⟨i, hi, hn⟩ := h2
      exact ⟨i, List.mem_range.1 hi, by simpa using hn⟩
theorem form_eq {s : ByteArray} (h : s.size ≤ 9223372036854775807) : ring_form.f s ⟨#[]⟩ = some (formP s false) := by
  unfold ring_form.f
  rw [if_pos h, if_pos rfl]
theorem formed_step (s : ByteArray) (worn : Bool) (h7 : 7 ≤ s.size) (h8 : s.size ≤ 8) (i : Nat) (hi : i < s.size) (r : Bool)
    (hy : okb worn (s.size - 6) i (bt s i) = true → Ev (fun k => wigeonref01_formed.l0 k s worn ((i + 1 : Nat) : Int)) r) (hn : okb worn (s.size - 6) i (bt s i) = false → r = false) :
    Ev (fun k => wigeonref01_formed.l0 k s worn (i : Int)) r := by
  have ew : wrap64 ((s.size : Int) - 6) = ((s.size - 6 : Nat) : Int) := by rw [w64 (by omega) (by omega)]; omega
  have e1 : wrap64 ((i : Int) + 1) = ((i + 1 : Nat) : Int) := by rw [w64 (by omega) (by omega)]; omega
  have hj : ∀ b : Bool, b = (worn && bt s i == 63) → Ev (fun k => wigeonref01_formed.j2 k s worn (i : Int) b) r := by
    intro b hb
    refine Ev.step (fun k => by rw [wigeonref01_formed.j2]) ?_
    rw [ew, e1]
    by_cases hl : (i : Int) < ((s.size - 6 : Nat) : Int)
    · refine Ev.ifp hl ?_
      cases b with
      | true => exact Ev.ifp rfl (hy (by unfold okb; rw [← hb]; simp))
      | false =>
        refine Ev.ifn (by decide) (Ev.ifp (by omega) (Ev.ifp (by omega) ?_))
        have e : okb worn (s.size - 6) i (bt s i) = decide (65 ≤ bt s i ∧ bt s i ≤ 90) := by
          unfold okb
          rw [← hb, if_neg (by omega), Bool.or_false]
        by_cases h65 : bt s i ≥ 65
        · refine Ev.ifp h65 ?_
          by_cases h90 : bt s i ≤ 90
          · exact Ev.ifp h90 (hy (by rw [e]; exact decide_eq_true ⟨h65, h90⟩))
          · exact Ev.ifn h90 (Ev.val (hn (by rw [e]; exact decide_eq_false (fun h => h90 h.2))).symm)
        · exact Ev.ifn h65 (Ev.val (hn (by rw [e]; exact decide_eq_false (fun h => h65 h.1))).symm)
    · refine Ev.ifn hl ?_
      cases b with
      | true => exact Ev.ifp rfl (hy (by unfold okb; rw [← hb]; simp))
      | false =>
        refine Ev.ifn (by decide) (Ev.ifp (by omega) (Ev.ifp (by omega) ?_))
        have e : okb worn (s.size - 6) i (bt s i) = decide (48 ≤ bt s i ∧ bt s i ≤ 57) := by
          unfold okb
          rw [← hb, if_pos (by omega), Bool.or_false]
        by_cases h65 : bt s i ≥ 48
        · refine Ev.ifp h65 ?_
          by_cases h90 : bt s i ≤ 57
          · exact Ev.ifp h90 (hy (by rw [e]; exact decide_eq_true ⟨h65, h90⟩))
          · exact Ev.ifn h90 (Ev.val (hn (by rw [e]; exact decide_eq_false (fun h => h90 h.2))).symm)
        · exact Ev.ifn h65 (Ev.val (hn (by rw [e]; exact decide_eq_false (fun h => h65 h.1))).symm)
  refine Ev.step (fun k => by rw [wigeonref01_formed.l0]) (Ev.ifp (by omega) ?_)
  cases worn with
  | true => exact Ev.ifp rfl (Ev.ifp (by omega) (hj _ (by simp)))
  | false => exact Ev.ifn (by decide) (hj _ (by simp))
theorem formed_end (s : ByteArray) (worn : Bool) : Ev (fun k => wigeonref01_formed.l0 k s worn (s.size : Int)) true := by
  refine Ev.step (fun k => by rw [wigeonref01_formed.l0]) (Ev.ifn (by omega) (Ev.now _))
theorem formed_good (s : ByteArray) (worn : Bool) (h7 : 7 ≤ s.size) (h8 : s.size ≤ 8) (h : ∀ i, i < s.size → okb worn (s.size - 6) i (bt s i) = true) (d : Nat) : ∀ i, i + d = s.size → Ev (fun k => wigeonref01_formed.l0 k s worn (i : Int)) true := by
  induction d with
  | zero => intro i hi; obtain rfl : i = s.size := by omega
            exact formed_end s worn
  | succ d ih => intro i hi; exact formed_step s worn h7 h8 i (by omega) true (fun _ => ih (i + 1) (by omega)) (fun hf => by rw [h i (by omega)] at hf; exact absurd hf (by decide))
theorem formed_bad (s : ByteArray) (worn : Bool) (h7 : 7 ≤ s.size) (h8 : s.size ≤ 8) (j : Nat) (hj : j < s.size) (h : okb worn (s.size - 6) j (bt s j) = false) (d : Nat) : ∀ i, i + d = s.size → i ≤ j → Ev (fun k => wigeonref01_formed.l0 k s worn (i : Int)) false := by
  induction d with
  | zero => intro i hi hij; omega
  | succ d ih =>
    intro i hi hij
    refine formed_step s worn h7 h8 i (by omega) false (fun ht => ih (i + 1) (by omega) ?_) (fun _ => rfl)
    by_cases e : i = j
    · rw [e, h] at ht; exact absurd ht (by decide)
    · omega
theorem formed_ev (s : ByteArray) (worn : Bool) : Ev (fun k => wigeonref01_formed.f k s worn) (formP s worn).2 := by
  have hj : ∀ b : Bool, b = decide (s.size < 7 ∨ 8 < s.size) → Ev (fun k => wigeonref01_formed.j0 k s worn b) (formP s worn).2 := by
    intro b hb
    refine Ev.step (fun k => by rw [wigeonref01_formed.j0]) ?_
    cases b with
    | true =>
      refine Ev.ifp rfl (Ev.val ?_)
      unfold formP
      rw [if_pos (of_decide_eq_true hb.symm)]
    | false =>
      have hsz := of_decide_eq_false hb.symm
      refine Ev.ifn (by decide) ?_
      cases hf : (formP s worn).2 with
      | true =>
        obtain ⟨h7, h8, _, h⟩ := formP_true hf
        exact formed_good s worn h7 h8 h s.size 0 (by omega)
      | false =>
        obtain ⟨_, h⟩ := formP_false hf
        rcases h with h | h | ⟨j, hj, h⟩
        · omega
        · omega
        · exact formed_bad s worn (by omega) (by omega) j hj h s.size 0 (by omega) (by omega)
  unfold wigeonref01_formed.f
  by_cases h : (s.size : Int) = 7
  · exact Ev.ifp h (hj _ (by simp; omega))
  · refine Ev.ifn h (hj _ ?_)
    rw [Bool.eq_iff_iff]
    simp only [bne_iff_ne, decide_eq_true_eq]
    omega
def tailI (s : ByteArray) : List Int := (List.range 6).map (fun i : Nat => bt s ((s.size - 6 + i : Nat) : Int) - 48)
def tailN (s : ByteArray) : List Nat := (tailI s).map Int.toNat
theorem formed_digit {s : ByteArray} (h7 : 7 ≤ s.size) (h : ∀ i, i < s.size → okb false (s.size - 6) i (bt s i) = true) (i : Nat) (hi : i < 6) : 48 ≤ bt s ((s.size - 6 + i : Nat) : Int) ∧ bt s ((s.size - 6 + i : Nat) : Int) ≤ 57 := by
  have := h (s.size - 6 + i) (by omega)
  unfold okb at this
  rw [if_pos (by omega)] at this
  simpa using this
theorem formed_letter {s : ByteArray} (h7 : 7 ≤ s.size) (h : ∀ i, i < s.size → okb false (s.size - 6) i (bt s i) = true) (i : Nat) (hi : i < s.size - 6) : 65 ≤ bt s (i : Int) ∧ bt s (i : Int) ≤ 90 := by
  have := h i (by omega)
  unfold okb at this
  rw [if_neg (by omega)] at this
  simpa using this
theorem tailI_range {s : ByteArray} (h7 : 7 ≤ s.size) (h : ∀ i, i < s.size → okb false (s.size - 6) i (bt s i) = true) : ∀ x ∈ tailI s, 0 ≤ x ∧ x ≤ 9 := by
  intro x hx
  obtain ⟨i, hi, rfl⟩ := List.mem_map.1 hx
  have := formed_digit h7 h i (List.mem_range.1 hi)
  omega
theorem tailI_length (s : ByteArray) : (tailI s).length = 6 := by simp [tailI]
theorem tailN_length (s : ByteArray) : (tailN s).length = 6 := by simp [tailN, tailI]
theorem tail_cast {s : ByteArray} (h7 : 7 ≤ s.size) (h : ∀ i, i < s.size → okb false (s.size - 6) i (bt s i) = true) : tailI s = (tailN s).map (fun n : Nat => (n : Int)) ∧ Digs (tailN s) := by
  obtain ⟨m, e, hm⟩ := digs_of (tailI s) (tailI_range h7 h)
  have e2 : tailN s = m := by unfold tailN; rw [e, map_toNat]
  rw [e2]
  exact ⟨e, hm⟩
theorem ascii_of {s : ByteArray} (h7 : 7 ≤ s.size) (h : ∀ i, i < s.size → okb false (s.size - 6) i (bt s i) = true) : asciiB s = true := by
  unfold asciiB
  rw [List.all_eq_true]
  intro i hi
  have hi' := List.mem_range.1 hi
  refine decide_eq_true ?_
  by_cases hl : i < s.size - 6
  · have := formed_letter h7 h i hl; omega
  · have := formed_digit h7 h (i - (s.size - 6)) (by omega)
    rw [show s.size - 6 + (i - (s.size - 6)) = i by omega] at this
    omega
theorem bt_extract (s : ByteArray) (n i : Nat) (h : n + i < s.size) : bt (s.extract n s.size) (i : Int) = bt s ((n + i : Nat) : Int) := by
  have h1 : i < (s.extract n s.size).size := by simp; omega
  rw [bt_of h1, bt_of h]
  congr 2
  simp [ByteArray.getElem_extract]
theorem digits_eq {s : ByteArray} (h7 : 7 ≤ s.size) (h8 : s.size ≤ 8) (h : ∀ i, i < s.size → okb false (s.size - 6) i (bt s i) = true) : ring_digits.f s ((s.size : Int) - 6) = some (tailI s) := by
  unfold ring_digits.f
  rw [if_pos ⟨ascii_of h7 h, by omega, by omega, by omega⟩]
  congr 1
  have e : ((s.size : Int) - 6).toNat = s.size - 6 := by omega
  rw [e]
  unfold digsTo tailI
  rw [show s.size - (s.size - 6) = 6 by omega]
  apply List.map_congr_left
  intro i hi
  rw [bt_extract s _ _ (by have := List.mem_range.1 hi; omega)]
def ValidP (s : ByteArray) : Int := if (formP s false).2 = true then (if sum0 (tailN s) 0 = 0 then 0 else 6) else 2
theorem Valid_ev (s : ByteArray) (hs : s.size ≤ 140737488351232) : Ev (fun k => ring_Valid.f k s) (ValidP s) := by
  unfold ring_Valid.f ValidP
  refine Ev.bindc (form_eq (by omega)) ?_
  by_cases hf : (formP s false).2 = true
  · simp only [if_pos hf]
    obtain ⟨h7, h8, e, h⟩ := formP_true hf
    obtain ⟨et, hd⟩ := tail_cast h7 h
    rw [e]
    refine Ev.bindc (digits_eq h7 h8 h) ?_
    rw [et]
    refine Ev.bind (sum_ev _ hd (by rw [tailN_length]; omega) 0 (by omega)) ?_
    by_cases h0 : sum0 (tailN s) 0 = 0
    · rw [if_pos h0]
      exact Ev.ifp (by rw [h0]; rfl) (Ev.now _)
    · rw [if_neg h0]
      exact Ev.ifn (by omega) (Ev.now _)
  · simp only [if_neg hf]
    exact Ev.now _
theorem ValidP_ok {s : ByteArray} (h : ValidP s = 0) : (formP s false).2 = true ∧ sum0 (tailN s) 0 = 0 := by
  unfold ValidP at h
  by_cases h1 : (formP s false).2 = true
  · rw [if_pos h1] at h
    by_cases h2 : sum0 (tailN s) 0 = 0
    · exact ⟨h1, h2⟩
    · rw [if_neg h2] at h
      exact absurd h (by decide)
  · rw [if_neg h1] at h
    exact absurd h (by decide)
def numTo (l : List Int) : Nat → Int
  | 0 => 0
  | j + 1 => 10 * numTo l j + rd l (j : Int)
def numP (s : ByteArray) : Int := numTo (tailI s) 5
theorem numTo_range (l : List Int) (h : ∀ j : Nat, 0 ≤ rd l (j : Int) ∧ rd l (j : Int) ≤ 9) (j : Nat) : 0 ≤ numTo l j ∧ numTo l j < 10 ^ j := by
  induction j with
  | zero => exact ⟨Int.le_refl 0, by show (0 : Int) < 1; decide⟩
  | succ j ih =>
    have := h j
    unfold numTo
    rw [Int.pow_succ]
    omega
theorem rd_out (l : List Int) (h : ∀ x ∈ l, 0 ≤ x ∧ x ≤ 9) (j : Nat) : 0 ≤ rd l (j : Int) ∧ rd l (j : Int) ≤ 9 := by
  unfold rd
  rw [Int.toNat_natCast, List.getD_eq_getElem?_getD]
  rcases Nat.lt_or_ge j l.length with hj | hj
  · rw [List.getElem?_eq_getElem hj]; exact h _ (List.getElem_mem hj)
  · rw [List.getElem?_eq_none hj]; decide
theorem numTo_lt (l : List Int) (h : ∀ x ∈ l, 0 ≤ x ∧ x ≤ 9) (j : Nat) (hj : j ≤ 5) : 0 ≤ numTo l j ∧ numTo l j ≤ 99999 := by
  have h1 := numTo_range l (rd_out l h) j
  have h2 : (10 : Int) ^ j ≤ 100000 := by
    have : j = 0 ∨ j = 1 ∨ j = 2 ∨ j = 3 ∨ j = 4 ∨ j = 5 := by omega
    rcases this with rfl | rfl | rfl | rfl | rfl | rfl <;> decide
  omega
theorem rd_take (l : List Int) (j n : Nat) (h : j < n) : rd (l.take n) (j : Int) = rd l (j : Int) := by
  unfold rd
  rw [Int.toNat_natCast, List.getD_eq_getElem?_getD, List.getD_eq_getElem?_getD, List.getElem?_take, if_pos h]
theorem split_loop (s : ByteArray) (l : List Int) (h : ∀ x ∈ l, 0 ≤ x ∧ x ≤ 9) (hl : l.length = 6) (h7 : 7 ≤ s.size) (h8 : s.size ≤ 8) (d : Nat) : ∀ j : Nat, j + d = 5 →
    Ev (fun k => ring_Split.l0 k s ((s.size : Int) - 6) (numTo l j) (l.take 5) ((l.take 5).length : Int) (j : Int)) (s.extract 0 (s.size - 6), numTo l 5, 0) := by
  have h5 : (l.take 5).length = 5 := by rw [List.length_take]; omega
  induction d with
  | zero =>
    intro j hj
    obtain rfl : j = 5 := by omega
    refine Ev.step (fun k => by rw [ring_Split.l0]) (Ev.ifn (by omega) (Ev.ifp (by omega) (Ev.ifp (by omega) (Ev.val ?_))))
    rw [show ((s.size : Int) - 6).toNat = s.size - 6 by omega]
  | succ d ih =>
    intro j hj
    refine Ev.step (fun k => by rw [ring_Split.l0]) (Ev.ifp (by omega) (Ev.ifp (by omega) (Ev.ifp (by omega) ?_)))
    have h1 := numTo_lt l h j (by omega)
    have h2 := rd_out l h j
    rw [rd_take l j 5 (by omega), w64 (n := 10 * numTo l j) (by omega) (by omega), w64 (n := 10 * numTo l j + rd l (j : Int)) (by omega) (by omega), w64 (by omega) (by omega)]
    exact ih (j + 1) (by omega)
def SplitP (s : ByteArray) : ByteArray × Int × Int := if ValidP s = 0 then (s.extract 0 (s.size - 6), numP s, 0) else (⟨#[]⟩, 0, ValidP s)
theorem Split_ev (s : ByteArray) (hs : s.size ≤ 140737488351232) : Ev (fun k => ring_Split.f k s) (SplitP s) := by
  unfold ring_Split.f SplitP
  refine Ev.bind (Valid_ev s hs) ?_
  by_cases hv : ValidP s = 0
  · simp only [if_pos hv]
    obtain ⟨hf, _⟩ := ValidP_ok hv
    obtain ⟨h7, h8, e, h⟩ := formP_true hf
    rw [w64 (by omega) (by omega)]
    refine Ev.bindc (digits_eq h7 h8 h) (Ev.ifp (by rw [tailI_length]; decide) (Ev.some_bind ?_))
    exact split_loop s (tailI s) (tailI_range h7 h) (tailI_length s) h7 h8 5 0 (by omega)
  · simp only [if_neg hv]
    exact Ev.now _
theorem join_size (s : ByteArray) (l : List UInt8) : (⟨s.data ++ l.toArray⟩ : ByteArray).size = s.size + l.length := by
  show (s.data ++ l.toArray).size = _
  rw [Array.size_append]
  rfl
theorem join_left (s : ByteArray) (l : List UInt8) (i : Nat) (h : i < s.size) : bt (⟨s.data ++ l.toArray⟩ : ByteArray) (i : Int) = bt s (i : Int) := by
  rw [bt_of (by rw [join_size]; omega), bt_of h]
  congr 2
  show (s.data ++ l.toArray)[i]'_ = s.data[i]'_
  rw [Array.getElem_append_left]
theorem join_right (s : ByteArray) (l : List UInt8) (i : Nat) (h : i < l.length) : bt (⟨s.data ++ l.toArray⟩ : ByteArray) ((s.size + i : Nat) : Int) = ((l[i].toNat : Nat) : Int) := by
  rw [bt_of (by rw [join_size]; omega)]
  congr 2
  show (s.data ++ l.toArray)[s.size + i]'_ = _
  have h1 : s.data.size ≤ s.size + i := Nat.le_add_right _ _
  rw [Array.getElem_append_right h1]
  simp only [List.getElem_toArray]
  congr 1
  show s.size + i - s.size = i
  omega
def serP (s : ByteArray) : Bool := (decide (s.size = 1) || decide (s.size = 2)) && (List.range s.size).all (fun i => decide (65 ≤ bt s (i : Int) ∧ bt s (i : Int) ≤ 90))
theorem serP_true {s : ByteArray} (h : serP s = true) : (s.size = 1 ∨ s.size = 2) ∧ ∀ i, i < s.size → 65 ≤ bt s (i : Int) ∧ bt s (i : Int) ≤ 90 := by
  unfold serP at h
  rw [Bool.and_eq_true, Bool.or_eq_true, decide_eq_true_eq, decide_eq_true_eq, List.all_eq_true] at h
  exact ⟨h.1, fun i hi => of_decide_eq_true (h.2 i (List.mem_range.2 hi))⟩
def zeros6 : ByteArray := ⟨#[48, 48, 48, 48, 48, 48]⟩
theorem ser_join (s : ByteArray) : s ++ zeros6 = ⟨s.data ++ ([48, 48, 48, 48, 48, 48] : List UInt8).toArray⟩ := by
  apply ByteArray.ext
  rw [ByteArray.data_append]
  rfl
theorem form_join (s : ByteArray) (l : List UInt8) (hl : l.length = 6) (hd : ∀ x ∈ l, 48 ≤ x.toNat ∧ x.toNat ≤ 57) : formP ⟨s.data ++ l.toArray⟩ false = if serP s = true then ((s.size : Int), true) else (0, false) := by
  have hsz := join_size s l
  by_cases hs : serP s = true
  · rw [if_pos hs]
    obtain ⟨h12, hb⟩ := serP_true hs
    rw [formP_good (by omega) (by omega) (fun i hi => ?_)]
    · rw [hsz, hl]
      congr 1
      omega
    · unfold okb
      by_cases hi6 : i ≥ (⟨s.data ++ l.toArray⟩ : ByteArray).size - 6
      · rw [if_pos hi6]
        have e : ((i : Nat) : Int) = ((s.size + (i - s.size) : Nat) : Int) := by omega
        rw [e, join_right s l _ (by omega)]
        have := hd _ (List.getElem_mem (show i - s.size < l.length by omega))
        simp only [Bool.or_eq_true, decide_eq_true_eq]
        omega
      · rw [if_neg hi6, join_left s l i (by omega)]
        have := hb i (by omega)
        simp only [Bool.or_eq_true, decide_eq_true_eq]
        omega
  · rw [if_neg hs]
    by_cases h12 : s.size = 1 ∨ s.size = 2
    · have : ∃ i, i < s.size ∧ ¬ (65 ≤ bt s (i : Int) ∧ bt s (i : Int) ≤ 90) := by
        unfold serP at hs
        rw [Bool.and_eq_true, Bool.or_eq_true, decide_eq_true_eq, decide_eq_true_eq] at hs
        have h3 : ((List.range s.size).all fun i => decide (65 ≤ bt s (i : Int) ∧ bt s (i : Int) ≤ 90)) = false := by
          cases hq : ((List.range s.size).all fun i => decide (65 ≤ bt s (i : Int) ∧ bt s (i : Int) ≤ 90)) with
          | false => rfl
          | true => exact absurd ⟨h12, hq⟩ hs
        rw [List.all_eq_false] at h3
        obtain ⟨i, hi, hn⟩ := h3
        exact ⟨i, List.mem_range.1 hi, fun h => hn (decide_eq_true h)⟩
      obtain ⟨i, hi, hn⟩ := this
      refine formP_bad i (by omega) ?_
      unfold okb
      rw [if_neg (by omega), join_left s l i hi]
      simp only [Bool.or_eq_false_iff, decide_eq_false_iff_not]
      exact ⟨hn, by simp⟩
    · unfold formP
      rw [if_pos (by omega)]
theorem zeros_join (s : ByteArray) : formP (s ++ zeros6) false = if serP s = true then ((s.size : Int), true) else (0, false) := by
  rw [ser_join]
  exact form_join s _ rfl (by decide)
theorem series_eq (s : ByteArray) (hs : s.size ≤ 140737488351232) : ring_series.f s = some (serP s) := by
  unfold ring_series.f
  have hz : (s ++ (⟨#[48, 48, 48, 48, 48, 48]⟩ : ByteArray)).size ≤ 9223372036854775807 := by
    have e : (s ++ (⟨#[48, 48, 48, 48, 48, 48]⟩ : ByteArray)) = s ++ zeros6 := rfl
    rw [e, ser_join, join_size]
    simp
    omega
  rw [if_pos (by omega), form_eq hz]
  simp only [Option.bind_some]
  have e : (s ++ (⟨#[48, 48, 48, 48, 48, 48]⟩ : ByteArray)) = s ++ zeros6 := rfl
  rw [e, zeros_join]
  cases h : serP s with
  | true => simp
  | false => simp
theorem isSeries_ev (s : ByteArray) : Ev (fun k => wigeonref01_isSeries.f k s) (serP s) := by
  unfold wigeonref01_isSeries.f
  have hf : Ev (fun k => wigeonref01_formed.f k (s ++ (⟨#[48, 48, 48, 48, 48, 48]⟩ : ByteArray)) false) (serP s) := by
    have h := formed_ev (s ++ zeros6) false
    rw [zeros_join] at h
    have e : (if serP s = true then ((s.size : Int), true) else (0, false)).2 = serP s := by cases serP s <;> rfl
    rw [e] at h
    exact h
  by_cases h1 : (s.size : Int) = 1
  · exact Ev.ifp h1 (Ev.ifp (by omega) (Ev.bind hf (Ev.now _)))
  · refine Ev.ifn h1 ?_
    by_cases h2 : (s.size : Int) = 2
    · exact Ev.ifp h2 (Ev.ifp (by omega) (Ev.bind hf (Ev.now _)))
    · refine Ev.ifn h2 (Ev.val ?_)
      cases h : serP s with
      | false => rfl
      | true =>
        have := (serP_true h).1
        omega
def g79 (x : S79) : Prop := x.f0.size ≤ 140737488351232 ∧ (Lit.int .i64 x.f1).wf = true ∧ (Lit.int .i64 x.f2).wf = true
def el (l : List S79) (i : Nat) : S79 := rd_T79 l (i : Int)
theorem el_take (l : List S79) (n j : Nat) (h : j < n) : el (l.take n) j = el l j := by
  unfold el rd_T79
  rw [Int.toNat_natCast, List.getD_eq_getElem?_getD, List.getD_eq_getElem?_getD, List.getElem?_take, if_pos h]
theorem el_good {l : List S79} (h : ∀ y ∈ l, g79 y) (i : Nat) (hi : i < l.length) : g79 (el l i) := by
  unfold el rd_T79
  rw [Int.toNat_natCast, List.getD_eq_getElem?_getD, List.getElem?_eq_getElem hi]
  exact h _ (List.getElem_mem hi)
def badB (x : S79) : Int := if serP x.f0 = true then (if x.f1 < 0 then 1 else if x.f2 < x.f1 then 1 else if x.f2 > 99999 then 1 else 0) else 2
theorem badB_ok {x : S79} (h : badB x = 0) : 0 ≤ x.f1 ∧ x.f1 ≤ x.f2 ∧ x.f2 ≤ 99999 ∧ serP x.f0 = true := by
  unfold badB at h
  by_cases h1 : serP x.f0 = true
  · rw [if_pos h1] at h
    by_cases h2 : x.f1 < 0
    · rw [if_pos h2] at h; exact absurd h (by decide)
    · rw [if_neg h2] at h
      by_cases h3 : x.f2 < x.f1
      · rw [if_pos h3] at h; exact absurd h (by decide)
      · rw [if_neg h3] at h
        by_cases h4 : x.f2 > 99999
        · rw [if_pos h4] at h; exact absurd h (by decide)
        · exact ⟨by omega, by omega, by omega, h1⟩
  · rw [if_neg h1] at h; exact absurd h (by decide)
def meetB (a b : S79) : Bool := a.f0.toList == b.f0.toList && (decide (a.f1 ≤ b.f2) && decide (b.f1 ≤ a.f2))
def firstB (l : List S79) : Nat → Nat → Int
  | _, 0 => 0
  | i, d + 1 => if badB (el l i) = 0 then firstB l (i + 1) d else badB (el l i)
theorem firstB_ok {l : List S79} {d : Nat} : ∀ {i : Nat}, firstB l i d = 0 → ∀ j, i ≤ j → j < i + d → badB (el l j) = 0 := by
  induction d with
  | zero => intro i _ j h1 h2; omega
  | succ d ih =>
    intro i h j h1 h2
    unfold firstB at h
    by_cases hb : badB (el l i) = 0
    · rw [if_pos hb] at h
      by_cases e : j = i
      · rw [e]; exact hb
      · exact ih h j (by omega) (by omega)
    · rw [if_neg hb] at h; exact absurd h hb
def innerB (l : List S79) (i : Nat) : Nat → Nat → Bool
  | _, 0 => false
  | j, d + 1 => meetB (el l i) (el l j) || innerB l i (j + 1) d
def outerB (l : List S79) : Nat → Nat → Bool
  | _, 0 => false
  | i, d + 1 => innerB l i 0 i || outerB l (i + 1) d
def blocksP (l : List S79) : Int := if (l.length : Int) > 8 then 3 else if firstB l 0 l.length = 0 then (if outerB l 0 l.length = true then 5 else 0) else firstB l 0 l.length
theorem blocksP_ok {l : List S79} (h : blocksP l = 0) : l.length ≤ 8 ∧ (∀ j, j < l.length → badB (el l j) = 0) ∧ outerB l 0 l.length = false := by
  unfold blocksP at h
  by_cases h1 : (l.length : Int) > 8
  · rw [if_pos h1] at h; exact absurd h (by decide)
  · rw [if_neg h1] at h
    by_cases h2 : firstB l 0 l.length = 0
    · rw [if_pos h2] at h
      refine ⟨by omega, fun j hj => firstB_ok h2 j (by omega) (by omega), ?_⟩
      cases hq : outerB l 0 l.length with
      | false => rfl
      | true => rw [if_pos hq] at h; exact absurd h (by decide)
    · rw [if_neg h2] at h; exact absurd h h2
def tellB (b : Bool) : Int := if b = true then 5 else 0
theorem vb_l2 (l : List S79) (hl : l.length ≤ 8) (i : Nat) (hi : i < l.length) (r : Bool) (hn : Ev (fun k => ring_ValidateBlocks.l1 k l l (l.length : Int) ((i + 1 : Nat) : Int)) (tellB r)) (d : Nat) : ∀ j, j + d = i →
    Ev (fun k => ring_ValidateBlocks.l2 k l l (l.length : Int) (i : Int) (l.take i) ((l.take i).length : Int) (j : Int) (el l i).f0 (el l i).f1 (el l i).f2) (tellB (innerB l i j d || r)) := by
  have ht : (l.take i).length = i := by rw [List.length_take]; omega
  induction d with
  | zero =>
    intro j hj
    refine Ev.step (fun k => by rw [ring_ValidateBlocks.l2]) (Ev.ifn (by omega) ?_)
    rw [w64 (by omega) (by omega)]
    exact hn
  | succ d ih =>
    intro j hj
    refine Ev.step (fun k => by rw [ring_ValidateBlocks.l2]) (Ev.ifp (by omega) (Ev.ifp (by omega) (Ev.ifp (by omega) ?_)))
    have e : rd_T79 (l.take i) (j : Int) = el l j := el_take l i j (by omega)
    have e1 : wrap64 ((j : Int) + 1) = ((j + 1 : Nat) : Int) := by rw [w64 (by omega) (by omega)]; omega
    rw [e, e1]
    have hr := ih (j + 1) (by omega)
    unfold innerB meetB
    by_cases h1 : (el l i).f0.toList = (el l j).f0.toList
    · refine Ev.ifp h1 ?_
      by_cases h2 : (el l i).f1 ≤ (el l j).f2
      · refine Ev.ifp h2 ?_
        by_cases h3 : (el l j).f1 ≤ (el l i).f2
        · refine Ev.ifp h3 (Ev.val ?_)
          rw [show ((el l i).f0.toList == (el l j).f0.toList) = true from beq_iff_eq.mpr h1, decide_eq_true h2, decide_eq_true h3]
          rfl
        · refine Ev.ifn h3 ?_
          rw [decide_eq_false h3, Bool.and_false, Bool.and_false, Bool.false_or]
          exact hr
      · refine Ev.ifn h2 ?_
        rw [decide_eq_false h2, Bool.false_and, Bool.and_false, Bool.false_or]
        exact hr
    · refine Ev.ifn h1 ?_
      rw [show ((el l i).f0.toList == (el l j).f0.toList) = false from beq_eq_false_iff_ne.mpr h1, Bool.false_and, Bool.false_or]
      exact hr
theorem vb_l1 (l : List S79) (hl : l.length ≤ 8) (d : Nat) : ∀ i, i + d = l.length → Ev (fun k => ring_ValidateBlocks.l1 k l l (l.length : Int) (i : Int)) (tellB (outerB l i d)) := by
  induction d with
  | zero =>
    intro i hi
    refine Ev.step (fun k => by rw [ring_ValidateBlocks.l1]) ?_
    exact Ev.ifn (by omega) (Ev.now _)
  | succ d ih =>
    intro i hi
    refine Ev.step (fun k => by rw [ring_ValidateBlocks.l1]) (Ev.ifp (by omega) (Ev.ifp (by omega) (Ev.ifp (by omega) (Ev.ifp (by omega) (Ev.some_bind ?_)))))
    rw [Int.toNat_natCast]
    exact vb_l2 l hl i (by omega) _ (ih (i + 1) (by omega)) i 0 (by omega)
theorem vb_l0 (l : List S79) (hl : l.length ≤ 8) (hg : ∀ y ∈ l, g79 y) (d : Nat) : ∀ i, i + d = l.length → Ev (fun k => ring_ValidateBlocks.l0 k l l (l.length : Int) (i : Int)) (if firstB l i d = 0 then tellB (outerB l 0 l.length) else firstB l i d) := by
  induction d with
  | zero =>
    intro i hi
    refine Ev.step (fun k => by rw [ring_ValidateBlocks.l0]) ?_
    exact Ev.ifn (by omega) (vb_l1 l hl l.length 0 (by omega))
  | succ d ih =>
    intro i hi
    have hgi := el_good hg i (by omega)
    have e1 : wrap64 ((i : Int) + 1) = ((i + 1 : Nat) : Int) := by rw [w64 (by omega) (by omega)]; omega
    refine Ev.step (fun k => by rw [ring_ValidateBlocks.l0]) ?_
    refine Ev.ifp (by omega) (Ev.ifp (by omega) (Ev.ifp (by omega) ?_))
    refine Ev.bindc (series_eq (el l i).f0 hgi.1) ?_
    have hr := ih (i + 1) (by omega)
    rw [e1]
    unfold firstB badB
    show Ev (fun k => if serP (el l i).f0 = true then (if (el l i).f1 < 0 then some 1 else if (el l i).f1 > (el l i).f2 then some 1 else if (el l i).f2 > 99999 then some 1 else _) else some 2) _
    by_cases h1 : serP (el l i).f0 = true
    · refine Ev.ifp h1 ?_
      simp only [if_pos h1]
      by_cases h2 : (el l i).f1 < 0
      · refine Ev.ifp h2 ?_
        simp only [if_pos h2]
        exact Ev.now _
      · refine Ev.ifn h2 ?_
        simp only [if_neg h2]
        by_cases h3 : (el l i).f2 < (el l i).f1
        · refine Ev.ifp h3 ?_
          simp only [if_pos h3]
          exact Ev.now _
        · refine Ev.ifn h3 ?_
          simp only [if_neg h3]
          by_cases h4 : (el l i).f2 > 99999
          · refine Ev.ifp h4 ?_
            simp only [if_pos h4]
            exact Ev.now _
          · refine Ev.ifn h4 ?_
            simp only [if_neg h4, if_true]
            exact hr
    · refine Ev.ifn h1 ?_
      simp only [if_neg h1]
      exact Ev.now _
theorem blocks_ev (l : List S79) (hg : ∀ y ∈ l, g79 y) : Ev (fun k => ring_ValidateBlocks.f k l) (blocksP l) := by
  unfold ring_ValidateBlocks.f blocksP
  by_cases h : (l.length : Int) > 8
  · simp only [if_pos h]
    exact Ev.now _
  · simp only [if_neg h]
    exact vb_l0 l (by omega) hg l.length 0 (by omega)
theorem rvb_l2 (l : List S79) (hl : l.length ≤ 8) (i : Nat) (hi : i < l.length) (r : Bool) (hn : Ev (fun k => wigeonref01_ValidateBlocks.l1 k l ((i + 1 : Nat) : Int)) (tellB r)) (d : Nat) : ∀ j, j + d = i →
    Ev (fun k => wigeonref01_ValidateBlocks.l2 k l (i : Int) (j : Int)) (tellB (innerB l i j d || r)) := by
  induction d with
  | zero =>
    intro j hj
    refine Ev.step (fun k => by rw [wigeonref01_ValidateBlocks.l2]) (Ev.ifn (by omega) ?_)
    rw [w64 (by omega) (by omega)]
    exact hn
  | succ d ih =>
    intro j hj
    refine Ev.step (fun k => by rw [wigeonref01_ValidateBlocks.l2]) (Ev.ifp (by omega) (Ev.ifp (by omega) (Ev.ifp (by omega) (Ev.ifp (by omega) (Ev.ifp (by omega) ?_)))))
    have e1 : wrap64 ((j : Int) + 1) = ((j + 1 : Nat) : Int) := by rw [w64 (by omega) (by omega)]; omega
    rw [e1]
    have hr := ih (j + 1) (by omega)
    unfold innerB meetB
    by_cases h1 : (el l i).f0.toList = (el l j).f0.toList
    · refine Ev.ifp h1 ?_
      by_cases h2 : (el l i).f1 ≤ (el l j).f2
      · refine Ev.ifp h2 ?_
        by_cases h3 : (el l j).f1 ≤ (el l i).f2
        · refine Ev.ifp h3 (Ev.val ?_)
          rw [show ((el l i).f0.toList == (el l j).f0.toList) = true from beq_iff_eq.mpr h1, decide_eq_true h2, decide_eq_true h3]
          rfl
        · refine Ev.ifn h3 ?_
          rw [decide_eq_false h3, Bool.and_false, Bool.and_false, Bool.false_or]
          exact hr
      · refine Ev.ifn h2 ?_
        rw [decide_eq_false h2, Bool.false_and, Bool.and_false, Bool.false_or]
        exact hr
    · refine Ev.ifn h1 ?_
      rw [show ((el l i).f0.toList == (el l j).f0.toList) = false from beq_eq_false_iff_ne.mpr h1, Bool.false_and, Bool.false_or]
      exact hr
theorem rvb_l1 (l : List S79) (hl : l.length ≤ 8) (d : Nat) : ∀ i, i + d = l.length → Ev (fun k => wigeonref01_ValidateBlocks.l1 k l (i : Int)) (tellB (outerB l i d)) := by
  induction d with
  | zero =>
    intro i hi
    refine Ev.step (fun k => by rw [wigeonref01_ValidateBlocks.l1]) ?_
    exact Ev.ifn (by omega) (Ev.now _)
  | succ d ih =>
    intro i hi
    refine Ev.step (fun k => by rw [wigeonref01_ValidateBlocks.l1]) (Ev.ifp (by omega) ?_)
    exact rvb_l2 l hl i (by omega) _ (ih (i + 1) (by omega)) i 0 (by omega)
theorem rvb_l0 (l : List S79) (hl : l.length ≤ 8) (d : Nat) : ∀ i, i + d = l.length → Ev (fun k => wigeonref01_ValidateBlocks.l0 k l (i : Int)) (if firstB l i d = 0 then tellB (outerB l 0 l.length) else firstB l i d) := by
  induction d with
  | zero =>
    intro i hi
    refine Ev.step (fun k => by rw [wigeonref01_ValidateBlocks.l0]) ?_
    exact Ev.ifn (by omega) (rvb_l1 l hl l.length 0 (by omega))
  | succ d ih =>
    intro i hi
    have e1 : wrap64 ((i : Int) + 1) = ((i + 1 : Nat) : Int) := by rw [w64 (by omega) (by omega)]; omega
    refine Ev.step (fun k => by rw [wigeonref01_ValidateBlocks.l0]) ?_
    refine Ev.ifp (by omega) (Ev.ifp (by omega) ?_)
    refine Ev.bind (isSeries_ev (el l i).f0) ?_
    have hr := ih (i + 1) (by omega)
    rw [e1]
    unfold firstB badB
    show Ev (fun k => if serP (el l i).f0 = true then (if (el l i).f1 < 0 then some 1 else if (el l i).f2 < (el l i).f1 then some 1 else if (el l i).f2 > 99999 then some 1 else _) else some 2) _
    by_cases h1 : serP (el l i).f0 = true
    · refine Ev.ifp h1 ?_
      simp only [if_pos h1]
      by_cases h2 : (el l i).f1 < 0
      · refine Ev.ifp h2 ?_
        simp only [if_pos h2]
        exact Ev.now _
      · refine Ev.ifn h2 ?_
        simp only [if_neg h2]
        by_cases h3 : (el l i).f2 < (el l i).f1
        · refine Ev.ifp h3 ?_
          simp only [if_pos h3]
          exact Ev.now _
        · refine Ev.ifn h3 ?_
          simp only [if_neg h3]
          by_cases h4 : (el l i).f2 > 99999
          · refine Ev.ifp h4 ?_
            simp only [if_pos h4]
            exact Ev.now _
          · refine Ev.ifn h4 ?_
            simp only [if_neg h4, if_true]
            exact hr
    · refine Ev.ifn h1 ?_
      simp only [if_neg h1]
      exact Ev.now _
theorem rblocks_ev (l : List S79) : Ev (fun k => wigeonref01_ValidateBlocks.f k l) (blocksP l) := by
  unfold wigeonref01_ValidateBlocks.f blocksP
  by_cases h : (l.length : Int) > 8
  · simp only [if_pos h]
    exact Ev.now _
  · simp only [if_neg h]
    exact rvb_l0 l (by omega) l.length 0 (by omega)
def totB (l : List S79) : Nat → Nat → Int
  | _, 0 => 0
  | i, d + 1 => ((el l i).f2 - (el l i).f1 + 1) + totB l (i + 1) d
def totalP (l : List S79) : Int × Int := if blocksP l = 0 then (totB l 0 l.length, 0) else (0, blocksP l)
theorem total_l0 (l : List S79) (hl : l.length ≤ 8) (hb : ∀ j, j < l.length → badB (el l j) = 0) (d : Nat) : ∀ (i : Nat) (a : Int), i + d = l.length → 0 ≤ a → a ≤ 100000 * i → Ev (fun k => ring_Total.l0 k a l (l.length : Int) (i : Int)) (a + totB l i d, 0) := by
  induction d with
  | zero =>
    intro i a hi h0 h1
    refine Ev.step (fun k => by rw [ring_Total.l0]) (Ev.ifn (by omega) (Ev.val ?_))
    simp [totB]
  | succ d ih =>
    intro i a hi h0 h1
    obtain ⟨b0, b1, b2, _⟩ := badB_ok (hb i (by omega))
    refine Ev.step (fun k => by rw [ring_Total.l0]) (Ev.ifp (by omega) (Ev.ifp (by omega) (Ev.ifp (by omega) ?_)))
    show Ev (fun k => ring_Total.l0 k (wrap64 (a + wrap64 (wrap64 ((el l i).f2 - (el l i).f1) + 1))) l (l.length : Int) (wrap64 ((i : Int) + 1))) _
    rw [w64 (n := (el l i).f2 - (el l i).f1) (by omega) (by omega), w64 (n := (el l i).f2 - (el l i).f1 + 1) (by omega) (by omega), w64 (n := a + ((el l i).f2 - (el l i).f1 + 1)) (by omega) (by omega), w64 (by omega) (by omega)]
    have h := ih (i + 1) (a + ((el l i).f2 - (el l i).f1 + 1)) (by omega) (by omega) (by omega)
    have e : a + totB l i (d + 1) = a + ((el l i).f2 - (el l i).f1 + 1) + totB l (i + 1) d := by
      show a + ((el l i).f2 - (el l i).f1 + 1 + totB l (i + 1) d) = _
      omega
    rw [e]
    exact h
theorem Total_ev (l : List S79) (hg : ∀ y ∈ l, g79 y) : Ev (fun k => ring_Total.f k l) (totalP l) := by
  unfold ring_Total.f totalP
  refine Ev.bind (blocks_ev l hg) ?_
  by_cases h : blocksP l = 0
  · simp only [if_pos h]
    obtain ⟨hl, hb, _⟩ := blocksP_ok h
    have h2 := total_l0 l hl hb l.length 0 0 (by omega) (by omega) (by omega)
    rw [Int.zero_add] at h2
    exact h2
  · simp only [if_neg h]
    exact Ev.now _
def hasB (x : S79) (s : ByteArray) (n : Int) : Bool := x.f0.toList == s.toList && (decide (x.f1 ≤ n) && decide (n ≤ x.f2))
def ownB (l : List S79) (s : ByteArray) (n : Int) : Nat → Nat → Int × Bool × Int
  | _, 0 => (0, false, 0)
  | i, d + 1 => if hasB (el l i) s n = true then ((i : Int), true, 0) else ownB l s n (i + 1) d
def ownerP (l : List S79) (t : ByteArray) : Int × Bool × Int := if blocksP l = 0 then (if ValidP t = 0 then ownB l (t.extract 0 (t.size - 6)) (numP t) 0 l.length else (0, false, ValidP t)) else (0, false, blocksP l)
theorem owner_l0 (l : List S79) (hl : l.length ≤ 8) (s : ByteArray) (n : Int) (d : Nat) : ∀ i, i + d = l.length → Ev (fun k => ring_Owner.l0 k s n l (l.length : Int) (i : Int)) (ownB l s n i d) := by
  induction d with
  | zero =>
    intro i hi
    refine Ev.step (fun k => by rw [ring_Owner.l0]) ?_
    exact Ev.ifn (by omega) (Ev.now _)
  | succ d ih =>
    intro i hi
    have e1 : wrap64 ((i : Int) + 1) = ((i + 1 : Nat) : Int) := by rw [w64 (by omega) (by omega)]; omega
    refine Ev.step (fun k => by rw [ring_Owner.l0]) (Ev.ifp (by omega) (Ev.ifp (by omega) (Ev.ifp (by omega) ?_)))
    rw [e1]
    have hr := ih (i + 1) (by omega)
    unfold ownB hasB
    show Ev (fun k => if (el l i).f0.toList = s.toList then (if (el l i).f1 ≤ n then (if n ≤ (el l i).f2 then _ else _) else _) else _) _
    by_cases h1 : (el l i).f0.toList = s.toList
    · refine Ev.ifp h1 ?_
      by_cases h2 : (el l i).f1 ≤ n
      · refine Ev.ifp h2 ?_
        by_cases h3 : n ≤ (el l i).f2
        · refine Ev.ifp h3 (Ev.val ?_)
          rw [show ((el l i).f0.toList == s.toList) = true from beq_iff_eq.mpr h1, decide_eq_true h2, decide_eq_true h3]
          rfl
        · refine Ev.ifn h3 ?_
          rw [decide_eq_false h3, Bool.and_false, Bool.and_false]
          exact hr
      · refine Ev.ifn h2 ?_
        rw [decide_eq_false h2, Bool.false_and, Bool.and_false]
        exact hr
    · refine Ev.ifn h1 ?_
      rw [show ((el l i).f0.toList == s.toList) = false from beq_eq_false_iff_ne.mpr h1, Bool.false_and]
      exact hr
theorem Owner_ev (l : List S79) (hg : ∀ y ∈ l, g79 y) (t : ByteArray) (ht : t.size ≤ 140737488351232) : Ev (fun k => ring_Owner.f k l t) (ownerP l t) := by
  unfold ring_Owner.f ownerP
  refine Ev.bind (blocks_ev l hg) ?_
  by_cases h : blocksP l = 0
  · simp only [if_pos h]
    obtain ⟨hl, _, _⟩ := blocksP_ok h
    refine Ev.bind (Split_ev t ht) ?_
    unfold SplitP
    by_cases hv : ValidP t = 0
    · simp only [if_pos hv]
      exact Ev.ifp trivial (owner_l0 l hl _ _ l.length 0 (by omega))
    · simp only [if_neg hv]
      exact Ev.now _
  · simp only [if_neg h]
    exact Ev.now _
def sT (x : S79) : Txt := x.f0.data.toList
theorem sT_of {x y : S79} (h : x.f0.toList = y.f0.toList) : sT x = sT y := by
  rw [ByteArray.toList_eq, ByteArray.toList_eq] at h
  exact h
theorem of_sT {x y : S79} (h : sT x = sT y) : x.f0.toList = y.f0.toList := by
  rw [ByteArray.toList_eq, ByteArray.toList_eq]
  exact h
def ltK (x y : S79) : Prop := sT x < sT y ∨ (sT x = sT y ∧ x.f1 < y.f1)
def rK (x y : S79) : Prop := sT x < sT y ∨ (sT x = sT y ∧ x.f2 < y.f1)
theorem el_at (l : List S79) (i : Nat) (h : i < l.length) : el l i = l[i] := by
  unfold el rd_T79
  rw [Int.toNat_natCast, List.getD_eq_getElem?_getD, List.getElem?_eq_getElem h]
  rfl
theorem meet_false {a b : S79} : meetB a b = false ↔ ¬ (sT a = sT b ∧ a.f1 ≤ b.f2 ∧ b.f1 ≤ a.f2) := by
  unfold meetB
  by_cases h : a.f0.toList = b.f0.toList
  · rw [beq_iff_eq.2 h, Bool.true_and, Bool.and_eq_false_iff, decide_eq_false_iff_not, decide_eq_false_iff_not]
    have := sT_of h
    constructor
    · rintro (g | g) ⟨_, g1, g2⟩
      · exact g g1
      · exact g g2
    · intro g
      by_cases g1 : a.f1 ≤ b.f2
      · exact .inr fun g2 => g ⟨this, g1, g2⟩
      · exact .inl g1
  · rw [beq_eq_false_iff_ne.2 h]
    simp only [Bool.false_and, true_iff]
    exact fun g => h (of_sT g.1)
theorem meet_symm {a b : S79} (h : meetB a b = false) : meetB b a = false := by
  rw [meet_false] at *
  exact fun g => h ⟨g.1.symm, g.2.2, g.2.1⟩
theorem inner_false (l : List S79) (i : Nat) (d : Nat) : ∀ j, innerB l i j d = false ↔ ∀ k, j ≤ k → k < j + d → meetB (el l i) (el l k) = false := by
  induction d with
  | zero => intro j; unfold innerB; simp; intro k h1 h2; omega
  | succ d ih =>
    intro j
    unfold innerB
    rw [Bool.or_eq_false_iff, ih (j + 1)]
    constructor
    · rintro ⟨h1, h2⟩ k hk hk2
      by_cases e : k = j
      · rw [e]; exact h1
      · exact h2 k (by omega) (by omega)
    · intro h
      exact ⟨h j (Nat.le_refl _) (by omega), fun k h1 h2 => h k (by omega) (by omega)⟩
theorem outer_false (l : List S79) (d : Nat) : ∀ i, outerB l i d = false ↔ ∀ k, i ≤ k → k < i + d → innerB l k 0 k = false := by
  induction d with
  | zero => intro i; unfold outerB; simp; intro k h1 h2; omega
  | succ d ih =>
    intro i
    unfold outerB
    rw [Bool.or_eq_false_iff, ih (i + 1)]
    constructor
    · rintro ⟨h1, h2⟩ k hk hk2
      by_cases e : k = i
      · rw [e]; exact h1
      · exact h2 k (by omega) (by omega)
    · intro h
      exact ⟨h i (Nat.le_refl _) (by omega), fun k h1 h2 => h k (by omega) (by omega)⟩
theorem apart_iff (l : List S79) : outerB l 0 l.length = false ↔ l.Pairwise (fun a b => meetB a b = false) := by
  rw [outer_false, List.pairwise_iff_getElem]
  constructor
  · intro h i j hi hj hij
    have := (inner_false l j j 0).1 (h j (Nat.zero_le _) (by omega)) i (Nat.zero_le _) (by omega)
    rw [el_at l j hj, el_at l i hi] at this
    exact meet_symm this
  · intro h k _ hk
    refine (inner_false l k k 0).2 fun i _ hi => ?_
    rw [el_at l k (by omega), el_at l i (by omega)]
    exact meet_symm (h i k (by omega) (by omega) (by omega))
theorem firstB_zero {l : List S79} {d : Nat} : ∀ {i : Nat}, (∀ j, i ≤ j → j < i + d → badB (el l j) = 0) → firstB l i d = 0 := by
  induction d with
  | zero => intro i _; rfl
  | succ d ih =>
    intro i h
    unfold firstB
    rw [if_pos (h i (Nat.le_refl _) (by omega))]
    exact ih fun j h1 h2 => h j (by omega) (by omega)
theorem blocks_of {l : List S79} (hl : l.length ≤ 8) (hb : ∀ x ∈ l, badB x = 0) (ha : l.Pairwise (fun a b => meetB a b = false)) : blocksP l = 0 := by
  unfold blocksP
  rw [if_neg (by omega), if_pos (firstB_zero fun j _ hj => by rw [el_at l j (by omega)]; exact hb _ (List.getElem_mem _)), if_neg (by rw [(apart_iff l).2 ha]; decide)]
theorem blocks_mem {l : List S79} (h : blocksP l = 0) : l.length ≤ 8 ∧ (∀ x ∈ l, badB x = 0) ∧ l.Pairwise (fun a b => meetB a b = false) := by
  obtain ⟨h1, h2, h3⟩ := blocksP_ok h
  refine ⟨h1, fun x hx => ?_, (apart_iff l).1 h3⟩
  obtain ⟨j, hj, rfl⟩ := List.mem_iff_getElem.1 hx
  rw [← el_at l j hj]
  exact h2 j hj
theorem sort_perm (l : List S79) : (sortB l).Perm l := by
  have h := (Go.Sort.insertionSort_holds swoB l.toArray 0 l.length (Nat.zero_le _) (by simp)).1
  have h1 := h.1
  have h2 := h.2.2
  have e1 : ((Go.Sort.insertionSort (ltOf cmpB) l.toArray 0 l.length).extract 0 l.length) = Go.Sort.insertionSort (ltOf cmpB) l.toArray 0 l.length := by
    have hs := sortB_size l
    apply Array.ext
    · simp [hs]
    · intro i _ _
      simp
  have e2 : l.toArray.extract 0 l.length = l.toArray := by
    apply Array.ext
    · simp
    · intro i _ _
      simp
  rw [e1, e2] at h2
  unfold sortB
  exact h2
theorem sort_rK {l : List S79} (h : blocksP l = 0) : (sortB l).Pairwise rK := by
  obtain ⟨_, hb, ha⟩ := blocks_mem h
  have hs := (Go.Sort.insertionSort_holds swoB l.toArray 0 l.length (Nat.zero_le _) (by simp)).2
  have ha2 : (sortB l).Pairwise (fun a b => meetB a b = false) := (List.Perm.pairwise_iff (fun h => meet_symm h) (sort_perm l)).2 ha
  have hlen := sortB_length l
  rw [List.pairwise_iff_getElem] at ha2 ⊢
  intro i j hi hj hij
  have h1 := ha2 i j hi hj hij
  have h2 := hs i j (Nat.zero_le _) hij (by omega)
  have hz := sortB_size l
  have e : sortB l = (Go.Sort.insertionSort (ltOf cmpB) l.toArray 0 l.length).toList := rfl
  generalize Go.Sort.insertionSort (ltOf cmpB) l.toArray 0 l.length = A at *
  have hk : ∀ k (hk : k < (sortB l).length), A[k]! = (sortB l)[k] := fun k hk => by
    rw [getElem!_pos A k (by omega), List.getElem_of_eq e hk, Array.getElem_toList]
  rw [hk j hj, hk i hi, lt_cmpB, decide_eq_false_iff_not] at h2
  have b1 := badB_ok (hb _ ((sort_perm l).mem_iff.1 (List.getElem_mem hi)))
  have b2 := badB_ok (hb _ ((sort_perm l).mem_iff.1 (List.getElem_mem hj)))
  rw [meet_false] at h1
  rcases txt_tri (sT (sortB l)[i]) (sT (sortB l)[j]) with c | c | c
  · exact .inl c
  · refine .inr ⟨c, ?_⟩
    apply Classical.byContradiction
    intro g
    exact h1 ⟨c, by
      have : ¬ (sortB l)[j].f1 < (sortB l)[i].f1 := fun q => h2 (.inr ⟨c.symm, q⟩)
      omega, by omega⟩
  · exact absurd (.inl c) h2
theorem rK_ltK {x y : S79} (hx : badB x = 0) (h : rK x y) : ltK x y := by
  have := badB_ok hx
  rcases h with h | ⟨h, g⟩
  · exact .inl h
  · exact .inr ⟨h, by omega⟩
theorem rK_meet {x y : S79} (hx : badB x = 0) (h : rK x y) : meetB x y = false := by
  have := badB_ok hx
  rw [meet_false]
  rintro ⟨h1, h2, h3⟩
  rcases h with h | ⟨h, g⟩
  · exact txt_irrefl _ (h1 ▸ h)
  · omega
theorem ltK_asymm {x y : S79} (h : ltK x y) (g : ltK y x) : False := by
  rcases h with h | ⟨h, h2⟩ <;> rcases g with g | ⟨g, g2⟩
  · exact txt_irrefl _ (txt_trans h g)
  · exact txt_irrefl _ (g ▸ h)
  · exact txt_irrefl _ (h ▸ g)
  · omega
def next1 (a b : S79) : Bool := decide (a.f0.toList = b.f0.toList) && decide (a.f2 + 1 = b.f1)
def mrg (cur : S79) : List S79 → List S79
  | [] => [cur]
  | b :: r => if next1 cur b = true then mrg ⟨cur.f0, cur.f1, b.f2⟩ r else cur :: mrg b r
def stepJ (out : List S79) (b : S79) : List S79 := if 0 < out.length ∧ next1 (el out (out.length - 1)) b = true then out.set (out.length - 1) ⟨(el out (out.length - 1)).f0, (el out (out.length - 1)).f1, b.f2⟩ else out ++ [b]
def foldJ (out : List S79) : List S79 → List S79
  | [] => out
  | b :: r => foldJ (stepJ out b) r
def joinL : List S79 → List S79
  | [] => []
  | b :: r => mrg b r
theorem fold_mrg : ∀ (r pre : List S79) (cur : S79), foldJ (pre ++ [cur]) r = pre ++ mrg cur r
  | [], _, _ => rfl
  | b :: r, pre, cur => by
    have hl : (pre ++ [cur]).length = pre.length + 1 := by simp
    have he : el (pre ++ [cur]) (pre.length + 1 - 1) = cur := by
      rw [el_at _ _ (by rw [hl]; omega)]
      simp
    show foldJ (stepJ (pre ++ [cur]) b) r = _
    unfold stepJ mrg
    rw [hl, he]
    by_cases h : next1 cur b = true
    · rw [if_pos ⟨by omega, h⟩, if_pos h]
      have e : (pre ++ [cur]).set (pre.length + 1 - 1) ⟨cur.f0, cur.f1, b.f2⟩ = pre ++ [⟨cur.f0, cur.f1, b.f2⟩] := by simp
      rw [e, fold_mrg r]
    · rw [if_neg (fun g => h g.2), if_neg h, fold_mrg r (pre ++ [cur]) b]
      simp
theorem fold_join (l : List S79) : foldJ [] l = joinL l := by
  cases l with
  | nil => rfl
  | cons b r =>
    have e : stepJ [] b = [b] := by unfold stepJ; simp
    show foldJ (stepJ [] b) r = _
    rw [e]
    exact fold_mrg r [] b
theorem next_iff {a b : S79} : next1 a b = true ↔ sT a = sT b ∧ a.f2 + 1 = b.f1 := by
  unfold next1
  rw [Bool.and_eq_true, decide_eq_true_eq, decide_eq_true_eq]
  exact ⟨fun h => ⟨sT_of h.1, h.2⟩, fun h => ⟨of_sT h.1, h.2⟩⟩
theorem mrg_from : ∀ (r : List S79) (cur y : S79), y ∈ mrg cur r → ∃ z ∈ cur :: r, sT z = sT y ∧ z.f1 = y.f1
  | [], cur, y, h => ⟨cur, List.mem_cons_self .., by rw [List.mem_singleton.1 h], by rw [List.mem_singleton.1 h]⟩
  | b :: r, cur, y, h => by
    unfold mrg at h
    by_cases c : next1 cur b = true
    · rw [if_pos c] at h
      obtain ⟨z, hz, e1, e2⟩ := mrg_from r _ y h
      rcases List.mem_cons.1 hz with g | g
      · subst g
        exact ⟨cur, List.mem_cons_self .., e1, e2⟩
      · exact ⟨z, List.mem_cons_of_mem _ (List.mem_cons_of_mem _ g), e1, e2⟩
    · rw [if_neg c] at h
      rcases List.mem_cons.1 h with g | g
      · exact ⟨cur, List.mem_cons_self .., by rw [g], by rw [g]⟩
      · obtain ⟨z, hz, e1, e2⟩ := mrg_from r b y g
        exact ⟨z, List.mem_cons_of_mem _ hz, e1, e2⟩
theorem rK_from {x z y : S79} (h : rK x z) (e1 : sT z = sT y) (e2 : z.f1 = y.f1) : rK x y := by
  unfold rK at *
  rw [← e1, ← e2]
  exact h
theorem mrg_rK : ∀ (r : List S79) (cur : S79), (cur :: r).Pairwise rK → (mrg cur r).Pairwise rK
  | [], _, _ => List.pairwise_singleton _ _
  | b :: r, cur, h => by
    have h1 := List.pairwise_cons.1 h
    have h2 := List.pairwise_cons.1 h1.2
    unfold mrg
    by_cases c : next1 cur b = true
    · rw [if_pos c]
      have c2 := next_iff.1 c
      refine mrg_rK r _ (List.pairwise_cons.2 ⟨fun y hy => ?_, h2.2⟩)
      have := h2.1 y hy
      unfold rK at this ⊢
      rw [← c2.1] at this
      exact this
    · rw [if_neg c]
      refine List.pairwise_cons.2 ⟨fun y hy => ?_, mrg_rK r b h1.2⟩
      obtain ⟨z, hz, e1, e2⟩ := mrg_from r b y hy
      exact rK_from (h1.1 z hz) e1 e2
theorem mrg_len : ∀ (r : List S79) (cur : S79), (mrg cur r).length ≤ r.length + 1
  | [], _ => Nat.le_refl _
  | b :: r, cur => by
    unfold mrg
    by_cases c : next1 cur b = true
    · rw [if_pos c]
      have := mrg_len r ⟨cur.f0, cur.f1, b.f2⟩
      simp only [List.length_cons]
      omega
    · rw [if_neg c]
      have := mrg_len r b
      simp only [List.length_cons]
      omega
theorem badB_of {x : S79} (hs : serP x.f0 = true) (h0 : 0 ≤ x.f1) (h1 : x.f1 ≤ x.f2) (h2 : x.f2 ≤ 99999) : badB x = 0 := by
  unfold badB
  rw [if_pos hs, if_neg (by omega), if_neg (by omega), if_neg (by omega)]
theorem mrg_bad : ∀ (r : List S79) (cur : S79), (∀ x ∈ cur :: r, badB x = 0) → ∀ x ∈ mrg cur r, badB x = 0
  | [], cur, h, x, hx => h x (by rw [List.mem_singleton.1 hx]; exact List.mem_cons_self ..)
  | b :: r, cur, h, x, hx => by
    unfold mrg at hx
    have hc := badB_ok (h cur (List.mem_cons_self ..))
    have hb := badB_ok (h b (List.mem_cons_of_mem _ (List.mem_cons_self ..)))
    by_cases c : next1 cur b = true
    · rw [if_pos c] at hx
      have c2 := next_iff.1 c
      refine mrg_bad r _ (fun y hy => ?_) x hx
      rcases List.mem_cons.1 hy with g | g
      · subst g
        exact badB_of hc.2.2.2 hc.1 (by show cur.f1 ≤ b.f2; omega) hb.2.2.1
      · exact h y (List.mem_cons_of_mem _ (List.mem_cons_of_mem _ g))
    · rw [if_neg c] at hx
      rcases List.mem_cons.1 hx with g | g
      · rw [g]; exact h cur (List.mem_cons_self ..)
      · exact mrg_bad r b (fun y hy => h y (List.mem_cons_of_mem _ hy)) x g
def totL : List S79 → Int
  | [] => 0
  | b :: r => (b.f2 - b.f1 + 1) + totL r
theorem tot_perm {l m : List S79} (h : l.Perm m) : totL l = totL m := by
  induction h with
  | nil => rfl
  | cons x _ ih => show _ + totL _ = _ + totL _; rw [ih]
  | swap x y l => show _ + (_ + totL _) = _ + (_ + totL _); omega
  | trans _ _ h1 h2 => exact h1.trans h2
theorem mrg_tot : ∀ (r : List S79) (cur : S79), totL (mrg cur r) = totL (cur :: r)
  | [], _ => rfl
  | b :: r, cur => by
    unfold mrg
    by_cases c : next1 cur b = true
    · rw [if_pos c, mrg_tot r]
      have c2 := next_iff.1 c
      show (b.f2 - cur.f1 + 1) + totL r = (cur.f2 - cur.f1 + 1) + ((b.f2 - b.f1 + 1) + totL r)
      omega
    · rw [if_neg c]
      show (cur.f2 - cur.f1 + 1) + totL (mrg b r) = _
      rw [mrg_tot r b]
      rfl
def covL (l : List S79) (s : ByteArray) (n : Int) : Prop := ∃ b ∈ l, hasB b s n = true
theorem has_iff {b : S79} {s : ByteArray} {n : Int} : hasB b s n = true ↔ b.f0.toList = s.toList ∧ b.f1 ≤ n ∧ n ≤ b.f2 := by
  unfold hasB
  rw [Bool.and_eq_true, Bool.and_eq_true, beq_iff_eq, decide_eq_true_eq, decide_eq_true_eq]
theorem cov_cons {b : S79} {l : List S79} {s : ByteArray} {n : Int} : covL (b :: l) s n ↔ hasB b s n = true ∨ covL l s n := by
  unfold covL
  constructor
  · rintro ⟨x, hx, h⟩
    rcases List.mem_cons.1 hx with g | g
    · exact .inl (g ▸ h)
    · exact .inr ⟨x, g, h⟩
  · rintro (h | ⟨x, hx, h⟩)
    · exact ⟨b, List.mem_cons_self .., h⟩
    · exact ⟨x, List.mem_cons_of_mem _ hx, h⟩
theorem mrg_cov (s : ByteArray) (n : Int) : ∀ (r : List S79) (cur : S79), (∀ x ∈ cur :: r, badB x = 0) → (covL (mrg cur r) s n ↔ covL (cur :: r) s n)
  | [], _, _ => Iff.rfl
  | b :: r, cur, h => by
    have hc := badB_ok (h cur (List.mem_cons_self ..))
    have hb := badB_ok (h b (List.mem_cons_of_mem _ (List.mem_cons_self ..)))
    unfold mrg
    by_cases c : next1 cur b = true
    · rw [if_pos c]
      have c2 := next_iff.1 c
      have c3 := of_sT c2.1
      rw [mrg_cov s n r _ (fun y hy => by
        rcases List.mem_cons.1 hy with g | g
        · subst g
          exact badB_of hc.2.2.2 hc.1 (by show cur.f1 ≤ b.f2; omega) hb.2.2.1
        · exact h y (List.mem_cons_of_mem _ (List.mem_cons_of_mem _ g))), cov_cons, cov_cons, cov_cons, has_iff, has_iff, has_iff]
      show (cur.f0.toList = s.toList ∧ cur.f1 ≤ n ∧ n ≤ b.f2) ∨ _ ↔ _
      rw [← c3]
      constructor
      · rintro (⟨g1, g2, g3⟩ | g)
        · by_cases q : n ≤ cur.f2
          · exact .inl ⟨g1, g2, q⟩
          · exact .inr (.inl ⟨g1, by omega, g3⟩)
        · exact .inr (.inr g)
      · rintro (⟨g1, g2, g3⟩ | ⟨g1, g2, g3⟩ | g)
        · exact .inl ⟨g1, g2, by omega⟩
        · exact .inl ⟨g1, by omega, g3⟩
        · exact .inr g
    · rw [if_neg c, cov_cons, mrg_cov s n r b (fun y hy => h y (List.mem_cons_of_mem _ hy)), ← cov_cons]
theorem join_facts {l : List S79} (h : blocksP l = 0) : blocksP (joinL (sortB l)) = 0 ∧ totL (joinL (sortB l)) = totL l ∧ (∀ s n, covL (joinL (sortB l)) s n ↔ covL l s n) ∧ (joinL (sortB l)).length ≤ 8 ∧ ∀ x ∈ joinL (sortB l), badB x = 0 := by
  obtain ⟨h8, hb, _⟩ := blocks_mem h
  have hp := sort_perm l
  have hr := sort_rK h
  have hlen := sortB_length l
  have hb2 : ∀ x ∈ sortB l, badB x = 0 := fun x hx => hb x (hp.mem_iff.1 hx)
  have hcov : ∀ s n, covL (sortB l) s n ↔ covL l s n := fun s n => by
    unfold covL
    constructor
    · rintro ⟨b, hm, g⟩; exact ⟨b, hp.mem_iff.1 hm, g⟩
    · rintro ⟨b, hm, g⟩; exact ⟨b, hp.mem_iff.2 hm, g⟩
  have ht := tot_perm hp
  cases hs : sortB l with
  | nil =>
    rw [hs] at hcov ht
    refine ⟨blocks_of (by simp [joinL]) (fun x hx => by cases hx) List.Pairwise.nil, ht, hcov, by simp [joinL], fun x hx => by cases hx⟩
  | cons b r =>
    rw [hs] at hr hb2 hcov ht hlen
    have hb3 := mrg_bad r b hb2
    have hl := mrg_len r b
    rw [List.length_cons] at hlen
    have hl8 : (mrg b r).length ≤ 8 := by omega
    refine ⟨blocks_of hl8 hb3 ((List.Pairwise.and_mem.1 (mrg_rK r b hr)).imp fun g => rK_meet (hb3 _ g.1) g.2.2), (mrg_tot r b).trans ht, fun s n => (mrg_cov s n r b hb2).trans (hcov s n), hl8, hb3⟩
theorem totB_totL (l : List S79) (d : Nat) : ∀ i, i + d = l.length → totB l i d = totL (l.drop i) := by
  induction d with
  | zero =>
    intro i hi
    rw [List.drop_of_length_le (by omega)]
    rfl
  | succ d ih =>
    intro i hi
    rw [List.drop_eq_getElem_cons (by omega)]
    show _ + totB l (i + 1) d = _ + totL (l.drop (i + 1))
    rw [ih (i + 1) (by omega), el_at l i (by omega)]
theorem ownB_cov (l : List S79) (s : ByteArray) (n : Int) (d : Nat) : ∀ i, i + d = l.length → ((ownB l s n i d).2.1 = true ↔ covL (l.drop i) s n) ∧ (ownB l s n i d).2.2 = 0 := by
  induction d with
  | zero =>
    intro i hi
    rw [List.drop_of_length_le (by omega)]
    refine ⟨⟨fun h => by simp [ownB] at h, ?_⟩, rfl⟩
    rintro ⟨b, hb, _⟩
    cases hb
  | succ d ih =>
    intro i hi
    rw [List.drop_eq_getElem_cons (by omega), cov_cons]
    unfold ownB
    rw [el_at l i (by omega)]
    by_cases h : hasB l[i] s n = true
    · rw [if_pos h]
      exact ⟨⟨fun _ => .inl h, fun _ => rfl⟩, rfl⟩
    · rw [if_neg h]
      have := ih (i + 1) (by omega)
      refine ⟨this.1.trans ⟨.inr, fun g => g.resolve_left h⟩, this.2⟩
theorem total_same {l m : List S79} (hl : blocksP l = 0) (hm : blocksP m = 0) (h : totL l = totL m) : totalP l = totalP m := by
  unfold totalP
  rw [if_pos hl, if_pos hm, totB_totL l l.length 0 (by omega), totB_totL m m.length 0 (by omega), List.drop_zero, List.drop_zero, h]
theorem owner_same {l m : List S79} (t : ByteArray) (hl : blocksP l = 0) (hm : blocksP m = 0) (h : ∀ s n, covL l s n ↔ covL m s n) : (ownerP l t).2.1 = (ownerP m t).2.1 ∧ (ownerP l t).2.2 = (ownerP m t).2.2 := by
  unfold ownerP
  rw [if_pos hl, if_pos hm]
  by_cases hv : ValidP t = 0
  · rw [if_pos hv, if_pos hv]
    have h1 := ownB_cov l (t.extract 0 (t.size - 6)) (numP t) l.length 0 (by omega)
    have h2 := ownB_cov m (t.extract 0 (t.size - 6)) (numP t) m.length 0 (by omega)
    rw [List.drop_zero] at h1 h2
    refine ⟨?_, h1.2.trans h2.2.symm⟩
    rw [Bool.eq_iff_iff, h1.1, h2.1]
    exact h _ _
  · rw [if_neg hv, if_neg hv]
    exact ⟨rfl, rfl⟩
theorem good_of {x : S79} (h : badB x = 0) : g79 x := by
  obtain ⟨h0, h1, h2, hs⟩ := badB_ok h
  have hz := (serP_true hs).1
  have hw : ∀ n : Int, 0 ≤ n → n ≤ 99999 → (Lit.int .i64 n).wf = true := fun n a b => by
    simp [Lit.wf, IntKind.min, IntKind.max, IntKind.signed, IntKind.bits]
    omega
  exact ⟨by omega, hw _ h0 (by omega), hw _ (by omega) h2⟩
end Go.Proofs.Ytlbhighbhchdmaa.Pure
