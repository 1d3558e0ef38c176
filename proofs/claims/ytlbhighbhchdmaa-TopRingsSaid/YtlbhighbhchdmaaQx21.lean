-- Written by a program of this session (wip/tools/gprint.py, over the kit's print); Lean checks it.
import Derived.Test.YtlbhighbhchdmaaQx0
import Derived.Test.YtlbhighbhchdmaaQx2
import Derived.Test.YtlbhighbhchdmaaQx9
namespace Go.Proofs.Ytlbhighbhchdmaa.Q
open Go.RowKit Go.Proofs.YtlbhighbhchdmaaW.PrintWords Go.Proofs.YtlbhighbhchdmaaW.PrintLast Go.Proofs.YtlbhighbhchdmaaW.PrintMore
attribute [local go_sem] max2_int min2_int max_two min_two max_three min_three max_four min_four   -- for this text's walks alone
set_option linter.unusedVariables false
set_option linter.unusedSimpArgs false

/-! ### ring_sums: function 80 -/
-- GIVEN wigeon/ring.sums rounds=0 making=1
-- IMPORT Derived.Laws.RangeAny Derived.Laws.Runes Derived.Lib.Hide Derived.Lib.OthersKept Derived.Laws.CopyOwn Derived.Deep.DeepMust Derived.Deep.RegionWith Derived.IntWalk Derived.Laws.Tables
def tmQ (x y : Nat) : Nat := if x < 5 then (if y < 5 then (x + y) % 5 else 5 + (x + y) % 5) else (if y < 5 then 5 + (x + 5 - y) % 5 else (x + 5 - y) % 5)
def tn1Q (x : Nat) : Nat := [1, 5, 7, 6, 2, 8, 3, 0, 9, 4].getD x 0
def tnQ : Nat → Nat → Nat
  | x, 0 => x
  | x, n + 1 => tnQ (tn1Q x) n
theorem tm_ltQ {x y : Nat} (hx : x < 10) (hy : y < 10) : tmQ x y < 10 := (by decide +kernel : ∀ x y : Fin 10, tmQ x.val y.val < 10) ⟨x, hx⟩ ⟨y, hy⟩
theorem tn1_ltQ {x : Nat} (hx : x < 10) : tn1Q x < 10 := (by decide +kernel : ∀ x : Fin 10, tn1Q x.val < 10) ⟨x, hx⟩
theorem tn_ltQ {x : Nat} (hx : x < 10) (n : Nat) : tnQ x n < 10 := by
  induction n generalizing x with
  | zero => exact hx
  | succ n ih => exact ih (tn1_ltQ hx)
theorem times_oneQ : ∀ x y : Fin 10, ring_times.f 1 (x.val : Int) (y.val : Int) = some ((tmQ x.val y.val : Nat) : Int) := by decide +kernel
theorem turn_allQ : ∀ x : Fin 10, ring_turn.f (x.val : Int) = some ((tn1Q x.val : Nat) : Int) := by decide +kernel
theorem turned_loopQ (d : Nat) : ∀ (x : Nat) (n i : Int), x < 10 → 0 ≤ i → i + d = n → n ≤ 1000 → ring_turned.l0 (d + 1) (x : Int) n i = some ((tnQ x d : Nat) : Int) := by
  induction d with
  | zero =>
    intro x n i hx hi hd hn
    rw [ring_turned.l0, if_neg (by omega)]
    rfl
  | succ d ih =>
    intro x n i hx hi hd hn
    rw [ring_turned.l0, if_pos (by omega), turn_allQ ⟨x, hx⟩]
    have e : wrap64 (i + 1) = i + 1 := by unfold wrap64; omega
    rw [e]
    exact ih (tn1Q x) n (i + 1) (tn1_ltQ hx) (by omega) (by omega) hn
theorem timesQ {x y : Nat} (hx : x < 10) (hy : y < 10) (w : World) : Calls Try.prog 57 #[.int .i64 (x : Int), .int .i64 (y : Int)] w fun e w' => e = .returned (.int .i64 ((tmQ x y : Nat) : Int)) ∧ Drawn0 w w' :=
  ring_times.calls 1 _ _ _ w (times_oneQ ⟨x, hx⟩ ⟨y, hy⟩)
theorem turnedQ {x : Nat} (hx : x < 10) (n : Nat) (hn : n ≤ 1000) (w : World) : Calls Try.prog 67 #[.int .i64 (x : Int), .int .i64 (n : Int)] w fun e w' => e = .returned (.int .i64 ((tnQ x n : Nat) : Int)) ∧ Drawn0 w w' :=
  ring_turned.calls (n + 1) _ _ _ w (by unfold ring_turned.f; exact turned_loopQ n x n 0 hx (by omega) (by omega) (by omega))
theorem turnedQm {x : Nat} (hx : x < 10) (n : Nat) (hn : n ≤ 1000) (m : Int) (hm : (n : Int) = m) (w : World) : Calls Try.prog 67 #[.int .i64 (x : Int), .int .i64 m] w fun e w' => e = .returned (.int .i64 ((tnQ x n : Nat) : Int)) ∧ Drawn0 w w' := by
  subst hm
  exact turnedQ hx n hn w
/-! In how many ways worn digits have each sum. -/
def okQ (s : ByteArray) (i d : Nat) : Bool := bt s (i : Int) == 63 || bt s (i : Int) == 48 + (d : Int)
def rowC (ways next : List Nat) (d e : Nat) : Nat → List Nat
  | 0 => next
  | c + 1 => (rowC ways next d e c).set (tmQ c (tnQ d e)) ((rowC ways next d e c).getD (tmQ c (tnQ d e)) 0 + ways.getD c 0)
def stepD (s : ByteArray) (i : Nat) (ways : List Nat) : Nat → List Nat
  | 0 => List.replicate 10 0
  | d + 1 => if okQ s i d = true then rowC ways (stepD s i ways d) d (s.size - 1 - i) 10 else stepD s i ways d
def waysT (s : ByteArray) : Nat → List Nat
  | 0 => [1, 0, 0, 0, 0, 0, 0, 0, 0, 0]
  | j + 1 => stepD s (s.size - 1 - j) (waysT s j) 10
theorem rowC_length (ways next : List Nat) (d e c : Nat) : (rowC ways next d e c).length = next.length := by
  induction c with
  | zero => rfl
  | succ c ih => unfold rowC; rw [List.length_set, ih]
theorem stepD_length (s : ByteArray) (i : Nat) (ways : List Nat) (d : Nat) : (stepD s i ways d).length = 10 := by
  induction d with
  | zero => rfl
  | succ d ih =>
    unfold stepD
    split
    · rw [rowC_length, ih]
    · exact ih
theorem waysT_length (s : ByteArray) (j : Nat) : (waysT s j).length = 10 := by
  cases j with
  | zero => rfl
  | succ j => exact stepD_length _ _ _ _
def Cap (l : List Nat) (M : Nat) : Prop := ∀ i, l.getD i 0 ≤ M
theorem Cap.set {l : List Nat} {M : Nat} (h : Cap l M) {x : Nat} (hx : x ≤ M) (k : Nat) : Cap (l.set k x) M := by
  intro i
  rw [List.getD_eq_getElem?_getD, List.getElem?_set]
  split
  · split
    · exact hx
    · exact Nat.zero_le _
  · have := h i; rwa [List.getD_eq_getElem?_getD] at this
theorem Cap.mono {l : List Nat} {M M' : Nat} (h : Cap l M) (hm : M ≤ M') : Cap l M' := fun i => Nat.le_trans (h i) hm
theorem rowC_cap {ways next : List Nat} {M B : Nat} (hw : Cap ways M) (hn : Cap next B) (d e c : Nat) : Cap (rowC ways next d e c) (B + c * M) := by
  induction c with
  | zero => simpa [rowC] using hn
  | succ c ih =>
    unfold rowC
    have e1 : B + (c + 1) * M = (B + c * M) + M := by rw [Nat.add_mul]; omega
    rw [e1]
    exact (ih.mono (Nat.le_add_right _ _)).set (Nat.add_le_add (ih _) (hw _)) _
theorem stepD_cap (s : ByteArray) (i : Nat) {ways : List Nat} {M : Nat} (hw : Cap ways M) (d : Nat) : Cap (stepD s i ways d) (d * (10 * M)) := by
  induction d with
  | zero =>
    intro j
    unfold stepD
    rw [List.getD_eq_getElem?_getD, List.getElem?_replicate]
    split <;> simp
  | succ d ih =>
    unfold stepD
    rw [Nat.add_mul, Nat.one_mul]
    split
    · exact rowC_cap hw ih _ _ 10
    · exact ih.mono (Nat.le_add_right _ _)
theorem waysT_cap (s : ByteArray) (j : Nat) : Cap (waysT s j) (100 ^ j) := by
  induction j with
  | zero =>
    intro i
    rcases Nat.lt_or_ge i 10 with h | h
    · exact (by decide : ∀ i : Fin 10, ([1, 0, 0, 0, 0, 0, 0, 0, 0, 0] : List Nat).getD i.val 0 ≤ 100 ^ 0) ⟨i, h⟩
    · unfold waysT
      rw [List.getD_eq_getElem?_getD, List.getElem?_eq_none (by simpa using h)]
      decide
  | succ j ih =>
    unfold waysT
    have := stepD_cap s (s.size - 1 - j) ih 10
    rw [Nat.pow_succ]
    exact this.mono (by omega)
theorem pow_six {j : Nat} (h : j ≤ 6) : 100 ^ j ≤ 1000000000000 := by
  have := Nat.pow_le_pow_right (n := 100) (by decide) h
  have e : 100 ^ 6 = 1000000000000 := by decide
  omega
def encN (l : List Nat) : Array Value := (l.map fun n : Nat => Value.int .i64 (n : Int)).toArray
def gN (l : List Nat) (k : Nat) : Nat := l.getD k 0
theorem encN_size (l : List Nat) : (encN l).size = l.length := by simp [encN]
theorem encN_get (l : List Nat) (j : Nat) (h : j < l.length) : (encN l)[j]? = some (.int .i64 ((gN l j : Nat) : Int)) := by
  unfold encN
  unfold gN
  rw [List.getElem?_toArray, List.getElem?_map, List.getD_eq_getElem?_getD, List.getElem?_eq_getElem h]
  rfl
theorem encN_set (l : List Nat) (j x : Nat) : (encN l).setIfInBounds j (.int .i64 (x : Int)) = encN (l.set j x) := by
  apply Array.ext'
  rw [Array.toList_setIfInBounds]
  unfold encN
  simp only [List.map_set]
theorem encN_one (l : List Nat) : (encN l).all (·.oneCell') = true := by
  rw [Array.all_eq_true_iff_forall_mem]
  intro x hx
  unfold encN at hx
  rw [List.mem_toArray, List.mem_map] at hx
  obtain ⟨n, _, rfl⟩ := hx
  rfl
theorem index_at0 (a0 a1 a2 a3 a4 a5 a6 a7 a8 a9 : Int) (w : World) : (Instr.index 75 (.agg #[.int .i64 a0, .int .i64 a1, .int .i64 a2, .int .i64 a3, .int .i64 a4, .int .i64 a5, .int .i64 a6, .int .i64 a7, .int .i64 a8, .int .i64 a9]) (.int .i64 0)).run Try.prog w = .ok (.int .i64 a0) w := by kernel_rfl
theorem index_at1 (a0 a1 a2 a3 a4 a5 a6 a7 a8 a9 : Int) (w : World) : (Instr.index 75 (.agg #[.int .i64 a0, .int .i64 a1, .int .i64 a2, .int .i64 a3, .int .i64 a4, .int .i64 a5, .int .i64 a6, .int .i64 a7, .int .i64 a8, .int .i64 a9]) (.int .i64 1)).run Try.prog w = .ok (.int .i64 a1) w := by kernel_rfl
theorem index_at2 (a0 a1 a2 a3 a4 a5 a6 a7 a8 a9 : Int) (w : World) : (Instr.index 75 (.agg #[.int .i64 a0, .int .i64 a1, .int .i64 a2, .int .i64 a3, .int .i64 a4, .int .i64 a5, .int .i64 a6, .int .i64 a7, .int .i64 a8, .int .i64 a9]) (.int .i64 2)).run Try.prog w = .ok (.int .i64 a2) w := by kernel_rfl
theorem index_at3 (a0 a1 a2 a3 a4 a5 a6 a7 a8 a9 : Int) (w : World) : (Instr.index 75 (.agg #[.int .i64 a0, .int .i64 a1, .int .i64 a2, .int .i64 a3, .int .i64 a4, .int .i64 a5, .int .i64 a6, .int .i64 a7, .int .i64 a8, .int .i64 a9]) (.int .i64 3)).run Try.prog w = .ok (.int .i64 a3) w := by kernel_rfl
theorem index_at4 (a0 a1 a2 a3 a4 a5 a6 a7 a8 a9 : Int) (w : World) : (Instr.index 75 (.agg #[.int .i64 a0, .int .i64 a1, .int .i64 a2, .int .i64 a3, .int .i64 a4, .int .i64 a5, .int .i64 a6, .int .i64 a7, .int .i64 a8, .int .i64 a9]) (.int .i64 4)).run Try.prog w = .ok (.int .i64 a4) w := by kernel_rfl
theorem index_at5 (a0 a1 a2 a3 a4 a5 a6 a7 a8 a9 : Int) (w : World) : (Instr.index 75 (.agg #[.int .i64 a0, .int .i64 a1, .int .i64 a2, .int .i64 a3, .int .i64 a4, .int .i64 a5, .int .i64 a6, .int .i64 a7, .int .i64 a8, .int .i64 a9]) (.int .i64 5)).run Try.prog w = .ok (.int .i64 a5) w := by kernel_rfl
theorem index_at6 (a0 a1 a2 a3 a4 a5 a6 a7 a8 a9 : Int) (w : World) : (Instr.index 75 (.agg #[.int .i64 a0, .int .i64 a1, .int .i64 a2, .int .i64 a3, .int .i64 a4, .int .i64 a5, .int .i64 a6, .int .i64 a7, .int .i64 a8, .int .i64 a9]) (.int .i64 6)).run Try.prog w = .ok (.int .i64 a6) w := by kernel_rfl
theorem index_at7 (a0 a1 a2 a3 a4 a5 a6 a7 a8 a9 : Int) (w : World) : (Instr.index 75 (.agg #[.int .i64 a0, .int .i64 a1, .int .i64 a2, .int .i64 a3, .int .i64 a4, .int .i64 a5, .int .i64 a6, .int .i64 a7, .int .i64 a8, .int .i64 a9]) (.int .i64 7)).run Try.prog w = .ok (.int .i64 a7) w := by kernel_rfl
theorem index_at8 (a0 a1 a2 a3 a4 a5 a6 a7 a8 a9 : Int) (w : World) : (Instr.index 75 (.agg #[.int .i64 a0, .int .i64 a1, .int .i64 a2, .int .i64 a3, .int .i64 a4, .int .i64 a5, .int .i64 a6, .int .i64 a7, .int .i64 a8, .int .i64 a9]) (.int .i64 8)).run Try.prog w = .ok (.int .i64 a8) w := by kernel_rfl
theorem index_at9 (a0 a1 a2 a3 a4 a5 a6 a7 a8 a9 : Int) (w : World) : (Instr.index 75 (.agg #[.int .i64 a0, .int .i64 a1, .int .i64 a2, .int .i64 a3, .int .i64 a4, .int .i64 a5, .int .i64 a6, .int .i64 a7, .int .i64 a8, .int .i64 a9]) (.int .i64 9)).run Try.prog w = .ok (.int .i64 a9) w := by kernel_rfl
theorem index_encN (l : List Nat) (hl : l.length = 10) (j : Nat) (hj : j < 10) (w : World) : (Instr.index 75 (.agg (encN l)) (.int .i64 (j : Int))).run Try.prog w = .ok (.int .i64 ((gN l j : Nat) : Int)) w := by
  have h1 : j = 0 ∨ j = 1 ∨ j = 2 ∨ j = 3 ∨ j = 4 ∨ j = 5 ∨ j = 6 ∨ j = 7 ∨ j = 8 ∨ j = 9 := by omega
  match l, hl with
  | [a0, a1, a2, a3, a4, a5, a6, a7, a8, a9], _ =>
    rcases h1 with rfl | rfl | rfl | rfl | rfl | rfl | rfl | rfl | rfl | rfl
    · exact index_at0 (a0 : Int) (a1 : Int) (a2 : Int) (a3 : Int) (a4 : Int) (a5 : Int) (a6 : Int) (a7 : Int) (a8 : Int) (a9 : Int) w
    · exact index_at1 (a0 : Int) (a1 : Int) (a2 : Int) (a3 : Int) (a4 : Int) (a5 : Int) (a6 : Int) (a7 : Int) (a8 : Int) (a9 : Int) w
    · exact index_at2 (a0 : Int) (a1 : Int) (a2 : Int) (a3 : Int) (a4 : Int) (a5 : Int) (a6 : Int) (a7 : Int) (a8 : Int) (a9 : Int) w
    · exact index_at3 (a0 : Int) (a1 : Int) (a2 : Int) (a3 : Int) (a4 : Int) (a5 : Int) (a6 : Int) (a7 : Int) (a8 : Int) (a9 : Int) w
    · exact index_at4 (a0 : Int) (a1 : Int) (a2 : Int) (a3 : Int) (a4 : Int) (a5 : Int) (a6 : Int) (a7 : Int) (a8 : Int) (a9 : Int) w
    · exact index_at5 (a0 : Int) (a1 : Int) (a2 : Int) (a3 : Int) (a4 : Int) (a5 : Int) (a6 : Int) (a7 : Int) (a8 : Int) (a9 : Int) w
    · exact index_at6 (a0 : Int) (a1 : Int) (a2 : Int) (a3 : Int) (a4 : Int) (a5 : Int) (a6 : Int) (a7 : Int) (a8 : Int) (a9 : Int) w
    · exact index_at7 (a0 : Int) (a1 : Int) (a2 : Int) (a3 : Int) (a4 : Int) (a5 : Int) (a6 : Int) (a7 : Int) (a8 : Int) (a9 : Int) w
    · exact index_at8 (a0 : Int) (a1 : Int) (a2 : Int) (a3 : Int) (a4 : Int) (a5 : Int) (a6 : Int) (a7 : Int) (a8 : Int) (a9 : Int) w
    · exact index_at9 (a0 : Int) (a1 : Int) (a2 : Int) (a3 : Int) (a4 : Int) (a5 : Int) (a6 : Int) (a7 : Int) (a8 : Int) (a9 : Int) w
/-! Sums over numbers below a number. -/
def sumF (f : Nat → Nat) : Nat → Nat
  | 0 => 0
  | n + 1 => sumF f n + f n
theorem sumF_congr {f g : Nat → Nat} {n : Nat} (h : ∀ i, i < n → f i = g i) : sumF f n = sumF g n := by
  induction n with
  | zero => rfl
  | succ n ih => unfold sumF; rw [ih (fun i hi => h i (by omega)), h n (by omega)]
theorem sumF_zero {f : Nat → Nat} {n : Nat} (h : ∀ i, i < n → f i = 0) : sumF f n = 0 := by
  induction n with
  | zero => rfl
  | succ n ih => unfold sumF; rw [ih (fun i hi => h i (by omega)), h n (by omega)]
theorem sumF_add (f g : Nat → Nat) (n : Nat) : sumF (fun i => f i + g i) n = sumF f n + sumF g n := by
  induction n with
  | zero => rfl
  | succ n ih => unfold sumF; rw [ih]; omega
theorem sumF_swap (f : Nat → Nat → Nat) (n m : Nat) : sumF (fun i => sumF (fun j => f i j) m) n = sumF (fun j => sumF (fun i => f i j) n) m := by
  induction n with
  | zero => exact (sumF_zero (fun _ _ => rfl)).symm
  | succ n ih =>
    show sumF (fun i => sumF (fun j => f i j) m) n + sumF (fun j => f n j) m = _
    rw [ih, ← sumF_add]
    rfl
theorem sumF_pos {f : Nat → Nat} {n : Nat} (h : sumF f n ≠ 0) : ∃ i, i < n ∧ f i ≠ 0 := by
  induction n with
  | zero => exact absurd rfl h
  | succ n ih =>
    by_cases h1 : f n = 0
    · have h2 : sumF f n ≠ 0 := by
        intro h3
        apply h
        unfold sumF
        omega
      obtain ⟨i, hi, hf⟩ := ih h2
      exact ⟨i, by omega, hf⟩
    · exact ⟨n, by omega, h1⟩
theorem sumF_one {f : Nat → Nat} {n k : Nat} (hk : k < n) (h : ∀ i, i < n → i ≠ k → f i = 0) : sumF f n = f k := by
  induction n with
  | zero => omega
  | succ n ih =>
    unfold sumF
    by_cases e : k = n
    · subst e
      rw [sumF_zero (fun i hi => h i (by omega) (by omega)), Nat.zero_add]
    · rw [ih (by omega) (fun i hi hne => h i (by omega) hne), h n (by omega) (by omega), Nat.add_zero]
theorem sumF_if {c : Bool} (f : Nat → Nat) (n : Nat) : (if c = true then sumF f n else 0) = sumF (fun i => if c = true then f i else 0) n := by
  cases c with
  | true => simp
  | false => simp [sumF_zero]
/-! In how many ways digits that a rule allows have a sum. -/
def moveN (w : Nat → Nat) (e t d : Nat) : Nat := sumF (fun c => if tmQ c (tnQ d e) = t then w c else 0) 10
def wT (o : Nat → Nat → Bool) : Nat → Nat → Nat
  | 0, t => if t = 0 then 1 else 0
  | j + 1, t => sumF (fun d => if o j d = true then moveN (wT o j) j t d else 0) 10
theorem moveN_congr {w v : Nat → Nat} (h : ∀ c, c < 10 → w c = v c) (e t d : Nat) : moveN w e t d = moveN v e t d := sumF_congr fun c hc => by rw [h c hc]
theorem moveN_sum (w : Nat → Nat → Nat) (e t d n : Nat) : moveN (fun c => sumF (fun x => w x c) n) e t d = sumF (fun x => moveN (w x) e t d) n := by
  unfold moveN
  rw [sumF_swap]
  refine sumF_congr fun c hc => ?_
  by_cases h : tmQ c (tnQ d e) = t
  · simp only [if_pos h]
  · simp only [if_neg h]
    exact (sumF_zero fun _ _ => rfl).symm
theorem wT_congr {o p : Nat → Nat → Bool} {n : Nat} (h : ∀ j d, j < n → d < 10 → o j d = p j d) (t : Nat) (ht : t < 10) : wT o n t = wT p n t := by
  induction n generalizing t with
  | zero => rfl
  | succ n ih =>
    unfold wT
    refine sumF_congr fun d hd => ?_
    rw [h n d (by omega) hd, moveN_congr (fun c hc => ih (fun j d hj hd => h j d (by omega) hd) c hc)]
def atN (o : Nat → Nat → Bool) (j0 x : Nat) : Nat → Nat → Bool := fun j d => if j = j0 then decide (d = x) else o j d
theorem wT_below (o : Nat → Nat → Bool) (j0 x n t : Nat) (h : n ≤ j0) (ht : t < 10) : wT (atN o j0 x) n t = wT o n t :=
  wT_congr (fun j d hj _ => by unfold atN; rw [if_neg (by omega)]) t ht
theorem wT_split (o : Nat → Nat → Bool) (j0 n t : Nat) (h : ∀ d, d < 10 → o j0 d = true) (hn : j0 < n) (ht : t < 10) : wT o n t = sumF (fun x => wT (atN o j0 x) n t) 10 := by
  induction n generalizing t with
  | zero => omega
  | succ n ih =>
    show sumF (fun d => if o n d = true then moveN (wT o n) n t d else 0) 10 = sumF (fun x => sumF (fun d => if atN o j0 x n d = true then moveN (wT (atN o j0 x) n) n t d else 0) 10) 10
    by_cases e : j0 = n
    · subst e
      refine sumF_congr fun d hd => ?_
      rw [sumF_one (k := d) hd (fun i hi hne => by unfold atN; rw [if_pos rfl, decide_eq_false hne]; rfl)]
      unfold atN
      rw [if_pos (h d hd), if_pos rfl, decide_eq_true rfl, if_pos rfl]
      exact moveN_congr (fun c hc => (wT_below o j0 d j0 c (Nat.le_refl _) hc).symm) _ _ _
    · rw [sumF_swap]
      refine sumF_congr fun d hd => ?_
      have e1 : ∀ x, atN o j0 x n d = o n d := fun x => by unfold atN; rw [if_neg (fun h => e h.symm)]
      simp only [e1]
      rw [← sumF_if, ← moveN_sum]
      rw [moveN_congr (fun c hc => ih c (by omega) hc)]
def cS (x : Nat → Nat) : Nat → Nat
  | 0 => 0
  | j + 1 => tmQ (cS x j) (tnQ (x j) j)
theorem cS_lt {x : Nat → Nat} {n : Nat} (hx : ∀ j, j < n → x j < 10) : cS x n < 10 := by
  induction n with
  | zero => exact Nat.zero_lt_succ 9
  | succ n ih => exact tm_ltQ (ih fun j hj => hx j (by omega)) (tn_ltQ (hx n (by omega)) n)
theorem wT_fixed {o : Nat → Nat → Bool} {x : Nat → Nat} {n : Nat} (hx : ∀ j, j < n → x j < 10) (h : ∀ j d, j < n → d < 10 → o j d = decide (d = x j)) (t : Nat) : wT o n t = if t = cS x n then 1 else 0 := by
  induction n generalizing t with
  | zero => rfl
  | succ n ih =>
    have hc := cS_lt (n := n) fun j hj => hx j (by omega)
    unfold wT
    rw [sumF_one (k := x n) (hx n (by omega)) (fun i hi hne => by rw [h n i (by omega) hi, decide_eq_false hne]; rfl), h n (x n) (by omega) (hx n (by omega)), decide_eq_true rfl, if_pos rfl]
    unfold moveN
    rw [sumF_one (k := cS x n) hc (fun i hi hne => by rw [ih (fun j hj => hx j (by omega)) (fun j d hj hd => h j d (by omega) hd), if_neg hne, ite_self])]
    rw [ih (fun j hj => hx j (by omega)) (fun j d hj hd => h j d (by omega) hd), if_pos rfl]
    show (if tmQ (cS x n) (tnQ (x n) n) = t then 1 else 0) = if t = tmQ (cS x n) (tnQ (x n) n) then 1 else 0
    by_cases e : tmQ (cS x n) (tnQ (x n) n) = t
    · rw [if_pos e, if_pos e.symm]
    · rw [if_neg e, if_neg (fun h => e h.symm)]
theorem one_step : ∀ y t : Fin 10, sumF (fun c => if tmQ c y.val = t.val then 1 else 0) 10 = 1 := by decide +kernel
theorem one_turn : ∀ (j : Fin 6) (c t : Fin 10), sumF (fun d => if tmQ c.val (tnQ d j.val) = t.val then 1 else 0) 10 = 1 := by decide +kernel
theorem wT_hole {o : Nat → Nat → Bool} {x : Nat → Nat} {n j0 : Nat} (hn : n ≤ 6) (hj : j0 < n) (hx : ∀ j, j < n → x j < 10) (h0 : ∀ d, d < 10 → o j0 d = true) (h : ∀ j d, j < n → j ≠ j0 → d < 10 → o j d = decide (d = x j)) (t : Nat) (ht : t < 10) : wT o n t = 1 := by
  induction n generalizing t with
  | zero => omega
  | succ n ih =>
    unfold wT
    by_cases e : j0 = n
    · subst e
      have hc := cS_lt (n := j0) fun j hj => hx j (by omega)
      have hw := fun c => wT_fixed (o := o) (x := x) (n := j0) (fun j hj => hx j (by omega)) (fun j d hj hd => h j d (by omega) (by omega) hd) c
      rw [← one_turn ⟨j0, by omega⟩ ⟨cS x j0, hc⟩ ⟨t, ht⟩]
      refine sumF_congr fun d hd => ?_
      rw [h0 d hd, if_pos rfl]
      unfold moveN
      rw [sumF_one (k := cS x j0) hc (fun i hi hne => by rw [hw, if_neg hne, ite_self]), hw, if_pos rfl]
    · have hw := fun c hc => ih (by omega) (by omega) (fun j hj => hx j (by omega)) (fun j d hj hne hd => h j d (by omega) hne hd) c hc
      rw [sumF_one (k := x n) (hx n (by omega)) (fun i hi hne => by rw [h n i (by omega) (fun q => e q.symm) hi, decide_eq_false hne]; rfl), h n (x n) (by omega) (fun q => e q.symm) (hx n (by omega)), decide_eq_true rfl, if_pos rfl]
      rw [moveN_congr hw]
      exact one_step ⟨tnQ (x n) n, tn_ltQ (hx n (by omega)) n⟩ ⟨t, ht⟩
/-! What the loops of 'sums' find. -/
theorem gN_set (l : List Nat) (k x t : Nat) (hk : k < l.length) : gN (l.set k x) t = if k = t then x else gN l t := by
  unfold gN
  rw [List.getD_eq_getElem?_getD, List.getElem?_set]
  by_cases h : k = t
  · rw [if_pos h, if_pos h, if_pos hk]; rfl
  · rw [if_neg h, if_neg h, List.getD_eq_getElem?_getD]
theorem gN_zeros (t : Nat) : gN (List.replicate 10 0) t = 0 := by
  unfold gN
  rw [List.getD_eq_getElem?_getD, List.getElem?_replicate]
  split <;> rfl
theorem rowC_get (ways next : List Nat) (hn : next.length = 10) (d e t : Nat) (hd : d < 10) (c : Nat) (hc : c ≤ 10) : gN (rowC ways next d e c) t = gN next t + sumF (fun c => if tmQ c (tnQ d e) = t then gN ways c else 0) c := by
  induction c with
  | zero => rfl
  | succ c ih =>
    unfold rowC sumF
    rw [gN_set _ _ _ _ (by rw [rowC_length, hn]; exact tm_ltQ (by omega) (tn_ltQ hd e))]
    have ih := ih (by omega)
    by_cases h : tmQ c (tnQ d e) = t
    · rw [if_pos h, if_pos h, h]
      show gN (rowC ways next d e c) t + gN ways c = _
      omega
    · rw [if_neg h, if_neg h]
      omega
theorem stepD_get (s : ByteArray) (i : Nat) (ways : List Nat) (t D : Nat) (hD : D ≤ 10) : gN (stepD s i ways D) t = sumF (fun d => if okQ s i d = true then moveN (gN ways) (s.size - 1 - i) t d else 0) D := by
  induction D with
  | zero => exact gN_zeros t
  | succ d ih =>
    unfold stepD sumF
    by_cases h : okQ s i d = true
    · rw [if_pos h, if_pos h, rowC_get ways _ (stepD_length s i ways d) d _ t (by omega) 10 (by omega), ih (by omega)]
      rfl
    · rw [if_neg h, if_neg h, ih (by omega)]
      rfl
def oS (s : ByteArray) (j d : Nat) : Bool := okQ s (s.size - 1 - j) d
theorem waysT_get (s : ByteArray) (n t : Nat) (hn : n ≤ s.size) (ht : t < 10) : gN (waysT s n) t = wT (oS s) n t := by
  induction n generalizing t with
  | zero =>
    have h1 : t = 0 ∨ t = 1 ∨ t = 2 ∨ t = 3 ∨ t = 4 ∨ t = 5 ∨ t = 6 ∨ t = 7 ∨ t = 8 ∨ t = 9 := by omega
    rcases h1 with rfl | rfl | rfl | rfl | rfl | rfl | rfl | rfl | rfl | rfl <;> rfl
  | succ n ih =>
    unfold waysT wT
    rw [stepD_get _ _ _ _ _ (by omega), show s.size - 1 - (s.size - 1 - n) = n by omega]
    exact sumF_congr fun d hd => by rw [moveN_congr (fun c hc => ih c (by omega) hc)]; rfl
/-! What the loops of 'counted' find. -/
def colD (o : Nat → Bool) (ways next : List Nat) (s e : Nat) : Nat → List Nat
  | 0 => next
  | d + 1 => if o d = true then (colD o ways next s e d).set (tmQ s (tnQ d e)) (gN (colD o ways next s e d) (tmQ s (tnQ d e)) + gN ways s) else colD o ways next s e d
def stepS (o : Nat → Bool) (ways : List Nat) (e : Nat) : Nat → List Nat
  | 0 => List.replicate 10 0
  | s + 1 => colD o ways (stepS o ways e s) s e 10
def okL (l : List Int) (j d : Nat) : Bool := rd l (5 - j : Int) == (d : Int) || decide (rd l (5 - j : Int) < 0)
def cntT (l : List Int) : Nat → List Nat
  | 0 => [1, 0, 0, 0, 0, 0, 0, 0, 0, 0]
  | j + 1 => stepS (okL l j) (cntT l j) j 10
theorem colD_length (o : Nat → Bool) (ways next : List Nat) (s e d : Nat) : (colD o ways next s e d).length = next.length := by
  induction d with
  | zero => rfl
  | succ d ih =>
    unfold colD
    split
    · rw [List.length_set, ih]
    · exact ih
theorem stepS_length (o : Nat → Bool) (ways : List Nat) (e s : Nat) : (stepS o ways e s).length = 10 := by
  induction s with
  | zero => rfl
  | succ s ih => unfold stepS; rw [colD_length, ih]
theorem cntT_length (l : List Int) (j : Nat) : (cntT l j).length = 10 := by
  cases j with
  | zero => rfl
  | succ j => exact stepS_length _ _ _ _
theorem colD_cap (o : Nat → Bool) {ways next : List Nat} {M B : Nat} (hw : Cap ways M) (hn : Cap next B) (s e d : Nat) : Cap (colD o ways next s e d) (B + d * M) := by
  induction d with
  | zero => simpa [colD] using hn
  | succ d ih =>
    unfold colD
    have e1 : B + (d + 1) * M = (B + d * M) + M := by rw [Nat.add_mul]; omega
    rw [e1]
    split
    · exact (ih.mono (Nat.le_add_right _ _)).set (Nat.add_le_add (ih _) (hw _)) _
    · exact ih.mono (Nat.le_add_right _ _)
theorem stepS_cap (o : Nat → Bool) {ways : List Nat} {M : Nat} (hw : Cap ways M) (e s : Nat) : Cap (stepS o ways e s) (s * (10 * M)) := by
  induction s with
  | zero =>
    intro j
    exact Nat.le_of_eq (by rw [Nat.zero_mul]; exact gN_zeros j)
  | succ s ih =>
    unfold stepS
    rw [Nat.add_mul, Nat.one_mul]
    exact colD_cap o hw ih s e 10
theorem cntT_cap (l : List Int) (j : Nat) : Cap (cntT l j) (100 ^ j) := by
  induction j with
  | zero => exact waysT_cap ⟨#[]⟩ 0
  | succ j ih =>
    unfold cntT
    have := stepS_cap (okL l j) ih j 10
    rw [Nat.pow_succ]
    exact this.mono (by omega)
theorem colD_get (o : Nat → Bool) (ways next : List Nat) (hn : next.length = 10) (s e t : Nat) (hs : s < 10) (D : Nat) (hD : D ≤ 10) : gN (colD o ways next s e D) t = gN next t + sumF (fun d => if o d = true then (if tmQ s (tnQ d e) = t then gN ways s else 0) else 0) D := by
  induction D with
  | zero => rfl
  | succ d ih =>
    unfold colD sumF
    have ih := ih (by omega)
    by_cases ho : o d = true
    · rw [if_pos ho, if_pos ho]
      rw [gN_set _ _ _ _ (by rw [colD_length, hn]; exact tm_ltQ hs (tn_ltQ (by omega) e))]
      by_cases h : tmQ s (tnQ d e) = t
      · rw [if_pos h, if_pos h, h]
        omega
      · rw [if_neg h, if_neg h]
        omega
    · rw [if_neg ho, if_neg ho]
      omega
theorem stepS_get (o : Nat → Bool) (ways : List Nat) (e t S : Nat) (hS : S ≤ 10) : gN (stepS o ways e S) t = sumF (fun s => sumF (fun d => if o d = true then (if tmQ s (tnQ d e) = t then gN ways s else 0) else 0) 10) S := by
  induction S with
  | zero => exact gN_zeros t
  | succ s ih =>
    unfold stepS sumF
    rw [colD_get o ways _ (stepS_length o ways e s) s e t (by omega) 10 (by omega), ih (by omega)]
theorem cntT_get (l : List Int) (n t : Nat) (hn : n ≤ 6) (ht : t < 10) : gN (cntT l n) t = wT (okL l) n t := by
  induction n generalizing t with
  | zero => exact waysT_get ⟨#[]⟩ 0 t (Nat.le_refl _) ht
  | succ n ih =>
    unfold cntT wT
    rw [stepS_get _ _ _ _ _ (by omega), sumF_swap]
    refine sumF_congr fun d hd => ?_
    rw [← sumF_if, ← moveN_congr (fun c hc => ih c (by omega) hc)]
    rfl
def zero10 : Array Value := encN [0, 0, 0, 0, 0, 0, 0, 0, 0, 0]
theorem sums_info75 : (Try.prog.info? 75).map (·.size) = some 10 := by kernel_rfl
structure SumsAt (w : World) (s : ByteArray) (ways : List Nat) (w' : World) : Prop where
  res : w'.heap[w.heap.size]? = some (.cells zero10 75 (0, 0))
  way : w'.heap[w.heap.size + 1]? = some (.cells (encN ways) 75 (0, 0))
  bel : Below w.heap.size w w'
theorem SumsAt.lt {w w' : World} {s : ByteArray} {ways : List Nat} (h : SumsAt w s ways w') : w.heap.size + 1 < w'.heap.size := (Array.getElem?_eq_some_iff.1 h.way).1
theorem SumsAt.alloc {w w' : World} {s : ByteArray} {ways : List Nat} (h : SumsAt w s ways w') (o : Obj) : SumsAt w s ways (w'.alloc o) := by
  have hl := h.lt
  refine ⟨?_, ?_, h.bel.alloc (by omega) o⟩
  · rw [show (w'.alloc o).heap[w.heap.size]? = w'.heap[w.heap.size]? by first | exact Go.heap_alloc_old w' o _ (by omega) | exact Go.heap_alloc_old w' o (by omega)]
    exact h.res
  · rw [show (w'.alloc o).heap[w.heap.size + 1]? = w'.heap[w.heap.size + 1]? by first | exact Go.heap_alloc_old w' o _ (by omega) | exact Go.heap_alloc_old w' o (by omega)]
    exact h.way
theorem SumsAt.way2 {w w' : World} {s : ByteArray} {ways : List Nat} (h : SumsAt w s ways w') (wn : List Nat) : SumsAt w s wn (w'.setRow (w.heap.size + 1) (encN wn)) := by
  refine ⟨?_, ?_, below_setRow h.bel (by omega) _⟩
  · rw [setRow_other _ _ _ _ (by omega)]
    exact h.res
  · exact setRow_heap _ _ _ _ _ _ h.way
theorem SumsAt.fin {w w' : World} {s : ByteArray} {ways : List Nat} (h : SumsAt w s ways w') (wn : List Nat) : (w'.setRow w.heap.size (encN wn)).heap[w.heap.size]? = some (.cells (encN wn) 75 (0, 0)) ∧ Below w.heap.size w (w'.setRow w.heap.size (encN wn)) :=
  ⟨setRow_heap _ _ _ _ _ _ h.res, below_setRow h.bel (by omega) _⟩
structure NextAt (w w0 : World) (s : ByteArray) (ways next : List Nat) (w' : World) : Prop where
  old : SumsAt w s ways w'
  nxt : w'.heap[w0.heap.size]? = some (.cells (encN next) 75 (0, 0))
  far : w.heap.size + 1 < w0.heap.size
theorem NextAt.drew {w w0 w' : World} {s : ByteArray} {ways next : List Nat} (h : NextAt w w0 s ways next w') (m : Nat) : NextAt w w0 s ways next (w'.drewN m) := ⟨⟨h.old.res, h.old.way, pw_below_drewN h.old.bel m⟩, h.nxt, h.far⟩
theorem NextAt.store {w w0 w' : World} {s : ByteArray} {ways next : List Nat} (h : NextAt w w0 s ways next w') (j x : Nat) : NextAt w w0 s ways (next.set j x) (w'.setCell ⟨w0.heap.size, j, none⟩ (.int .i64 (x : Int))) := by
  have hl := h.far
  refine ⟨⟨?_, ?_, h.old.bel.setCell (by show w.heap.size ≤ w0.heap.size; omega) _⟩, ?_, h.far⟩
  · rw [heap_setCell_other w' _ _ _ (show w.heap.size ≠ w0.heap.size by omega)]
    exact h.old.res
  · rw [heap_setCell_other w' _ _ _ (show w.heap.size + 1 ≠ w0.heap.size by omega)]
    exact h.old.way
  · rw [heap_setCell_same w' _ j _ _ _ h.nxt, encN_set]
theorem NextAt.cell {w w0 w' : World} {s : ByteArray} {ways next : List Nat} (h : NextAt w w0 s ways next w') (j : Nat) (hj : j < next.length) : w'.cell? ⟨w0.heap.size, j, none⟩ = some (.int .i64 ((gN next j : Nat) : Int)) := by
  rw [cell_of_row w' _ j _ _ _ h.nxt]
  exact encN_get next j hj
theorem NextAt.free {w w0 w' : World} {s : ByteArray} {ways next : List Nat} (h : NextAt w w0 s ways next w') (j : Nat) : w'.frozen? ⟨w0.heap.size, j, none⟩ = false := frozen_of_row w' _ j _ _ h.nxt
theorem new_cells (w : World) (o : Obj) : (w.alloc o).heap[w.heap.size]? = some o := by
  show (w.heap.push o)[w.heap.size]? = some o
  simp
set_option maxHeartbeats 8000000 in
set_option maxRecDepth 100000 in
theorem ring_sums.walk (s : ByteArray) (n : Nat) (w : World) (hn : n ≤ s.size) (hs : s.size ≤ 1000) (hd : s.size - n ≤ 6) :
    Calls Try.prog 80 #[.string s, .int .i64 n] w fun e w' => e = .returned (.agg (encN (waysT s (s.size - n)))) ∧ Below w.heap.size w w' := by
  generalize hout : encN (waysT s (s.size - n)) = out
  have Hout := Lib.hid hout
  clear hout
  go_enter Try.func80, Try.ntmps80
  go_wp2
  have HS0 := Lib.hid (show SumsAt w s (waysT s 0) ((w.alloc (.cells #[.int .i64 0, .int .i64 0, .int .i64 0, .int .i64 0, .int .i64 0, .int .i64 0, .int .i64 0, .int .i64 0, .int .i64 0, .int .i64 0] 75)).alloc (.cells #[.int .i64 1, .int .i64 0, .int .i64 0, .int .i64 0, .int .i64 0, .int .i64 0, .int .i64 0, .int .i64 0, .int .i64 0, .int .i64 0] 75)) from ⟨heap_alloc2_old _ _ _, heap_alloc2_new _ _ _, ((Below.refl _ _).alloc (Nat.le_refl _) _).alloc (by simp) _⟩)
  generalize ((w.alloc (.cells #[.int .i64 0, .int .i64 0, .int .i64 0, .int .i64 0, .int .i64 0, .int .i64 0, .int .i64 0, .int .i64 0, .int .i64 0, .int .i64 0] 75)).alloc (.cells #[.int .i64 1, .int .i64 0, .int .i64 0, .int .i64 0, .int .i64 0, .int .i64 0, .int .i64 0, .int .i64 0, .int .i64 0, .int .i64 0] 75)) = W0 at *
  go_loopw [6] (fun v w' => ∃ j : Nat, j ≤ s.size - n ∧ v = .int .i64 ((s.size : Int) - 1 - j) ∧ SumsAt w s (waysT s j) w') (fun v _ => (intOf v + 1 - n).toNat)
  case atStart => exact ⟨0, by omega, by simp, HS0.out⟩
  case round =>
    obtain ⟨j, hj, rfl, hS⟩ := hrel
    have HS := Lib.hid hS
    clear hS
    by_cases hlt : j < s.size - n
    · obtain ⟨i, hi⟩ : ∃ i : Nat, (i : Int) = (s.size : Int) - 1 - j := ⟨s.size - 1 - j, by omega⟩
      have Hi := Lib.hid hi
      have hi1 : i < s.size := by omega
      have hi2 : n ≤ i := by omega
      rw [← hi]
      clear hi
      go_wp2
      have HN0 := Lib.hid (show NextAt w wr s (waysT s j) (stepD s i (waysT s j) 0) (wr.alloc (.cells #[.int .i64 0, .int .i64 0, .int .i64 0, .int .i64 0, .int .i64 0, .int .i64 0, .int .i64 0, .int .i64 0, .int .i64 0, .int .i64 0] 75)) from ⟨HS.out.alloc _, new_cells _ _, HS.out.lt⟩)
      generalize wr.alloc (.cells #[.int .i64 0, .int .i64 0, .int .i64 0, .int .i64 0, .int .i64 0, .int .i64 0, .int .i64 0, .int .i64 0, .int .i64 0, .int .i64 0] 75) = W1 at *
      have HL := Lib.hid (waysT_length s j)
      have HC := Lib.hid ((waysT_cap s j).mono (pow_six (show j ≤ 6 by omega)))
      have HJ := Lib.hid (show waysT s (j + 1) = stepD s i (waysT s j) 10 by show stepD s (s.size - 1 - j) (waysT s j) 10 = _; rw [show s.size - 1 - j = i by have := Hi.out; omega])
      have HB := Lib.hid (bt_of hi1)
      obtain ⟨wo, ewo⟩ : ∃ wo : World, wo = wr := ⟨_, rfl⟩
      subst ewo
      generalize waysT s j = ways at *
      go_loopw [20] (fun v w' => ∃ d : Nat, d ≤ 10 ∧ v = .int .i64 (d : Int) ∧ NextAt w wo s ways (stepD s i ways d) w') (fun v _ => (10 - intOf v).toNat)
      case atStart => exact ⟨0, by omega, rfl, HN0.out⟩
      case round =>
        obtain ⟨d, hd10, rfl, hN⟩ := hrel
        have HN := Lib.hid hN
        clear hN
        by_cases hdl : d < 10
        · by_cases hok : okQ s i d = true
          · obtain ⟨c, hc⟩ : ∃ c : Nat, c = (s[i]'hi1).toNat := ⟨_, rfl⟩
            rw [← hc] at HB
            have hcase : ((c : Int) = 63) ∨ (¬ (c : Int) = 63 ∧ (c : Int) = 48 + (d : Int)) := by
              unfold okQ at hok
              rw [HB.out] at hok
              simp at hok
              omega
            have Hc := Lib.hid hc.symm
            clear hc
            have Hst := Lib.hid (show stepD s i ways (d + 1) = rowC ways (stepD s i ways d) d (s.size - 1 - i) 10 by show (if _ then _ else _) = _; rw [if_pos hok])
            have HLn := Lib.hid (stepD_length s i ways d)
            have HCn := Lib.hid (((stepD_cap s i HC.out d).mono (show d * (10 * 1000000000000) ≤ 100000000000000 by omega)))
            have HI75 := Lib.hid (show (Try.prog.info? 75).map (·.size) = some (encN ways).size by rw [encN_size, HL.out]; exact sums_info75)
            obtain ⟨e, he⟩ : ∃ e : Nat, e = s.size - 1 - i := ⟨_, rfl⟩
            rw [← he] at Hst
            have he1 : (e : Int) = (s.size : Int) - 1 - i := by omega
            have he2 : e ≤ 1000 := by omega
            have He := Lib.hid he1
            clear he he1 hok
            generalize stepD s i ways d = nxt at *
            rcases hcase with hc1 | ⟨hc1, hc2⟩
            · have q1 : ((c : Int) != 63) = false := by simp [hc1]
              have q0 : (((s[i]'hi1).toNat : Int) != 63) = false := by rw [Hc.out]; exact q1
              clear hc1
              go_wp2_with (refine wpList_load_row rfl 75 (.tmp 5) rfl (w.heap.size + 1) rfl 75 (encN ways) (0, 0) _ HN.out.old.way Try.underlying75 rfl HI75.out ?_)
              have HX := Lib.hid (fun (c : Nat) (hc : c < 10) (w : World) => index_encN ways HL.out c hc w)
              go_loopw [37] (fun v w' => ∃ c : Nat, c ≤ 10 ∧ v = .int .i64 (c : Int) ∧ NextAt w wo s ways (rowC ways nxt d e c) w') (fun v _ => (10 - intOf v).toNat)
              case atStart => exact ⟨0, by omega, rfl, HN.out⟩
              case round =>
                obtain ⟨k, hk10, rfl, hM⟩ := hrel
                have HM := Lib.hid hM
                clear hM
                by_cases hkl : k < 10
                · have hix := HX.out k hkl wr
                  have hkM : gN ways k ≤ 1000000000000 := HC.out k
                  have htl := tm_ltQ hkl (tn_ltQ hdl e)
                  have hcell := HM.out.cell (tmQ k (tnQ d e)) (by rw [rowC_length, HLn.out]; exact htl)
                  have hfree := HM.out.free (tmQ k (tnQ d e))
                  have htM : gN (rowC ways nxt d e k) (tmQ k (tnQ d e)) ≤ 200000000000000 := Nat.le_trans (rowC_cap HC.out HCn.out d e k _) (by omega)
                  have Hset := Lib.hid (show rowC ways nxt d e (k + 1) = (rowC ways nxt d e k).set (tmQ k (tnQ d e)) (gN (rowC ways nxt d e k) (tmQ k (tnQ d e)) + gN ways k) from rfl)
                  generalize rowC ways nxt d e k = rk at *
                  generalize gN ways k = q at *
                  generalize gN rk (tmQ k (tnQ d e)) = p at *
                  go_wp2_with (first | (go_at_call 67; go_must (with_reducible refine (turnedQm (x := d) hdl e he2 _ He.out _).mono ?_); rintro _ _ ⟨rfl, ⟨nd, rfl⟩⟩) | (go_at_call 57; go_must (with_reducible refine (timesQ (x := k) hkl (tn_ltQ hdl e) _).mono ?_); rintro _ _ ⟨rfl, ⟨nd2, rfl⟩⟩))
                  refine ⟨⟨k + 1, by omega, by go_num, ?_⟩, by simp [intOf]; omega⟩
                  rw [Hset.out]
                  have hz := ((HM.out.drew nd).drew nd2).store (tmQ k (tnQ d e)) (p + q)
                  simpa using hz
                · go_wp2
                  refine ⟨⟨d + 1, by omega, by go_num, ?_⟩, by simp [intOf]; omega⟩
                  rw [Hst.out]
                  have hk : k = 10 := by omega
                  subst hk
                  exact HM.out
            · have q1 : ((c : Int) != 63) = true := by simp [hc1]
              have q2 : ((c : Int) != 48 + (d : Int)) = false := by simp [hc2]
              have q0 : (((s[i]'hi1).toNat : Int) != 63) = true := by rw [Hc.out]; exact q1
              have q3 : (((s[i]'hi1).toNat : Int) != 48 + (d : Int)) = false := by rw [Hc.out]; exact q2
              clear hc1 hc2
              go_wp2_with (refine wpList_load_row rfl 75 (.tmp 5) rfl (w.heap.size + 1) rfl 75 (encN ways) (0, 0) _ HN.out.old.way Try.underlying75 rfl HI75.out ?_)
              have HX := Lib.hid (fun (c : Nat) (hc : c < 10) (w : World) => index_encN ways HL.out c hc w)
              go_loopw [37] (fun v w' => ∃ c : Nat, c ≤ 10 ∧ v = .int .i64 (c : Int) ∧ NextAt w wo s ways (rowC ways nxt d e c) w') (fun v _ => (10 - intOf v).toNat)
              case atStart => exact ⟨0, by omega, rfl, HN.out⟩
              case round =>
                obtain ⟨k, hk10, rfl, hM⟩ := hrel
                have HM := Lib.hid hM
                clear hM
                by_cases hkl : k < 10
                · have hix := HX.out k hkl wr
                  have hkM : gN ways k ≤ 1000000000000 := HC.out k
                  have htl := tm_ltQ hkl (tn_ltQ hdl e)
                  have hcell := HM.out.cell (tmQ k (tnQ d e)) (by rw [rowC_length, HLn.out]; exact htl)
                  have hfree := HM.out.free (tmQ k (tnQ d e))
                  have htM : gN (rowC ways nxt d e k) (tmQ k (tnQ d e)) ≤ 200000000000000 := Nat.le_trans (rowC_cap HC.out HCn.out d e k _) (by omega)
                  have Hset := Lib.hid (show rowC ways nxt d e (k + 1) = (rowC ways nxt d e k).set (tmQ k (tnQ d e)) (gN (rowC ways nxt d e k) (tmQ k (tnQ d e)) + gN ways k) from rfl)
                  generalize rowC ways nxt d e k = rk at *
                  generalize gN ways k = q at *
                  generalize gN rk (tmQ k (tnQ d e)) = p at *
                  go_wp2_with (first | (go_at_call 67; go_must (with_reducible refine (turnedQm (x := d) hdl e he2 _ He.out _).mono ?_); rintro _ _ ⟨rfl, ⟨nd, rfl⟩⟩) | (go_at_call 57; go_must (with_reducible refine (timesQ (x := k) hkl (tn_ltQ hdl e) _).mono ?_); rintro _ _ ⟨rfl, ⟨nd2, rfl⟩⟩))
                  refine ⟨⟨k + 1, by omega, by go_num, ?_⟩, by simp [intOf]; omega⟩
                  rw [Hset.out]
                  have hz := ((HM.out.drew nd).drew nd2).store (tmQ k (tnQ d e)) (p + q)
                  simpa using hz
                · go_wp2
                  refine ⟨⟨d + 1, by omega, by go_num, ?_⟩, by simp [intOf]; omega⟩
                  rw [Hst.out]
                  have hk : k = 10 := by omega
                  subst hk
                  exact HM.out
          · obtain ⟨c, hc⟩ : ∃ c : Nat, c = (s[i]'hi1).toNat := ⟨_, rfl⟩
            rw [← hc] at HB
            have hn63 : ¬ ((c : Int) = 63) ∧ ¬ (c : Int) = 48 + (d : Int) := by
              unfold okQ at hok
              rw [HB.out] at hok
              simp at hok
              omega
            have q1 : (((s[i]'hi1).toNat : Int) != 63) = true := by rw [← hc]; simp; omega
            have q2 : (((s[i]'hi1).toNat : Int) != 48 + (d : Int)) = true := by rw [← hc]; simp; omega
            have Hst := Lib.hid (show stepD s i ways (d + 1) = stepD s i ways d by show (if _ then _ else _) = _; rw [if_neg hok])
            have Hc := Lib.hid hc
            clear hok hc hn63
            go_wp2
            exact ⟨⟨d + 1, by omega, by go_num, by rw [Hst.out]; exact HN.out⟩, by simp [intOf]; omega⟩
        · have hd : d = 10 := by omega
          subst hd
          rw [← HJ.out] at HN
          have HL2 := Lib.hid (waysT_length s (j + 1))
          obtain ⟨wn, hwn⟩ : ∃ wn, wn = waysT s (j + 1) := ⟨_, rfl⟩
          rw [← hwn] at HN HL2
          have Hwn := Lib.hid hwn
          clear hwn
          have HI1 := Lib.hid (show (Try.prog.info? 75).map (·.size) = some (encN wn).size by rw [encN_size, HL2.out]; exact sums_info75)
          have HE1 := Lib.hid (show (encN ways).size = (encN wn).size by rw [encN_size, encN_size, HL.out, HL2.out])
          go_wp2_with (first | (refine wpList_load_row rfl 75 (.tmp 7) rfl wo.heap.size rfl 75 (encN wn) (0, 0) _ HN.out.nxt Try.underlying75 rfl HI1.out ?_) | (refine wpList_store_row rfl 75 (.tmp 5) (.tmp 57) rfl (w.heap.size + 1) (encN wn) rfl rfl 75 (encN ways) HN.out.old.way HI1.out HE1.out (encN_one wn) ?_))
          refine ⟨⟨j + 1, by omega, by have := Hi.out; go_num, by rw [← Hwn.out]; exact HN.out.old.way2 wn⟩, by have := Hi.out; simp [intOf]; omega⟩
    · have hjj : j = s.size - n := by omega
      subst hjj
      have HL := Lib.hid (waysT_length s (s.size - n))
      generalize waysT s (s.size - n) = ways at *
      have HI1 := Lib.hid (show (Try.prog.info? 75).map (·.size) = some (encN ways).size by rw [encN_size, HL.out]; exact sums_info75)
      have HE1 := Lib.hid (show zero10.size = (encN ways).size by rw [encN_size, HL.out]; rfl)
      go_wp2_with (first | (refine wpList_load_row rfl 75 (.tmp 5) rfl (w.heap.size + 1) rfl 75 (encN ways) (0, 0) _ HS.out.way Try.underlying75 rfl HI1.out ?_) | (refine wpList_store_row rfl 75 (.tmp 4) (.tmp 58) rfl w.heap.size (encN ways) rfl rfl 75 zero10 HS.out.res HI1.out HE1.out (encN_one ways) ?_))
      rw [← Hout.out]
      refine bodyPost_ret (results_cell_row rfl _ _ w.heap.size 75 (encN ways) (0, 0) _ rfl (HS.out.fin ways).1 Try.underlying75 rfl HI1.out) rfl ⟨rfl, (HS.out.fin ways).2⟩
def ring_sums.f (a0 : ByteArray) (a1 : Int) : Option (List Nat) := if 0 ≤ a1 ∧ a1 ≤ a0.size ∧ a0.size ≤ 1000 ∧ a0.size - a1.toNat ≤ 6 then some (waysT a0 (a0.size - a1.toNat)) else none
theorem ring_sums.calls (a0 : ByteArray) (a1 : Int) (r : List Nat) (w : World) (h : ring_sums.f a0 a1 = some r) :
    Calls Try.prog 80 #[.string a0, .int .i64 a1] w fun e w' => e = .returned (.agg (encN r)) ∧ Below w.heap.size w w' := by
  unfold ring_sums.f at h
  split at h
  · rename_i hc
    obtain ⟨h1, h2, h3, h4⟩ := hc
    obtain rfl := Option.some.inj h
    obtain ⟨n, rfl⟩ := Int.eq_ofNat_of_zero_le h1
    exact ring_sums.walk a0 n w (by omega) h3 (by simpa using h4)
  · exact absurd h (by simp)

/-! ### ring_Count: function 40 -/
-- GIVEN wigeon/ring.Count rounds=0 making=1
-- IMPORT Derived.Laws.RangeAny Derived.Laws.Runes Derived.Lib.Hide Derived.Lib.OthersKept Derived.Laws.CopyOwn Derived.Deep.DeepMust Derived.Deep.RegionWith Derived.IntWalk Derived.Laws.Tables
/-! How many rings fit a worn one. -/
def mulQ (s : ByteArray) (n : Nat) : Nat → Nat
  | 0 => n
  | k + 1 => if bt s (k : Int) = 63 then mulQ s n k * 26 else mulQ s n k
theorem mulQ_le (s : ByteArray) (n k : Nat) : mulQ s n k ≤ n * 26 ^ k := by
  induction k with
  | zero => simp [mulQ]
  | succ k ih =>
    unfold mulQ
    rw [Nat.pow_succ, ← Nat.mul_assoc]
    split
    · exact Nat.mul_le_mul_right 26 ih
    · omega
theorem mulQ_zero (s : ByteArray) (n k : Nat) : mulQ s n k = 0 ↔ n = 0 := by
  induction k with
  | zero => exact Iff.rfl
  | succ k ih =>
    unfold mulQ
    split
    · rw [← ih]; omega
    · exact ih
theorem mulQ_small {s : ByteArray} {n k : Nat} (hn : n ≤ 1000000000000) (hk : k ≤ 2) : mulQ s n k ≤ 676000000000000 := by
  have h := mulQ_le s n k
  have h2 : 26 ^ k ≤ 26 ^ 2 := Nat.pow_le_pow_right (by decide) hk
  have h3 := Nat.mul_le_mul hn h2
  have e : 1000000000000 * 26 ^ 2 = 676000000000000 := by decide
  omega
def countP (s : ByteArray) : Int × Int := if (formP s true).2 = true then ((mulQ s (gN (waysT s 6) 0) (s.size - 6) : Nat), 0) else (0, 2)
def CountPost (w : World) (n b : Int) (e : Ending) (w' : World) : Prop := e = .returned (.tuple #[.int .i64 n, .int .i64 b]) ∧ Below w.heap.size w w'
theorem wornD_ascii {s : ByteArray} {n : Nat} (hn : n ≤ s.size) (h : ∀ i, i < s.size → okb true (s.size - 6) i (bt s i) = true) : ∀ i (h : i < (s.extract 0 n).size), ((s.extract 0 n)[i]'h).toNat < 128 := by
  intro i hi
  have hsz : (s.extract 0 n).size = n := by simp; omega
  have h1 := h i (by omega)
  have e : (s.extract 0 n)[i]'hi = s[i]'(by omega) := by simp [ByteArray.getElem_extract]
  rw [e]
  have hb := bt_of (s := s) (p := i) (by omega)
  rw [hb] at h1
  unfold okb at h1
  simp at h1
  split at h1 <;> omega
set_option maxHeartbeats 8000000 in
set_option maxRecDepth 100000 in
theorem ring_Count.good (s : ByteArray) (w : World) (h7 : 7 ≤ s.size) (h8 : s.size ≤ 8) (hf : formP s true = ((s.size : Int) - 6, true)) (hok : ∀ i, i < s.size → okb true (s.size - 6) i (bt s i) = true) :
    Calls Try.prog 40 #[.string s] w (CountPost w ((mulQ s (gN (waysT s 6) 0) (s.size - 6) : Nat) : Int) 0) := by
  obtain ⟨n, hn⟩ : ∃ n : Nat, (n : Int) = (s.size : Int) - 6 := ⟨s.size - 6, by omega⟩
  have hn2 : s.size - 6 = n := by omega
  have HFo := Lib.hid (fun w => ring_form.calls s ⟨#[63]⟩ (n : Int) true w (by unfold ring_form.f; rw [if_pos (by omega), if_neg (by decide), if_pos rfl, hf, hn]))
  have HSu := Lib.hid (fun w => show Calls Try.prog 80 #[.string s, .int .i64 (n : Int)] w fun e w' => e = .returned (.agg (encN (waysT s 6))) ∧ Below w.heap.size w w' by have h := ring_sums.walk s n w (by omega) (by omega) (by omega); rwa [show s.size - n = 6 by omega] at h)
  have HL := Lib.hid (waysT_length s 6)
  have HA := Lib.hid (wornD_ascii (n := n) (by omega) hok)
  have HSz := Lib.hid (show (s.extract 0 n).size = n by simp; omega)
  have HC := Lib.hid ((waysT_cap s 6).mono (pow_six (Nat.le_refl 6)))
  rw [hn2]
  generalize hout : mulQ s (gN (waysT s 6) 0) n = out
  have Hout := Lib.hid hout
  have hn3 : n ≤ 2 := by omega
  have hn4 : 1 ≤ n := by omega
  have hn5 : n ≤ s.size := by omega
  have hix := fun w => (show (Instr.index 75 (.agg (encN (waysT s 6))) (.int .i64 0)).run Try.prog w = .ok (.int .i64 ((gN (waysT s 6) 0 : Nat) : Int)) w from index_encN (waysT s 6) HL.out 0 (by decide) w)
  clear hout hn hn2 hok hf
  have HM := Lib.hid (show gN (waysT s 6) 0 ≤ 1000000000000 from HC.out 0)
  generalize gN (waysT s 6) 0 = n0 at *
  generalize encN (waysT s 6) = ways at *
  have Hix := Lib.hid hix
  clear hix
  go_enter Try.func40, Try.ntmps40
  go_wp2_with (first | (go_at_call 71; go_must (with_reducible refine (HFo.out _).mono ?_); rintro _ w1 ⟨rfl, hb1⟩; have HB1 := Lib.hid hb1; clear hb1) | (go_at_call 80; go_must (with_reducible refine (HSu.out _).mono ?_); rintro _ w2 ⟨rfl, hb2⟩; have HB2 := Lib.hid hb2; clear hb2; have hix := Hix.out w2))
  have HB0 := Lib.hid (show Below w.heap.size w (w2.iter (s.extract 0 n) 0) from ((HB1.out.trans (HB2.out.mono (below_size HB1.out))).alloc (Nat.le_trans (below_size HB1.out) (below_size HB2.out)) _))
  have HK0 := Lib.hid (World.iter_heap w2 (s.extract 0 n) 0)
  have HP := Lib.hid (show w.heap.size ≤ w2.heap.size from Nat.le_trans (below_size HB1.out) (below_size HB2.out))
  have HT := Lib.hid (fun pos (hp : pos < n) (hp2 : pos < (s.extract 0 n).size) => show bt s (pos : Int) = ((((s.extract 0 n)[pos]'hp2).toNat : Nat) : Int) by rw [bt_of (s := s) (p := pos) (by omega)]; simp [ByteArray.getElem_extract])
  generalize s.extract 0 n = t at *
  generalize w2.iter t 0 = W0 at *
  go_loopw [6] (fun v w' => ∃ pos : Nat, pos ≤ n ∧ v = .int .i64 ((mulQ s n0 pos : Nat) : Int) ∧ w'.heap[w2.heap.size]? = some (.stringIter t pos) ∧ Below w.heap.size w w') (fun _ w' => n - w'.iterPos w2.heap.size)
  case atStart => exact ⟨0, Nat.zero_le _, rfl, HK0.out, HB0.out⟩
  case round =>
    obtain ⟨pos, hp1, rfl, hk, hB⟩ := hrel
    have HK := Lib.hid hk
    have HB := Lib.hid hB
    clear hB
    by_cases hp : pos < n
    · have hpt : pos < t.size := by rw [HSz.out]; exact hp
      have ha := HA.out pos hpt
      have hbt := HT.out pos hp hpt
      have hnx : ∀ ty, (Instr.next (.pointer (some ⟨w2.heap.size, 0, none⟩)) true ty).run Try.prog wr = _ := fun ty => Lib.run_next_ascii_at wr w2.heap.size t pos ty hk hpt ha
      generalize (t[pos]'hpt).toNat = c at *
      have HB2 := Lib.hid (Lib.below_iterAt HB.out HP.out t (pos + 1))
      have HK2 := Lib.hid (Lib.iterAt_heap wr w2.heap.size t pos (pos + 1) HK.out)
      have hsm := mulQ_small (s := s) (k := pos) HM.out (by omega)
      have e1 : wr.iterPos w2.heap.size = pos := by simp [World.iterPos, HK.out]
      have e2 : (wr.iterAt w2.heap.size t (pos + 1)).iterPos w2.heap.size = pos + 1 := by simp [World.iterPos, HK2.out]
      have E1 := Lib.hid e1
      have E2 := Lib.hid e2
      clear e1 e2
      have hcc : c < 128 := ha
      clear hk
      by_cases hq : c = 63
      · have Hn := Lib.hid (show mulQ s n0 (pos + 1) = mulQ s n0 pos * 26 by show (if _ then _ else _) = _; rw [if_pos (by rw [hbt, hq]; rfl)])
        subst hq
        clear hbt
        generalize mulQ s n0 pos = m at *
        go_wp2
        refine ⟨⟨pos + 1, by omega, by first | (rw [Hn.out]; done) | (rw [Hn.out]; go_num), HK2.out, HB2.out⟩, by rw [E1.out, E2.out]; omega⟩
      · have Hn := Lib.hid (show mulQ s n0 (pos + 1) = mulQ s n0 pos by show (if _ then _ else _) = _; rw [if_neg (by rw [hbt]; omega)])
        have q1 : ((c : Int) == 63) = false := by simp; omega
        clear hbt
        generalize mulQ s n0 pos = m at *
        go_wp2
        refine ⟨⟨pos + 1, by omega, by first | (rw [Hn.out]; done) | (rw [Hn.out]; go_num), HK2.out, HB2.out⟩, by rw [E1.out, E2.out]; omega⟩
    · have hpe : pos = n := by omega
      subst hpe
      have hnx : ∀ ty, (Instr.next (.pointer (some ⟨w2.heap.size, 0, none⟩)) true ty).run Try.prog wr = _ := fun ty => Lib.run_next_end_at wr w2.heap.size t pos ty hk (by rw [HSz.out]; omega)
      clear hk
      rw [Hout.out]
      go_wp2
      go_ret2
      exact ⟨rfl, HB.out⟩

set_option maxHeartbeats 8000000 in
set_option maxRecDepth 100000 in
theorem ring_Count.bad (s : ByteArray) (w : World) (hs : s.size ≤ 9223372036854775807) (m : Int) (hf : formP s true = (m, false)) :
    Calls Try.prog 40 #[.string s] w (CountPost w 0 2) := by
  have HFo := Lib.hid (fun w => ring_form.calls s ⟨#[63]⟩ m false w (by unfold ring_form.f; rw [if_pos hs, if_neg (by decide), if_pos rfl, hf]))
  clear hf hs
  go_enter Try.func40, Try.ntmps40
  go_wp2_with (first | (go_at_call 71; go_must (with_reducible refine (HFo.out _).mono ?_); rintro _ w1 ⟨rfl, hb1⟩; have HB1 := Lib.hid hb1; clear hb1))
  go_ret2
  exact ⟨rfl, HB1.out⟩
theorem formP_bits {s : ByteArray} (h : (formP s true).2 = true) : 7 ≤ s.size ∧ s.size ≤ 8 ∧ formP s true = ((s.size : Int) - 6, true) ∧ ∀ i, i < s.size → okb true (s.size - 6) i (bt s i) = true := by
  unfold formP at h ⊢
  split at h
  · exact absurd h (by decide)
  · rename_i h1
    split at h
    · rename_i h2
      refine ⟨by omega, by omega, by rw [if_neg h1, if_pos h2], fun i hi => ?_⟩
      rw [List.all_eq_true] at h2
      exact h2 i (List.mem_range.2 hi)
    · exact absurd h (by decide)
def ring_Count.f (a0 : ByteArray) : Option (Int × Int) := if a0.size ≤ 9223372036854775807 then some (countP a0) else none
theorem ring_Count.calls (a0 : ByteArray) (r1 : Int) (r2 : Int) (w : World) (h : ring_Count.f a0 = some (r1, r2)) :
    Calls Try.prog 40 #[.string a0] w fun e w' => e = .returned (.tuple #[.int .i64 r1, .int .i64 r2]) ∧ Below w.heap.size w w' := by
  unfold ring_Count.f at h
  split at h
  · rename_i hs
    have h := Option.some.inj h
    unfold countP at h
    split at h
    · rename_i hf
      obtain ⟨h7, h8, h9, h10⟩ := formP_bits hf
      obtain ⟨rfl, rfl⟩ := Prod.mk.inj h
      exact ring_Count.good a0 w h7 h8 h9 h10
    · rename_i hf
      obtain ⟨rfl, rfl⟩ := Prod.mk.inj h
      exact ring_Count.bad a0 w hs (formP a0 true).1 (Prod.ext rfl (Bool.eq_false_iff.mpr hf))
  · exact absurd h (by simp)

end Go.Proofs.Ytlbhighbhchdmaa.Q
