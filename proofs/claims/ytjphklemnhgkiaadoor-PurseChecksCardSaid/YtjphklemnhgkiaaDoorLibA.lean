import Derived.Test.YtjphklemnhgkiaaDoorQx0
import Derived.Test.YtjphklemnhgkiaaDoorQx2
import Derived.Test.YtjphklemnhgkiaaDoorQx6
namespace Go.Proofs.YtjphklemnhgkiaaDoor.Pure
open Go.RowKit Go.Proofs.YtjphklemnhgkiaaDoor.Q Go.Proofs.YtjphklemnhgkiaaDoorW.PrintWords Go.Proofs.YtjphklemnhgkiaaDoorW.PrintLast
set_option linter.unusedVariables false

/-! Rounds; which purses and pays are valid; what a group lacks. -/

theorem Ev.ifp {α : Type} {c : Prop} [Decidable c] {f g : Nat → Option α} {r : α} (h : c) (k : Ev f r) : Ev (fun n => if c then f n else g n) r := by
  obtain ⟨K, k⟩ := k
  exact ⟨K, fun n hn => by show (if c then f n else g n) = some r; rw [if_pos h]; exact k n hn⟩
theorem Ev.ifn {α : Type} {c : Prop} [Decidable c] {f g : Nat → Option α} {r : α} (h : ¬ c) (k : Ev g r) : Ev (fun n => if c then f n else g n) r := by
  obtain ⟨K, k⟩ := k
  exact ⟨K, fun n hn => by show (if c then f n else g n) = some r; rw [if_neg h]; exact k n hn⟩
theorem Ev.bindc {α β : Type} {g : Option α} {f : Nat → α → Option β} {a : α} {r : β} (h : g = some a) (k : Ev (fun n => f n a) r) : Ev (fun n => g.bind (f n)) r := by
  subst h
  exact k
theorem Ev.val {α : Type} {a r : α} (h : a = r) : Ev (fun _ => some a) r := by
  subst h
  exact Ev.now _
theorem w64 {a : Int} (h0 : -9223372036854775808 ≤ a) (h1 : a < 9223372036854775808) : wrap64 a = a := by unfold wrap64; omega
theorem w64s {i : Nat} (h : i < 1000000000000000000) : wrap64 ((i : Int) + 1) = ((i + 1 : Nat) : Int) := by rw [w64 (by omega) (by omega)]; omega
theorem rd_nat (l : List Int) (i : Nat) : rd l (i : Int) = l.getD i 0 := by unfold rd; rw [Int.toNat_natCast]

/-- The number of players. -/
def pn (n : Nat) : Nat := tzN n 0 10
def okN (n : Nat) : Bool := n == 2 || n == 4 || n == 8 || n == 16 || n == 32
theorem okN_le {n : Nat} (h : okN n = true) : 2 ≤ n ∧ n ≤ 32 := by
  unfold okN at h
  simp only [Bool.or_eq_true, beq_iff_eq] at h
  omega
theorem isCount_eq (n : Nat) (hn : n < 1000000000000000000) : purse_isCount.f (n : Int) = some (okN n) := by
  unfold purse_isCount.f purse_within.f
  by_cases h2 : (n : Int) ≥ 2
  · rw [if_pos h2]
    by_cases h3 : (n : Int) ≤ 32
    · simp only [decide_eq_true h3, Option.bind_some, if_true]
      have h : ∀ m : Fin 33, 2 ≤ m.val → ((Go.bits .and .i64 (m.val : Int) (wrap64 ((m.val : Int) - 1))) == 0) = okN m.val := by decide +kernel
      exact congrArg some (h ⟨n, by omega⟩ (by show 2 ≤ n; omega))
    · have : okN n = false := by
        unfold okN
        simp only [Bool.or_eq_false_iff, beq_eq_false_iff_ne]
        omega
      simp only [decide_eq_false h3, Option.bind_some, Bool.false_eq_true, if_false, this]
  · rw [if_neg h2]
    have : okN n = false := by
      unfold okN
      simp only [Bool.or_eq_false_iff, beq_eq_false_iff_ne]
      omega
    simp only [Option.bind_some, Bool.false_eq_true, if_false, this]
/-- A purse is valid. -/
def okV (v : List Int) : Bool := okN v.length && (v.getD 0 0 == 0) && !(v.any (outW (-1000) 1000))
theorem Validate_eq (v : List Int) (hn : v.length < 1000000000000000000) : purse_Validate.f v = some (if okV v = true then 0 else 1) := by
  unfold purse_Validate.f okV
  rw [isCount_eq _ hn, Option.bind_some]
  cases hc : okN v.length with
  | false => simp
  | true =>
    have := okN_le hc
    rw [if_pos rfl, if_pos (by omega)]
    rw [show rd v 0 = v.getD 0 0 from rd_nat v 0]
    by_cases h0 : v.getD 0 0 = 0
    · rw [if_pos h0]
      unfold purse_badV.f
      rw [Option.bind_some]
      simp only [Bool.true_and, h0, beq_self_eq_true]
      cases v.any (outW (-1000) 1000) <;> simp
    · rw [if_neg h0]
      have h0' : (v.getD 0 0 == 0) = false := beq_eq_false_iff_ne.2 h0
      simp only [h0', Bool.and_false, Bool.false_and, Bool.false_eq_true, if_false]
theorem players_eq (v : List Int) (h : okN v.length = true) : purse_players.f v = some (pn v.length : Int) := by
  have hl := okN_le h
  unfold purse_players.f bits_TrailingZeros.f
  have hw : IntKind.u64.wrap (v.length : Int) = (v.length : Int) := by
    rw [IntKind.wrap_u64]
    omega
  rw [hw, if_pos ⟨by omega, by omega⟩, Int.toNat_natCast, Option.bind_some]
  rfl
theorem okV_n {v : List Int} (h : okV v = true) : okN v.length = true := by
  unfold okV at h
  simp only [Bool.and_eq_true] at h
  exact h.1.1
theorem okV_val {v : List Int} (h : okV v = true) (g : Nat) : -1000 ≤ v.getD g 0 ∧ v.getD g 0 ≤ 1000 := by
  unfold okV at h
  simp only [Bool.and_eq_true, Bool.not_eq_true'] at h
  have ha := h.2
  rw [List.getD_eq_getElem?_getD]
  by_cases hg : g < v.length
  · rw [List.getElem?_eq_getElem hg]
    have := List.any_eq_false.1 ha _ (List.getElem_mem hg)
    unfold outW at this
    simp only [Bool.or_eq_true, decide_eq_true_eq, not_or] at this
    show _ ≤ v[g] ∧ v[g] ≤ _
    omega
  · rw [List.getElem?_eq_none (by omega)]
    show (-1000 : Int) ≤ 0 ∧ (0 : Int) ≤ 1000
    omega
theorem pn_pow {n : Nat} (h : okN n = true) : n = 2 ^ pn n ∧ 1 ≤ pn n ∧ pn n ≤ 5 := by
  unfold okN at h
  simp only [Bool.or_eq_true, beq_iff_eq] at h
  rcases h with (((h | h) | h) | h) | h <;> subst h <;> decide

/-- A pay is valid for a purse. -/
def okP (v : List Int) (d : Int) (num : List Int) : Bool := okV v && decide (1 ≤ d) && decide (d ≤ 1000) && (num.length == pn v.length) && !(num.any (outW (-10000000) 10000000))
theorem examine_eq (v : List Int) (d : Int) (num : List Int) (hn : v.length < 1000000000000000000) : purse_examine.f v d num = some (if okP v d num = true then 0 else 1) := by
  unfold purse_examine.f okP
  rw [Validate_eq v hn, Option.bind_some]
  cases hv : okV v with
  | false => simp
  | true =>
    rw [if_pos rfl, if_pos rfl, players_eq v (okV_n hv)]
    unfold purse_within.f purse_badN.f
    by_cases h1 : d ≥ 1
    · rw [if_pos h1]
      by_cases h2 : d ≤ 1000
      · simp only [decide_eq_true h2, decide_eq_true (show (1 : Int) ≤ d from h1), Option.bind_some, if_true, Bool.true_and]
        by_cases h3 : num.length = pn v.length
        · rw [if_pos (by omega)]
          simp only [h3, beq_self_eq_true, Bool.true_and]
          cases num.any (outW (-10000000) 10000000) <;> simp
        · rw [if_neg (by omega)]
          simp only [beq_eq_false_iff_ne.2 h3, Bool.false_and, Bool.false_eq_true, if_false]
      · simp only [decide_eq_false h2, Option.bind_some, Bool.false_eq_true, if_false, Bool.and_false, Bool.false_and]
    · rw [if_neg h1]
      simp only [decide_eq_false (show ¬ (1 : Int) ≤ d from h1), Option.bind_some, Bool.false_eq_true, if_false, Bool.and_false, Bool.false_and]
/-- What the players of a group get, from the player i on. -/
def gs : List Int → Nat → Nat → Int
  | [], _, _ => 0
  | x :: xs, g, i => (if g.testBit i = true then x else 0) + gs xs g (i + 1)
/-- By how much a group's value is above what it gets. -/
def ex (v : List Int) (d : Int) (num : List Int) (g : Nat) : Int := d * v.getD g 0 - gs num g 0
theorem gs_bound (num : List Int) (g i : Nat) (h : ∀ x ∈ num, -10000000 ≤ x ∧ x ≤ 10000000) : -10000000 * (num.length : Int) ≤ gs num g i ∧ gs num g i ≤ 10000000 * (num.length : Int) := by
  induction num generalizing i with
  | nil => simp [gs]
  | cons x xs ih =>
    have h1 := h x List.mem_cons_self
    have h2 := ih (i + 1) (fun y hy => h y (List.mem_cons_of_mem _ hy))
    unfold gs
    rw [List.length_cons]
    by_cases hb : g.testBit i = true
    · rw [if_pos hb]; omega
    · rw [if_neg hb]; omega
theorem in_eq (i g : Nat) (hi : i < 8) (hg : g < 32) : purse_player_in.f (i : Int) (g : Int) = some (g.testBit i) := by
  have h : ∀ (i : Fin 8) (g : Fin 32), purse_player_in.f (i.val : Int) (g.val : Int) = some (g.val.testBit i.val) := by decide +kernel
  exact h ⟨i, hi⟩ ⟨g, hg⟩
def gl (num : List Int) (i : Nat) : List S92 := (num.zipIdx i).map fun p => ⟨(p.2 : Int), p.1⟩
end Go.Proofs.YtjphklemnhgkiaaDoor.Pure
