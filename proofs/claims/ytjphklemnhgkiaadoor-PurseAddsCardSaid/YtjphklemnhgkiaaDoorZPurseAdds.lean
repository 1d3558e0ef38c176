-- What the plain law PurseAdds needs, out of the Libs of this seat.
import Derived.Test.YtjphklemnhgkiaaDoorQx0
import Derived.Test.YtjphklemnhgkiaaDoorQx2
import Derived.Test.YtjphklemnhgkiaaDoorQx4
import Derived.Test.YtjphklemnhgkiaaDoorQx7
import Derived.Test.YtjphklemnhgkiaaDoorQx9
import Derived.Test.YtjphklemnhgkiaaDoorQx10
import Derived.Test.YtjphklemnhgkiaaDoorQx11
import Derived.Test.YtjphklemnhgkiaaDoorQx20
namespace Go.Proofs.YtjphklemnhgkiaaDoor.Pure
open Go.RowKit Go.Proofs.YtjphklemnhgkiaaDoor.Q Go.Proofs.YtjphklemnhgkiaaDoorW.PrintWords Go.Proofs.YtjphklemnhgkiaaDoorW.PrintLast
set_option linter.unusedVariables false


/-! Rounds; which purses and pays are valid; what a group lacks. -/

theorem Ev.ifp {α : Type} {c : Prop} [Decidable c] {f g : Nat → Option α} {r : α} (h : c) (k : Ev f r) : Ev (fun n => if c then f n else g n) r := by
  obtain ⟨K, k⟩ := k
  exact ⟨K, fun n hn => by show (if c then f n else g n) = some r; rw [if_pos h]; exact k n hn⟩
theorem Ev.ifn {α : Type} {c : Prop} [Decidable c] {f g : Nat → Option α} {r : α} (h : ¬ c) (k : Ev g r) : Ev (fun n => if c then f n else g n) r := by
  obtain ⟨K, k⟩ := k
  exact ⟨K, fun n hn => by show (if c then f n else g n) = some r; rw [if_neg h]; exact k n hn⟩
theorem Ev.bindc {α β : Type} {g : Option α} {f : Nat → α → Option β} {a : α} {r : β} (h : g = some a) (k : Ev (fun n => f n a) r) : Ev (fun n => g.bind (f n)) r := by
  subst h
  exact k
theorem Ev.val {α : Type} {a r : α} (h : a = r) : Ev (fun _ => some a) r := by
  subst h
  exact Ev.now _
theorem w64 {a : Int} (h0 : -9223372036854775808 ≤ a) (h1 : a < 9223372036854775808) : wrap64 a = a := by unfold wrap64; omega
theorem w64s {i : Nat} (h : i < 1000000000000000000) : wrap64 ((i : Int) + 1) = ((i + 1 : Nat) : Int) := by rw [w64 (by omega) (by omega)]; omega
theorem rd_nat (l : List Int) (i : Nat) : rd l (i : Int) = l.getD i 0 := by unfold rd; rw [Int.toNat_natCast]
/-- The number of players. -/
def pn (n : Nat) : Nat := tzN n 0 10
def okN (n : Nat) : Bool := n == 2 || n == 4 || n == 8 || n == 16 || n == 32
theorem okN_le {n : Nat} (h : okN n = true) : 2 ≤ n ∧ n ≤ 32 := by
  unfold okN at h
  simp only [Bool.or_eq_true, beq_iff_eq] at h
  omega
theorem isCount_eq (n : Nat) (hn : n < 1000000000000000000) : purse_isCount.f (n : Int) = some (okN n) := by
  unfold purse_isCount.f purse_within.f
  by_cases h2 : (n : Int) ≥ 2
  · rw [if_pos h2]
    by_cases h3 : (n : Int) ≤ 32
    · simp only [decide_eq_true h3, Option.bind_some, if_true]
      have h : ∀ m : Fin 33, 2 ≤ m.val → ((Go.bits .and .i64 (m.val : Int) (wrap64 ((m.val : Int) - 1))) == 0) = okN m.val := by decide +kernel
      exact congrArg some (h ⟨n, by omega⟩ (by show 2 ≤ n; omega))
    · have : okN n = false := by
        unfold okN
        simp only [Bool.or_eq_false_iff, beq_eq_false_iff_ne]
        omega
      simp only [decide_eq_false h3, Option.bind_some, Bool.false_eq_true, if_false, this]
  · rw [if_neg h2]
    have : okN n = false := by
      unfold okN
      simp only [Bool.or_eq_false_iff, beq_eq_false_iff_ne]
      omega
    simp only [Option.bind_some, Bool.false_eq_true, if_false, this]
/-- A purse is valid. -/
def okV (v : List Int) : Bool := okN v.length && (v.getD 0 0 == 0) && !(v.any (outW (-1000) 1000))
theorem Validate_eq (v : List Int) (hn : v.length < 1000000000000000000) : purse_Validate.f v = some (if okV v = true then 0 else 1) := by
  unfold purse_Validate.f okV
  rw [isCount_eq _ hn, Option.bind_some]
  cases hc : okN v.length with
  | false => simp
  | true =>
    have := okN_le hc
    rw [if_pos rfl, if_pos (by omega)]
    rw [show rd v 0 = v.getD 0 0 from rd_nat v 0]
    by_cases h0 : v.getD 0 0 = 0
    · rw [if_pos h0]
      unfold purse_badV.f
      rw [Option.bind_some]
      simp only [Bool.true_and, h0, beq_self_eq_true]
      cases v.any (outW (-1000) 1000) <;> simp
    · rw [if_neg h0]
      have h0' : (v.getD 0 0 == 0) = false := beq_eq_false_iff_ne.2 h0
      simp only [h0', Bool.and_false, Bool.false_and, Bool.false_eq_true, if_false]
theorem players_eq (v : List Int) (h : okN v.length = true) : purse_players.f v = some (pn v.length : Int) := by
  have hl := okN_le h
  unfold purse_players.f bits_TrailingZeros.f
  have hw : IntKind.u64.wrap (v.length : Int) = (v.length : Int) := by
    rw [IntKind.wrap_u64]
    omega
  rw [hw, if_pos ⟨by omega, by omega⟩, Int.toNat_natCast, Option.bind_some]
  rfl
theorem okV_n {v : List Int} (h : okV v = true) : okN v.length = true := by
  unfold okV at h
  simp only [Bool.and_eq_true] at h
  exact h.1.1
theorem okV_val {v : List Int} (h : okV v = true) (g : Nat) : -1000 ≤ v.getD g 0 ∧ v.getD g 0 ≤ 1000 := by
  unfold okV at h
  simp only [Bool.and_eq_true, Bool.not_eq_true'] at h
  have ha := h.2
  rw [List.getD_eq_getElem?_getD]
  by_cases hg : g < v.length
  · rw [List.getElem?_eq_getElem hg]
    have := List.any_eq_false.1 ha _ (List.getElem_mem hg)
    unfold outW at this
    simp only [Bool.or_eq_true, decide_eq_true_eq, not_or] at this
    show _ ≤ v[g] ∧ v[g] ≤ _
    omega
  · rw [List.getElem?_eq_none (by omega)]
    show (-1000 : Int) ≤ 0 ∧ (0 : Int) ≤ 1000
    omega
theorem pn_pow {n : Nat} (h : okN n = true) : n = 2 ^ pn n ∧ 1 ≤ pn n ∧ pn n ≤ 5 := by
  unfold okN at h
  simp only [Bool.or_eq_true, beq_iff_eq] at h
  rcases h with (((h | h) | h) | h) | h <;> subst h <;> decide
theorem in_eq (i g : Nat) (hi : i < 8) (hg : g < 32) : purse_player_in.f (i : Int) (g : Int) = some (g.testBit i) := by
  have h : ∀ (i : Fin 8) (g : Fin 32), purse_player_in.f (i.val : Int) (g.val : Int) = some (g.val.testBit i.val) := by decide +kernel
  exact h ⟨i, hi⟩ ⟨g, hg⟩

/-! The chapter's examples are answered. -/
set_option maxRecDepth 100000 in
theorem known_eq : wigeonlaw08_known.f 100 = some true := by decide +kernel
theorem known_ev : Ev (fun k => wigeonlaw08_known.f k) true := Ev.of wigeonlaw08_known.mono known_eq
theorem known_bind : Ev (fun k => (wigeonlaw08_known.f k).bind fun t => some t) true := Ev.bind known_ev (Ev.now _)
def longP (v w : List Int) : Bool := decide (200 < v.length) || decide (200 < w.length)
theorem long_eq (v w : List Int) : wigeonlaw08_long.f v w = some (longP v w) := by
  unfold wigeonlaw08_long.f longP
  by_cases h : 200 < v.length
  · rw [if_pos (by omega), decide_eq_true h, Bool.true_or]
  · rw [if_neg (by omega), decide_eq_false h, Bool.false_or]
    congr 1
    exact decide_eq_decide.2 (by omega)
theorem long_no {v w : List Int} (h : longP v w = false) : v.length ≤ 200 ∧ w.length ≤ 200 := by
  unfold longP at h
  simp only [Bool.or_eq_false_iff, decide_eq_false_iff_not] at h
  omega

/-! The reference: valid purses and pays, excesses, the core. -/
theorem rplayers_ev (n : Nat) : Ev (fun k => wigeonref08_players.f k (n : Int)) (if okN n = true then (pn n : Int) else -1) := by
  unfold wigeonref08_players.f
  have hs : ∀ i : Fin 6, 1 ≤ i.val → shl .i64 1 (IntKind.u64.wrap (i.val : Int)) = ((2 ^ i.val : Nat) : Int) ∧ 0 ≤ IntKind.u64.wrap (i.val : Int) ∧ wrap64 ((i.val : Int) + 1) = ((i.val + 1 : Nat) : Int) := by decide +kernel
  have key : ∀ m i : Nat, i + m = 6 → 1 ≤ i → (∀ j, 1 ≤ j → j < i → n ≠ 2 ^ j) → Ev (fun k => wigeonref08_players.l0 k (n : Int) (i : Int)) (if okN n = true then (pn n : Int) else -1) := by
    intro m
    induction m with
    | zero =>
      intro i hi _ hno
      refine Ev.step (fun k => by rw [wigeonref08_players.l0]) (Ev.ifn (by omega) (Ev.val ?_))
      have h1 := hno 1 (by omega) (by omega)
      have h2 := hno 2 (by omega) (by omega)
      have h3 := hno 3 (by omega) (by omega)
      have h4 := hno 4 (by omega) (by omega)
      have h5 := hno 5 (by omega) (by omega)
      rw [if_neg]
      intro h
      unfold okN at h
      simp only [Bool.or_eq_true, beq_iff_eq] at h
      rcases h with (((h | h) | h) | h) | h <;> subst h <;> simp at h1 h2 h3 h4 h5
    | succ m ih =>
      intro i hi h1 hno
      obtain ⟨e1, e2, e3⟩ := hs ⟨i, by omega⟩ h1
      refine Ev.step (fun k => by rw [wigeonref08_players.l0]) (Ev.ifp (by omega) (Ev.ifp e2 ?_))
      rw [e1, e3]
      by_cases hn : n = 2 ^ i
      · refine Ev.ifp (by rw [hn]) (Ev.val ?_)
        have hd : ∀ j : Fin 6, 1 ≤ j.val → okN (2 ^ j.val) = true ∧ pn (2 ^ j.val) = j.val := by decide +kernel
        obtain ⟨d1, d2⟩ := hd ⟨i, by omega⟩ h1
        rw [hn, if_pos d1]
        exact congrArg (fun x : Nat => (x : Int)) d2.symm
      · refine Ev.ifn (fun h => hn (Int.ofNat.inj h)) (ih (i + 1) (by omega) (by omega) (fun j hj hl => ?_))
        by_cases e : j = i
        · rw [e]; exact hn
        · exact hno j hj (by omega)
  exact key 5 1 (by omega) (by omega) (fun j h1 h2 => by omega)
theorem rlimited_ev (l : List Int) (m : Int) (hm : 0 ≤ m) (hm2 : m < 1000000000) (hl : l.length < 1000000000000000000) : Ev (fun k => wigeonref08_limited.f k l m) (!(l.any (outW (-m) m))) := by
  unfold wigeonref08_limited.f
  have key : ∀ q j, j + q = l.length → Ev (fun k => wigeonref08_limited.l0 k l m (j : Int)) (!((l.drop j).any (outW (-m) m))) := by
    intro q
    induction q with
    | zero =>
      intro j hj
      refine Ev.step (fun k => by rw [wigeonref08_limited.l0]) (Ev.ifn (by omega) (Ev.val ?_))
      rw [show j = l.length by omega, List.drop_length]
      rfl
    | succ q ih =>
      intro j hj
      have hjl : j < l.length := by omega
      refine Ev.step (fun k => by rw [wigeonref08_limited.l0]) (Ev.ifp (by omega) (Ev.ifp (by omega) ?_))
      rw [rd_nat, w64 (a := -m) (by omega) (by omega), w64s (by omega), List.getD_eq_getElem?_getD, List.getElem?_eq_getElem hjl, List.drop_eq_getElem_cons hjl, List.any_cons]
      show Ev (fun k => (wigeonref08_within.f l[j] (-m) m).bind _) _
      unfold wigeonref08_within.f outW
      by_cases h1 : l[j] ≥ -m
      · rw [if_pos h1]
        by_cases h2 : l[j] ≤ m
        · refine Ev.bindc rfl (Ev.ifp (decide_eq_true h2) ?_)
          rw [decide_eq_false (show ¬ l[j] < -m by omega), decide_eq_false (show ¬ l[j] > m by omega), Bool.false_or, Bool.false_or]
          exact ih (j + 1) (by omega)
        · refine Ev.bindc rfl (Ev.ifn (fun q => h2 (of_decide_eq_true q)) (Ev.val ?_))
          rw [decide_eq_true (show l[j] > m by omega), Bool.or_true, Bool.true_or]
          rfl
      · rw [if_neg h1]
        refine Ev.bindc rfl (Ev.ifn (by decide) (Ev.val ?_))
        rw [decide_eq_true (show l[j] < -m by omega), Bool.true_or, Bool.true_or]
        rfl
  exact key l.length 0 (by omega)
theorem rValidate_ev (v : List Int) (hn : v.length < 1000000000000000000) : Ev (fun k => wigeonref08_Validate.f k v) (if okV v = true then 0 else 1) := by
  unfold wigeonref08_Validate.f okV
  refine Ev.bind (rplayers_ev v.length) ?_
  cases hc : okN v.length with
  | false =>
    simp only [Bool.false_eq_true, if_false, Bool.false_and]
    exact Ev.ifp (by decide) (Ev.now _)
  | true =>
    have hl := okN_le hc
    rw [if_pos rfl, Bool.true_and]
    refine Ev.ifn (by omega) (Ev.bind (rlimited_ev v 1000 (by decide) (by decide) hn) ?_)
    rw [show (-1000 : Int) = -(1000) from rfl]
    cases ha : v.any (outW (-(1000)) 1000) with
    | true =>
      simp only [Bool.not_true, Bool.and_false, Bool.false_eq_true, if_false]
      exact Ev.now _
    | false =>
      rw [Bool.not_false, Bool.and_true]
      refine Ev.ifp rfl (Ev.ifp (by omega) ?_)
      rw [show rd v 0 = v.getD 0 0 from rd_nat v 0]
      by_cases h0 : v.getD 0 0 = 0
      · rw [if_pos (beq_iff_eq.2 h0)]
        exact Ev.ifp h0 (Ev.now _)
      · rw [if_neg (fun q => h0 (beq_iff_eq.1 q))]
        exact Ev.ifn h0 (Ev.now _)

/-! The average gains: what the program's sums are, and their fractions. -/
def fa : Nat → Int
  | 0 => 1
  | n + 1 => ((n + 1 : Nat) : Int) * fa n
def pc (g : Nat) : Nat := (if g.testBit 0 = true then 1 else 0) + (if g.testBit 1 = true then 1 else 0) + (if g.testBit 2 = true then 1 else 0) + (if g.testBit 3 = true then 1 else 0) + (if g.testBit 4 = true then 1 else 0)
theorem ones_eq (g : Nat) (h : g < 32) : bits_OnesCount.f (IntKind.u64.wrap (g : Int)) = some ((pc g : Nat) : Int) := by
  have : ∀ g : Fin 32, bits_OnesCount.f (IntKind.u64.wrap (g.val : Int)) = some ((pc g.val : Nat) : Int) := by decide +kernel
  exact this ⟨g, h⟩
theorem joined_eq (i g : Nat) (hi : i < 5) (hg : g < 32) (hb : ¬ g.testBit i = true) : purse_player_joined.f (i : Int) (g : Int) = some ((g + 2 ^ i : Nat) : Int) := by
  have : ∀ (i : Fin 5) (g : Fin 32), ¬ g.val.testBit i.val = true → purse_player_joined.f (i.val : Int) (g.val : Int) = some ((g.val + 2 ^ i.val : Nat) : Int) := by decide +kernel
  exact this ⟨i, hi⟩ ⟨g, hg⟩ hb
theorem weight_eq (n s : Nat) (hn : n < 6) (hs : s < n) : purse_weight.f (n : Int) (s : Int) = some (fa s * fa (n - s - 1)) := by
  have : ∀ (n s : Fin 6), s.val < n.val → purse_weight.f (n.val : Int) (s.val : Int) = some (fa s.val * fa (n.val - s.val - 1)) := by decide +kernel
  exact this ⟨n, hn⟩ ⟨s, by omega⟩ hs
theorem weight_bound (n s : Nat) (hn : n < 6) (hs : s < n) : 0 ≤ fa s * fa (n - s - 1) ∧ fa s * fa (n - s - 1) ≤ 120 := by
  have : ∀ (n s : Fin 6), s.val < n.val → 0 ≤ fa s.val * fa (n.val - s.val - 1) ∧ fa s.val * fa (n.val - s.val - 1) ≤ 120 := by decide +kernel
  exact this ⟨n, hn⟩ ⟨s, by omega⟩ hs
theorem group_facts (n i g : Nat) (hn : n < 6) (hi : i < n) (hg : g < 2 ^ n) (hb : ¬ g.testBit i = true) : pc g < n ∧ g + 2 ^ i < 2 ^ n := by
  have : ∀ (n : Fin 6) (i : Fin 5) (g : Fin 32), i.val < n.val → g.val < 2 ^ n.val → ¬ g.val.testBit i.val = true → pc g.val < n.val ∧ g.val + 2 ^ i.val < 2 ^ n.val := by decide +kernel
  have h32 : 2 ^ n ≤ 2 ^ 5 := Nat.pow_le_pow_right (show 0 < 2 by decide) (by omega)
  exact this ⟨n, hn⟩ ⟨i, by omega⟩ ⟨g, by omega⟩ hi hg hb
theorem fact_ev (n : Nat) (hn : n < 6) : Ev (fun k => purse_factorial.f k (n : Int)) (fa n) := by
  have : ∀ n : Fin 6, purse_factorial.f 10 (n.val : Int) = some (fa n.val) := by decide +kernel
  exact Ev.of (fun k => purse_factorial.mono (n : Int) k) (this ⟨n, hn⟩)
theorem fact_facts (n : Nat) (hn : n < 6) : 1 ≤ fa n ∧ fa n ≤ 120 ∧ fa n ∣ 120 := by
  have : ∀ n : Fin 6, 1 ≤ fa n.val ∧ fa n.val ≤ 120 ∧ fa n.val * (120 / fa n.val) = 120 := by decide +kernel
  obtain ⟨a, b, c⟩ := this ⟨n, hn⟩
  exact ⟨a, b, ⟨_, c.symm⟩⟩
/-- What a group without the player tells of it. -/
def tm (n i : Nat) (V : Nat → Int) (g : Nat) : Int := if g.testBit i = true then 0 else fa (pc g) * fa (n - pc g - 1) * (V (g + 2 ^ i) - V g)
def sh (n i : Nat) (V : Nat → Int) : Nat → Nat → Int
  | 0, _ => 0
  | m + 1, g => tm n i V g + sh n i V m (g + 1)
theorem sh_add (n i : Nat) (V W U : Nat → Int) (h : ∀ g, U g = V g + W g) : ∀ m g, sh n i U m g = sh n i V m g + sh n i W m g := by
  intro m
  induction m with
  | zero => intro g; rfl
  | succ m ih =>
    intro g
    unfold sh
    rw [ih (g + 1)]
    have : tm n i U g = tm n i V g + tm n i W g := by
      unfold tm
      by_cases hb : g.testBit i = true
      · rw [if_pos hb, if_pos hb, if_pos hb]; rfl
      · rw [if_neg hb, if_neg hb, if_neg hb, h, h, ← Int.mul_add]
        congr 1
        omega
    omega
/-- The greatest common divisor, and a fraction in lowest terms. -/
def gc (a b : Int) : Int := ((Nat.gcd a.natAbs b.natAbs : Nat) : Int)
def fr (a b : Int) : S42 := ⟨Int.tdiv a (gc a b), Int.tdiv b (gc a b)⟩
theorem divisor_loop : ∀ (m : Nat) (a b : Int), b.natAbs < m → a.natAbs < 1000000000 → b.natAbs < 1000000000 → Ev (fun k => purse_divisor.l0 k a b) (gc a b) := by
  intro m
  induction m with
  | zero => intro a b h; omega
  | succ m ih =>
    intro a b hb ha hb9
    refine Ev.step (fun k => by rw [purse_divisor.l0]) ?_
    by_cases h : b = 0
    · refine Ev.ifp h (Ev.val ?_)
      subst h
      unfold gc mx
      rw [w64 (by omega) (by omega), Int.natAbs_zero, Nat.gcd_zero_right]
      by_cases h0 : a < -a
      · rw [if_pos h0]; omega
      · rw [if_neg h0]; omega
    · refine Ev.ifn h ?_
      have hr : (Int.tmod a b).natAbs = a.natAbs % b.natAbs := Int.natAbs_tmod a b
      have hlt : a.natAbs % b.natAbs < b.natAbs := Nat.mod_lt _ (by omega)
      have e : gc a b = gc b (Int.tmod a b) := by
        unfold gc
        rw [hr, Nat.gcd_comm a.natAbs b.natAbs, Nat.gcd_rec b.natAbs a.natAbs, Nat.gcd_comm]
      rw [e]
      exact ih b (Int.tmod a b) (by omega) hb9 (by omega)
theorem gc_dvd (a b : Int) : gc a b ∣ a ∧ gc a b ∣ b := by
  unfold gc
  exact ⟨Int.ofNat_dvd_left.2 (Nat.gcd_dvd_left _ _), Int.ofNat_dvd_left.2 (Nat.gcd_dvd_right _ _)⟩
theorem gc_pos (a b : Int) (hb : 1 ≤ b) : 1 ≤ gc a b := by
  unfold gc
  have := Nat.gcd_pos_of_pos_right a.natAbs (show 0 < b.natAbs by omega)
  omega
theorem fr_facts (a b : Int) (hb : 1 ≤ b) (hd : b ∣ 120) : 1 ≤ (fr a b).f1 ∧ (fr a b).f1 ≤ b ∧ -(a.natAbs : Int) ≤ (fr a b).f0 ∧ (fr a b).f0 ≤ (a.natAbs : Int) ∧ (fr a b).f0 * (120 / (fr a b).f1) = a * (120 / b) := by
  have hg := gc_pos a b hb
  obtain ⟨⟨s, hs⟩, ⟨e, he⟩⟩ := gc_dvd a b
  obtain ⟨q, hq⟩ := hd
  have f0 : (fr a b).f0 = s := by
    show Int.tdiv a (gc a b) = s
    conv => lhs; arg 1; rw [hs]
    exact Int.mul_tdiv_cancel_left _ (by omega)
  have f1 : (fr a b).f1 = e := by
    show Int.tdiv b (gc a b) = e
    conv => lhs; arg 1; rw [he]
    exact Int.mul_tdiv_cancel_left _ (by omega)
  generalize gc a b = G at *
  have e1 : 1 ≤ e := by
    refine Decidable.byContradiction fun h => ?_
    have : G * e ≤ 0 := Int.mul_nonpos_of_nonneg_of_nonpos (by omega) (by omega)
    omega
  have eb : e ≤ b := by
    have : 1 * e ≤ G * e := Int.mul_le_mul_of_nonneg_right hg (by omega)
    omega
  have sb : s.natAbs ≤ a.natAbs := by
    rw [hs, Int.natAbs_mul]
    exact Nat.le_mul_of_pos_left _ (by omega)
  have h1 : (120 : Int) / b = q := by
    rw [hq]
    exact Int.mul_ediv_cancel_left _ (by omega)
  have h2 : (120 : Int) / e = G * q := by
    rw [hq, he, Int.mul_comm G e, Int.mul_assoc]
    exact Int.mul_ediv_cancel_left _ (by omega)
  rw [f0, f1, h1, h2]
  refine ⟨e1, eb, by omega, by omega, ?_⟩
  rw [hs, ← Int.mul_assoc, Int.mul_comm s G]
theorem fraction_ev (a b : Int) (hb : 1 ≤ b) (hb2 : b ≤ 120) (ha : a.natAbs < 1000000000) : Ev (fun k => purse_fraction.f k a b) ((fr a b).f0, (fr a b).f1) := by
  have hg := gc_pos a b hb
  unfold purse_fraction.f
  refine Ev.bind (show Ev (fun k => purse_divisor.f k a b) (gc a b) from divisor_loop (b.natAbs + 1) a b (by omega) ha (by omega)) (Ev.ifn (by omega) (Ev.val ?_))
  obtain ⟨⟨s, hs⟩, ⟨e, he⟩⟩ := gc_dvd a b
  have f0 : Int.tdiv a (gc a b) = s := by
    conv => lhs; arg 1; rw [hs]
    exact Int.mul_tdiv_cancel_left _ (by omega)
  have f1 : Int.tdiv b (gc a b) = e := by
    conv => lhs; arg 1; rw [he]
    exact Int.mul_tdiv_cancel_left _ (by omega)
  have sb : s.natAbs ≤ a.natAbs := by
    conv => rhs; rw [hs, Int.natAbs_mul]
    exact Nat.le_mul_of_pos_left _ (by omega)
  have eb : e.natAbs ≤ b.natAbs := by
    conv => rhs; rw [he, Int.natAbs_mul]
    exact Nat.le_mul_of_pos_left _ (by omega)
  show (wrap64 (Int.tdiv a (gc a b)), wrap64 (Int.tdiv b (gc a b))) = (Int.tdiv a (gc a b), Int.tdiv b (gc a b))
  rw [f0, f1, w64 (by omega) (by omega), w64 (by omega) (by omega)]
/-- The values of a purse by their groups. -/
def vv (v : List Int) (g : Nat) : Int := v.getD g 0
def shapL (v : List Int) (n : Nat) : List S42 := (List.range n).map fun i => fr (sh n i (vv v) (2 ^ n) 0) (fa n)
theorem term_bound {w x y : Int} (h1 : 0 ≤ w) (h2 : w ≤ 120) (hx : -2000 ≤ x) (hy : x ≤ 2000) : -240000 ≤ w * x ∧ w * x ≤ 240000 := by
  constructor
  · calc (-240000 : Int) = 120 * (-2000) := by decide
      _ ≤ w * (-2000) := by omega
      _ ≤ w * x := Int.mul_le_mul_of_nonneg_left hx h1
  · calc w * x ≤ w * 2000 := Int.mul_le_mul_of_nonneg_left hy h1
      _ ≤ 240000 := by omega
section
variable {v : List Int} (hv : okV v = true)
include hv
theorem shap_inner (i : Nat) (hi : i < pn v.length) (den : Int) (x7 : List S42) (r : List S42) : ∀ m g acc, g + m = v.length → -240000 * (g : Int) ≤ acc → acc ≤ 240000 * (g : Int) →
    Ev (fun k => (purse_fraction.f k (acc + sh (pn v.length) i (vv v) m g) den).bind fun bt => if x7.length < 8796093022208 then purse_weighted.l0 k v ((pn v.length : Nat) : Int) den (x7 ++ [(⟨bt.1, bt.2⟩ : S42)]) ((pn v.length : Nat) : Int) (wrap64 ((i : Int) + 1)) else none) r →
    Ev (fun k => purse_weighted.l1 k v ((pn v.length : Nat) : Int) den x7 (i : Int) acc ((pn v.length : Nat) : Int) (i : Int) (v.length : Int) (g : Int)) r := by
  have hn := okV_n hv
  have hl := okN_le hn
  obtain ⟨hp, hp1, hp5⟩ := pn_pow hn
  have hval := okV_val hv
  intro m
  induction m with
  | zero =>
    intro g acc hg h1 h2 hr
    rw [show acc + sh (pn v.length) i (vv v) 0 g = acc by show acc + 0 = acc; omega] at hr
    exact Ev.step (fun k => by rw [purse_weighted.l1]) (Ev.ifn (by omega) hr)
  | succ m ih =>
    intro g acc hg h1 h2 hr
    refine Ev.step (fun k => by rw [purse_weighted.l1]) (Ev.ifp (by omega) (Ev.bindc (in_eq i g (by omega) (by omega)) ?_))
    rw [w64s (i := g) (by omega)]
    by_cases hb : g.testBit i = true
    · refine Ev.ifp hb (ih (g + 1) acc (by omega) (by omega) (by omega) ?_)
      rw [show acc + sh (pn v.length) i (vv v) m (g + 1) = acc + sh (pn v.length) i (vv v) (m + 1) g by
        show _ = acc + (tm (pn v.length) i (vv v) g + sh (pn v.length) i (vv v) m (g + 1)); unfold tm; rw [if_pos hb]; omega]
      exact hr
    · obtain ⟨f1, f2⟩ := group_facts (pn v.length) i g (by omega) hi (by omega) hb
      have hwb := weight_bound (pn v.length) (pc g) (by omega) f1
      have ha := hval (g + 2 ^ i)
      have hc := hval g
      have htb := term_bound (y := 0) hwb.1 hwb.2 (x := v.getD (g + 2 ^ i) 0 - v.getD g 0) (by omega) (by omega)
      refine Ev.ifn hb (Ev.bindc (ones_eq g (by omega)) (Ev.bindc (weight_eq _ _ (by omega) f1) (Ev.bindc (joined_eq i g (by omega) (by omega) hb) ?_)))
      refine Ev.ifp (Int.natCast_nonneg _) (Ev.ifp (Int.ofNat_lt.2 (Nat.lt_of_lt_of_eq f2 hp.symm)) (Ev.ifp (by omega) (Ev.ifp (by omega) ?_)))
      rw [rd_nat, rd_nat, w64 (a := v.getD (g + 2 ^ i) 0 - v.getD g 0) (by omega) (by omega)]
      rw [w64 (a := fa (pc g) * fa (pn v.length - pc g - 1) * (v.getD (g + 2 ^ i) 0 - v.getD g 0)) (by omega) (by omega), w64 (by omega) (by omega)]
      refine ih (g + 1) _ (by omega) (by omega) (by omega) ?_
      rw [show acc + fa (pc g) * fa (pn v.length - pc g - 1) * (v.getD (g + 2 ^ i) 0 - v.getD g 0) + sh (pn v.length) i (vv v) m (g + 1) = acc + sh (pn v.length) i (vv v) (m + 1) g by
        show _ = acc + (tm (pn v.length) i (vv v) g + sh (pn v.length) i (vv v) m (g + 1)); unfold tm; rw [if_neg hb]; show _ = acc + (fa (pc g) * fa (pn v.length - pc g - 1) * (v.getD (g + 2 ^ i) 0 - v.getD g 0) + _); omega]
      exact hr
theorem sh_bound (i : Nat) (hi : i < pn v.length) : ∀ m g, g + m ≤ v.length → -240000 * (m : Int) ≤ sh (pn v.length) i (vv v) m g ∧ sh (pn v.length) i (vv v) m g ≤ 240000 * (m : Int) := by
  have hn := okV_n hv
  obtain ⟨hp, hp1, hp5⟩ := pn_pow hn
  have hval := okV_val hv
  intro m
  induction m with
  | zero => intro g _; simp [sh]
  | succ m ih =>
    intro g hg
    have h := ih (g + 1) (by omega)
    have ht : -240000 ≤ tm (pn v.length) i (vv v) g ∧ tm (pn v.length) i (vv v) g ≤ 240000 := by
      unfold tm
      by_cases hb : g.testBit i = true
      · rw [if_pos hb]; omega
      · rw [if_neg hb]
        obtain ⟨f1, f2⟩ := group_facts (pn v.length) i g (by omega) hi (by omega) hb
        have hwb := weight_bound (pn v.length) (pc g) (by omega) f1
        have ha := hval (g + 2 ^ i)
        have hc := hval g
        exact term_bound (y := 0) hwb.1 hwb.2 (x := v.getD (g + 2 ^ i) 0 - v.getD g 0) (by omega) (by omega)
    unfold sh
    omega
theorem shap_outer : ∀ m i, i + m = pn v.length → Ev (fun k => purse_weighted.l0 k v ((pn v.length : Nat) : Int) (fa (pn v.length)) ((List.range i).map fun i => fr (sh (pn v.length) i (vv v) (2 ^ pn v.length) 0) (fa (pn v.length))) ((pn v.length : Nat) : Int) (i : Int)) (shapL v (pn v.length)) := by
  have hn := okV_n hv
  obtain ⟨hp, hp1, hp5⟩ := pn_pow hn
  obtain ⟨q1, q2, _⟩ := fact_facts (pn v.length) (by omega)
  intro m
  induction m with
  | zero =>
    intro i hi
    refine Ev.step (fun k => by rw [purse_weighted.l0]) (Ev.ifn (by omega) (Ev.val ?_))
    rw [show i = pn v.length by omega]
    rfl
  | succ m ih =>
    intro i hi
    refine Ev.step (fun k => by rw [purse_weighted.l0]) (Ev.ifp (by omega) ?_)
    refine shap_inner hv i (by omega) _ _ _ v.length 0 0 (by omega) (by omega) (by omega) ?_
    have hb := sh_bound hv i (by omega) v.length 0 (by omega)
    have hl := okN_le hn
    rw [Int.zero_add]
    refine Ev.bind (fraction_ev _ _ q1 q2 (by omega)) (Ev.ifp (by rw [List.length_map, List.length_range]; omega) ?_)
    rw [w64s (by omega)]
    have := ih (i + 1) (by omega)
    rw [List.range_succ, List.map_append] at this
    have e : 2 ^ pn v.length = v.length := hp.symm
    rw [e] at this ⊢
    exact this
theorem Shapley_ev : Ev (fun k => purse_Shapley.f k v) (shapL v (pn v.length), 0) := by
  have hn := okV_n hv
  have hl := okN_le hn
  obtain ⟨hp, hp1, hp5⟩ := pn_pow hn
  unfold purse_Shapley.f
  refine Ev.bindc (show purse_Validate.f v = some 0 by rw [Validate_eq v (by omega), if_pos hv]) (Ev.ifp rfl (Ev.bindc (players_eq v hn) (Ev.bind (fact_ev _ (by omega)) ?_)))
  unfold purse_weighted.f
  refine Ev.bind (Ev.bindc (players_eq v hn) (shap_outer hv (pn v.length) 0 (by omega))) (Ev.ifn (by omega) (Ev.now _))
end

/-! The sum of two purses, by the program and by the reference. -/
def sumL (v w : List Int) : List Int := (List.range v.length).map fun g => vv v g + vv w g
def sumJ (v w : List Int) (j : Nat) : List Int := (List.range v.length).map fun g => vv v g + (if g < j then vv w g else 0)
theorem sumL_len (v w : List Int) : (sumL v w).length = v.length := by simp [sumL]
theorem sumJ_len (v w : List Int) (j : Nat) : (sumJ v w j).length = v.length := by simp [sumJ]
theorem sumJ_zero (v w : List Int) : sumJ v w 0 = v := by
  apply List.ext_getElem
  · exact sumJ_len v w 0
  · intro q h1 h2
    simp [sumJ, vv, h2]
theorem sumJ_all (v w : List Int) : sumJ v w v.length = sumL v w := by
  unfold sumJ sumL
  apply List.map_congr_left
  intro q hq
  rw [if_pos (List.mem_range.1 hq)]
theorem sumJ_get (v w : List Int) (j q : Nat) (h : q < v.length) : (sumJ v w j).getD q 0 = vv v q + (if q < j then vv w q else 0) := by
  unfold sumJ
  rw [List.getD_eq_getElem?_getD, List.getElem?_map, List.getElem?_range h]
  rfl
theorem sumJ_set (v w : List Int) (j : Nat) (h : j < v.length) : (sumJ v w j).set j (vv v j + vv w j) = sumJ v w (j + 1) := by
  apply List.ext_getElem
  · rw [List.length_set, sumJ_len, sumJ_len]
  · intro q h1 h2
    rw [sumJ_len] at h2
    rw [List.getElem_set]
    have g : ∀ (i : Nat) (h : q < (sumJ v w i).length), (sumJ v w i)[q] = (sumJ v w i).getD q 0 := fun i h => by rw [List.getD_eq_getElem?_getD, List.getElem?_eq_getElem h]; rfl
    by_cases e : j = q
    · subst e
      rw [if_pos rfl, g, sumJ_get v w (j + 1) j h2, if_pos (by omega)]
    · rw [if_neg e, g, g, sumJ_get v w j q h2, sumJ_get v w (j + 1) q h2]
      by_cases hl : q < j
      · simp only [hl, show q < j + 1 by omega, if_true]
      · simp only [hl, show ¬ q < j + 1 by omega, if_false]
theorem sum_vv {v w : List Int} (h : v.length = w.length) (g : Nat) : vv (sumL v w) g = vv v g + vv w g := by
  unfold vv sumL
  rw [List.getD_eq_getElem?_getD, List.getElem?_map]
  by_cases hg : g < v.length
  · rw [List.getElem?_range hg]
    rfl
  · rw [List.getElem?_eq_none (by rw [List.length_range]; omega)]
    rw [List.getD_eq_getElem?_getD, List.getD_eq_getElem?_getD, List.getElem?_eq_none (by omega), List.getElem?_eq_none (by omega)]
    rfl
def addsOk (v w : List Int) : Prop := okV v = true ∧ okV w = true ∧ v.length = w.length
theorem add_loop {v w : List Int} (H : addsOk v w) : ∀ m j, j + m = v.length → Ev (fun k => purse_Add.l0 k w (sumJ v w j) (v.length : Int) (j : Int)) (if okV (sumL v w) = true then (sumL v w, 0) else ([], 3)) := by
  obtain ⟨hv, hw, hl⟩ := H
  have h32 := okN_le (okV_n hv)
  have v1 := okV_val hv
  have w1 := okV_val hw
  intro m
  induction m with
  | zero =>
    intro j hj
    refine Ev.step (fun k => by rw [purse_Add.l0]) (Ev.ifn (by omega) ?_)
    rw [show j = v.length by omega, sumJ_all]
    unfold purse_limited.f
    rw [Validate_eq (sumL v w) (by rw [sumL_len]; omega), Option.bind_some]
    by_cases h : okV (sumL v w) = true
    · rw [if_pos h, if_pos rfl, if_pos h]
      exact Ev.now _
    · rw [if_neg h, if_neg h, if_neg (by decide)]
      exact Ev.now _
  | succ m ih =>
    intro j hj
    have a := v1 j
    have b := w1 j
    refine Ev.step (fun k => by rw [purse_Add.l0]) (Ev.ifp (by omega) (Ev.ifp (by omega) (Ev.ifp (by rw [sumJ_len]; omega) (Ev.ifp (by omega) ?_))))
    rw [rd_nat, rd_nat, sumJ_get v w j j (by omega), if_neg (by omega), Int.add_zero, Int.toNat_natCast, w64s (by omega)]
    unfold vv at *
    rw [w64 (by omega) (by omega)]
    have := sumJ_set v w j (by omega)
    unfold vv at this
    rw [this]
    exact ih (j + 1) (by omega)
theorem Add_ev {v w : List Int} (H : addsOk v w) : Ev (fun k => purse_Add.f k v w) (if okV (sumL v w) = true then (sumL v w, 0) else ([], 3)) := by
  obtain ⟨hv, hw, hl⟩ := H
  have h32 := okN_le (okV_n hv)
  unfold purse_Add.f
  refine Ev.bindc (show purse_Validate.f v = some 0 by rw [Validate_eq v (by omega), if_pos hv]) (Ev.ifp rfl (Ev.bindc (show purse_Validate.f w = some 0 by rw [Validate_eq w (by omega), if_pos hw]) (Ev.ifp rfl ?_)))
  rw [show ((v.length : Int) != (w.length : Int)) = false from bne_eq_false_iff_eq.2 (by omega)]
  refine Ev.step (fun k => by rw [purse_Add.j0]) (Ev.ifn (by decide) (Ev.bindc (show slices_Clone.f v = some v by unfold slices_Clone.f; rw [if_pos (by omega)]) ?_))
  have := add_loop ⟨hv, hw, hl⟩ v.length 0 (by omega)
  rw [sumJ_zero] at this
  exact this
theorem Add_bad {v w : List Int} (hn : v.length < 1000000000000000000) (hm : w.length < 1000000000000000000) (H : ¬ addsOk v w) : Ev (fun k => purse_Add.f k v w) ([], 1) := by
  have hbad : Ev (fun k => purse_Add.j0 k v w true) ([], 1) := Ev.step (fun k => by rw [purse_Add.j0]) (Ev.ifp rfl (Ev.now _))
  unfold purse_Add.f
  refine Ev.bindc (Validate_eq v hn) ?_
  by_cases hv : okV v = true
  · rw [if_pos hv]
    refine Ev.ifp rfl (Ev.bindc (Validate_eq w hm) ?_)
    by_cases hw : okV w = true
    · rw [if_pos hw]
      refine Ev.ifp rfl ?_
      rw [show ((v.length : Int) != (w.length : Int)) = true from bne_iff_ne.2 (fun h => H ⟨hv, hw, by omega⟩)]
      exact hbad
    · rw [if_neg hw]
      exact Ev.ifn (by decide) hbad
  · rw [if_neg hv]
    exact Ev.ifn (by decide) hbad
theorem told_ev (s : List Int) (hn : s.length < 1000000000000000000) (h1 : okN s.length = true) (h0 : s.getD 0 0 = 0) : Ev (fun k => wigeonref08_told.f k s) (if okV s = true then (s, 0) else ([], 3)) := by
  unfold wigeonref08_told.f okV
  refine Ev.bind (rlimited_ev s 1000 (by decide) (by decide) hn) ?_
  rw [h1, Bool.true_and, beq_iff_eq.2 h0, Bool.true_and, show (-1000 : Int) = -(1000) from rfl]
  cases s.any (outW (-(1000)) 1000) with
  | true => exact Ev.ifn (by decide) (Ev.now _)
  | false => exact Ev.ifp rfl (Ev.now _)
theorem radd_loop {v w : List Int} (H : addsOk v w) : ∀ m j, j + m = v.length → Ev (fun k => wigeonref08_Add.l0 k v w ((List.range j).map fun g => vv v g + vv w g) (j : Int)) (if okV (sumL v w) = true then (sumL v w, 0) else ([], 3)) := by
  obtain ⟨hv, hw, hl⟩ := H
  have h32 := okN_le (okV_n hv)
  have v1 := okV_val hv
  have w1 := okV_val hw
  have z : ∀ {u : List Int}, okV u = true → u.getD 0 0 = 0 := fun h => by
    unfold okV at h
    simp only [Bool.and_eq_true, beq_iff_eq] at h
    exact h.1.2
  intro m
  induction m with
  | zero =>
    intro j hj
    refine Ev.step (fun k => by rw [wigeonref08_Add.l0]) (Ev.ifn (by omega) ?_)
    rw [show j = v.length by omega]
    have hs : (sumL v w).getD 0 0 = 0 := by
      have := sum_vv hl 0
      unfold vv at this
      rw [this, z hv, z hw]
      rfl
    have ht := told_ev (sumL v w) (by rw [sumL_len]; omega) (by rw [sumL_len]; exact okV_n hv) hs
    refine Ev.bind ht (Ev.val ?_)
    rfl
  | succ m ih =>
    intro j hj
    have a := v1 j
    have b := w1 j
    refine Ev.step (fun k => by rw [wigeonref08_Add.l0]) (Ev.ifp (by omega) (Ev.ifp (by omega) (Ev.ifp (by omega) (Ev.ifp (by rw [List.length_map, List.length_range]; omega) ?_))))
    rw [rd_nat, rd_nat, w64 (a := v.getD j 0 + w.getD j 0) (by omega) (by omega), w64s (by omega)]
    have := ih (j + 1) (by omega)
    rw [List.range_succ, List.map_append] at this
    exact this
theorem rAdd_ev {v w : List Int} (H : addsOk v w) : Ev (fun k => wigeonref08_Add.f k v w) (if okV (sumL v w) = true then (sumL v w, 0) else ([], 3)) := by
  obtain ⟨hv, hw, hl⟩ := H
  have h32 := okN_le (okV_n hv)
  have a := rValidate_ev v (by omega)
  have b := rValidate_ev w (by omega)
  rw [if_pos hv] at a
  rw [if_pos hw] at b
  unfold wigeonref08_Add.f
  exact Ev.bind a (Ev.ifp rfl (Ev.bind b (Ev.ifp rfl (Ev.ifp (by omega) (radd_loop ⟨hv, hw, hl⟩ v.length 0 (by omega))))))
theorem rAdd_bad {v w : List Int} (hn : v.length < 1000000000000000000) (hm : w.length < 1000000000000000000) (H : ¬ addsOk v w) : Ev (fun k => wigeonref08_Add.f k v w) ([], 1) := by
  unfold wigeonref08_Add.f
  refine Ev.bind (rValidate_ev v hn) ?_
  by_cases hv : okV v = true
  · rw [if_pos hv]
    refine Ev.ifp rfl (Ev.bind (rValidate_ev w hm) ?_)
    by_cases hw : okV w = true
    · rw [if_pos hw]
      exact Ev.ifp rfl (Ev.ifn (fun h => H ⟨hv, hw, by omega⟩) (Ev.now _))
    · rw [if_neg hw]
      exact Ev.ifn (by decide) (Ev.now _)
  · rw [if_neg hv]
    exact Ev.ifn (by decide) (Ev.now _)
theorem same_ev (l : List Int) (hn : l.length < 1000000000000000000) : Ev (fun k => wigeonref08_SameInts.f k l l) true := by
  unfold wigeonref08_SameInts.f
  refine Ev.ifp rfl ?_
  have key : ∀ m j, j + m = l.length → Ev (fun k => wigeonref08_SameInts.l0 k l l (j : Int)) true := by
    intro m
    induction m with
    | zero => intro j hj; exact Ev.step (fun k => by rw [wigeonref08_SameInts.l0]) (Ev.ifn (by omega) (Ev.now _))
    | succ m ih =>
      intro j hj
      refine Ev.step (fun k => by rw [wigeonref08_SameInts.l0]) (Ev.ifp (by omega) (Ev.ifp (by omega) (Ev.ifp (by omega) (Ev.ifp rfl ?_))))
      rw [w64s (by omega)]
      exact ih (j + 1) (by omega)
  exact key l.length 0 (by omega)
theorem shapL_len (v : List Int) (n : Nat) : (shapL v n).length = n := by simp [shapL]
theorem shapL_rd (v : List Int) (n p : Nat) (h : p < n) : rd_T42 (shapL v n) (p : Int) = fr (sh n p (vv v) (2 ^ n) 0) (fa n) := by
  unfold rd_T42 shapL
  rw [Int.toNat_natCast, List.getD_eq_getElem?_getD, List.getElem?_map, List.getElem?_range h]
  rfl
/-- What a gain tells over 120 parts. -/
theorem gain120 {v : List Int} (hv : okV v = true) (p : Nat) (h : p < pn v.length) : ∃ x : S42, rd_T42 (shapL v (pn v.length)) (p : Int) = x ∧ 1 ≤ x.f1 ∧ x.f1 ≤ 120 ∧ wrap64 ((120 : Int) / x.f1) = 120 / x.f1 ∧ wrap64 (x.f0 * (120 / x.f1)) = sh (pn v.length) p (vv v) (2 ^ pn v.length) 0 * (120 / fa (pn v.length)) ∧
    -1000000000 ≤ sh (pn v.length) p (vv v) (2 ^ pn v.length) 0 * (120 / fa (pn v.length)) ∧ sh (pn v.length) p (vv v) (2 ^ pn v.length) 0 * (120 / fa (pn v.length)) ≤ 1000000000 := by
  obtain ⟨hp, hp1, hp5⟩ := pn_pow (okV_n hv)
  have hl := okN_le (okV_n hv)
  obtain ⟨q1, q2, q3⟩ := fact_facts (pn v.length) (by omega)
  have hb := sh_bound hv p h (2 ^ pn v.length) 0 (by omega)
  have h32 : 2 ^ pn v.length ≤ 32 := by omega
  refine ⟨_, shapL_rd v _ p h, ?_⟩
  obtain ⟨f1, f2, _, _, f5⟩ := fr_facts (sh (pn v.length) p (vv v) (2 ^ pn v.length) 0) (fa (pn v.length)) q1 q3
  have d0 : 0 ≤ (120 : Int) / fa (pn v.length) := Int.ediv_nonneg (by decide) (by omega)
  have d1 : (120 : Int) / fa (pn v.length) ≤ 120 := Int.ediv_le_self _ (by decide)
  have e0 : 0 ≤ (120 : Int) / (fr (sh (pn v.length) p (vv v) (2 ^ pn v.length) 0) (fa (pn v.length))).f1 := Int.ediv_nonneg (by decide) (by omega)
  have e1 : (120 : Int) / (fr (sh (pn v.length) p (vv v) (2 ^ pn v.length) 0) (fa (pn v.length))).f1 ≤ 120 := Int.ediv_le_self _ (by decide)
  generalize hS : sh (pn v.length) p (vv v) (2 ^ pn v.length) 0 = S at *
  generalize hD : (120 : Int) / fa (pn v.length) = D at *
  have hS1 : -8000000 ≤ S ∧ S ≤ 8000000 := by
    have : ((2 ^ pn v.length : Nat) : Int) ≤ 32 := by exact_mod_cast h32
    omega
  have hm1 : -1000000000 ≤ S * D ∧ S * D ≤ 1000000000 := by
    constructor
    · calc (-1000000000 : Int) ≤ (-8000000) * 120 := by decide
        _ ≤ (-8000000) * D := by omega
        _ ≤ S * D := Int.mul_le_mul_of_nonneg_right hS1.1 d0
    · calc S * D ≤ 8000000 * D := Int.mul_le_mul_of_nonneg_right hS1.2 d0
        _ ≤ 1000000000 := by omega
  refine ⟨f1, by omega, w64 (by omega) (by omega), ?_, hm1.1, hm1.2⟩
  rw [f5, w64 (by omega) (by omega)]

end Go.Proofs.YtjphklemnhgkiaaDoor.Pure
