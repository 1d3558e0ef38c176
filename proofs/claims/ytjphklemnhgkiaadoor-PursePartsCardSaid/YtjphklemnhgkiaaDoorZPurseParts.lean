-- What the plain law PurseParts needs, out of the Libs of this seat.
import Derived.Test.YtjphklemnhgkiaaDoorQx0
import Derived.Test.YtjphklemnhgkiaaDoorQx2
import Derived.Test.YtjphklemnhgkiaaDoorQx4
import Derived.Test.YtjphklemnhgkiaaDoorQx7
import Derived.Test.YtjphklemnhgkiaaDoorQx9
import Derived.Test.YtjphklemnhgkiaaDoorQx10
import Derived.Test.YtjphklemnhgkiaaDoorQx18
namespace Go.Proofs.YtjphklemnhgkiaaDoor.Pure
open Go.RowKit Go.Proofs.YtjphklemnhgkiaaDoor.Q Go.Proofs.YtjphklemnhgkiaaDoorW.PrintWords Go.Proofs.YtjphklemnhgkiaaDoorW.PrintLast
set_option linter.unusedVariables false


/-! Rounds; which purses and pays are valid; what a group lacks. -/

theorem Ev.ifp {α : Type} {c : Prop} [Decidable c] {f g : Nat → Option α} {r : α} (h : c) (k : Ev f r) : Ev (fun n => if c then f n else g n) r := by
  obtain ⟨K, k⟩ := k
  exact ⟨K, fun n hn => by show (if c then f n else g n) = some r; rw [if_pos h]; exact k n hn⟩
theorem Ev.ifn {α : Type} {c : Prop} [Decidable c] {f g : Nat → Option α} {r : α} (h : ¬ c) (k : Ev g r) : Ev (fun n => if c then f n else g n) r := by
  obtain ⟨K, k⟩ := k
  exact ⟨K, fun n hn => by show (if c then f n else g n) = some r; rw [if_neg h]; exact k n hn⟩
theorem Ev.bindc {α β : Type} {g : Option α} {f : Nat → α → Option β} {a : α} {r : β} (h : g = some a) (k : Ev (fun n => f n a) r) : Ev (fun n => g.bind (f n)) r := by
  subst h
  exact k
theorem Ev.val {α : Type} {a r : α} (h : a = r) : Ev (fun _ => some a) r := by
  subst h
  exact Ev.now _
theorem w64 {a : Int} (h0 : -9223372036854775808 ≤ a) (h1 : a < 9223372036854775808) : wrap64 a = a := by unfold wrap64; omega
theorem w64s {i : Nat} (h : i < 1000000000000000000) : wrap64 ((i : Int) + 1) = ((i + 1 : Nat) : Int) := by rw [w64 (by omega) (by omega)]; omega
theorem rd_nat (l : List Int) (i : Nat) : rd l (i : Int) = l.getD i 0 := by unfold rd; rw [Int.toNat_natCast]
/-- The number of players. -/
def pn (n : Nat) : Nat := tzN n 0 10
def okN (n : Nat) : Bool := n == 2 || n == 4 || n == 8 || n == 16 || n == 32
theorem okN_le {n : Nat} (h : okN n = true) : 2 ≤ n ∧ n ≤ 32 := by
  unfold okN at h
  simp only [Bool.or_eq_true, beq_iff_eq] at h
  omega
theorem isCount_eq (n : Nat) (hn : n < 1000000000000000000) : purse_isCount.f (n : Int) = some (okN n) := by
  unfold purse_isCount.f purse_within.f
  by_cases h2 : (n : Int) ≥ 2
  · rw [if_pos h2]
    by_cases h3 : (n : Int) ≤ 32
    · simp only [decide_eq_true h3, Option.bind_some, if_true]
      have h : ∀ m : Fin 33, 2 ≤ m.val → ((Go.bits .and .i64 (m.val : Int) (wrap64 ((m.val : Int) - 1))) == 0) = okN m.val := by decide +kernel
      exact congrArg some (h ⟨n, by omega⟩ (by show 2 ≤ n; omega))
    · have : okN n = false := by
        unfold okN
        simp only [Bool.or_eq_false_iff, beq_eq_false_iff_ne]
        omega
      simp only [decide_eq_false h3, Option.bind_some, Bool.false_eq_true, if_false, this]
  · rw [if_neg h2]
    have : okN n = false := by
      unfold okN
      simp only [Bool.or_eq_false_iff, beq_eq_false_iff_ne]
      omega
    simp only [Option.bind_some, Bool.false_eq_true, if_false, this]
/-- A purse is valid. -/
def okV (v : List Int) : Bool := okN v.length && (v.getD 0 0 == 0) && !(v.any (outW (-1000) 1000))
theorem Validate_eq (v : List Int) (hn : v.length < 1000000000000000000) : purse_Validate.f v = some (if okV v = true then 0 else 1) := by
  unfold purse_Validate.f okV
  rw [isCount_eq _ hn, Option.bind_some]
  cases hc : okN v.length with
  | false => simp
  | true =>
    have := okN_le hc
    rw [if_pos rfl, if_pos (by omega)]
    rw [show rd v 0 = v.getD 0 0 from rd_nat v 0]
    by_cases h0 : v.getD 0 0 = 0
    · rw [if_pos h0]
      unfold purse_badV.f
      rw [Option.bind_some]
      simp only [Bool.true_and, h0, beq_self_eq_true]
      cases v.any (outW (-1000) 1000) <;> simp
    · rw [if_neg h0]
      have h0' : (v.getD 0 0 == 0) = false := beq_eq_false_iff_ne.2 h0
      simp only [h0', Bool.and_false, Bool.false_and, Bool.false_eq_true, if_false]
theorem players_eq (v : List Int) (h : okN v.length = true) : purse_players.f v = some (pn v.length : Int) := by
  have hl := okN_le h
  unfold purse_players.f bits_TrailingZeros.f
  have hw : IntKind.u64.wrap (v.length : Int) = (v.length : Int) := by
    rw [IntKind.wrap_u64]
    omega
  rw [hw, if_pos ⟨by omega, by omega⟩, Int.toNat_natCast, Option.bind_some]
  rfl
theorem okV_n {v : List Int} (h : okV v = true) : okN v.length = true := by
  unfold okV at h
  simp only [Bool.and_eq_true] at h
  exact h.1.1
theorem okV_val {v : List Int} (h : okV v = true) (g : Nat) : -1000 ≤ v.getD g 0 ∧ v.getD g 0 ≤ 1000 := by
  unfold okV at h
  simp only [Bool.and_eq_true, Bool.not_eq_true'] at h
  have ha := h.2
  rw [List.getD_eq_getElem?_getD]
  by_cases hg : g < v.length
  · rw [List.getElem?_eq_getElem hg]
    have := List.any_eq_false.1 ha _ (List.getElem_mem hg)
    unfold outW at this
    simp only [Bool.or_eq_true, decide_eq_true_eq, not_or] at this
    show _ ≤ v[g] ∧ v[g] ≤ _
    omega
  · rw [List.getElem?_eq_none (by omega)]
    show (-1000 : Int) ≤ 0 ∧ (0 : Int) ≤ 1000
    omega
theorem pn_pow {n : Nat} (h : okN n = true) : n = 2 ^ pn n ∧ 1 ≤ pn n ∧ pn n ≤ 5 := by
  unfold okN at h
  simp only [Bool.or_eq_true, beq_iff_eq] at h
  rcases h with (((h | h) | h) | h) | h <;> subst h <;> decide
theorem in_eq (i g : Nat) (hi : i < 8) (hg : g < 32) : purse_player_in.f (i : Int) (g : Int) = some (g.testBit i) := by
  have h : ∀ (i : Fin 8) (g : Fin 32), purse_player_in.f (i.val : Int) (g.val : Int) = some (g.val.testBit i.val) := by decide +kernel
  exact h ⟨i, hi⟩ ⟨g, hg⟩

/-! The chapter's examples are answered. -/
set_option maxRecDepth 100000 in
theorem known_eq : wigeonlaw08_known.f 100 = some true := by decide +kernel
theorem known_ev : Ev (fun k => wigeonlaw08_known.f k) true := Ev.of wigeonlaw08_known.mono known_eq
theorem known_bind : Ev (fun k => (wigeonlaw08_known.f k).bind fun t => some t) true := Ev.bind known_ev (Ev.now _)
def longP (v w : List Int) : Bool := decide (200 < v.length) || decide (200 < w.length)
theorem long_eq (v w : List Int) : wigeonlaw08_long.f v w = some (longP v w) := by
  unfold wigeonlaw08_long.f longP
  by_cases h : 200 < v.length
  · rw [if_pos (by omega), decide_eq_true h, Bool.true_or]
  · rw [if_neg (by omega), decide_eq_false h, Bool.false_or]
    congr 1
    exact decide_eq_decide.2 (by omega)
theorem long_no {v w : List Int} (h : longP v w = false) : v.length ≤ 200 ∧ w.length ≤ 200 := by
  unfold longP at h
  simp only [Bool.or_eq_false_iff, decide_eq_false_iff_not] at h
  omega

/-! The average gains: what the program's sums are, and their fractions. -/
def fa : Nat → Int
  | 0 => 1
  | n + 1 => ((n + 1 : Nat) : Int) * fa n
def pc (g : Nat) : Nat := (if g.testBit 0 = true then 1 else 0) + (if g.testBit 1 = true then 1 else 0) + (if g.testBit 2 = true then 1 else 0) + (if g.testBit 3 = true then 1 else 0) + (if g.testBit 4 = true then 1 else 0)
theorem ones_eq (g : Nat) (h : g < 32) : bits_OnesCount.f (IntKind.u64.wrap (g : Int)) = some ((pc g : Nat) : Int) := by
  have : ∀ g : Fin 32, bits_OnesCount.f (IntKind.u64.wrap (g.val : Int)) = some ((pc g.val : Nat) : Int) := by decide +kernel
  exact this ⟨g, h⟩
theorem joined_eq (i g : Nat) (hi : i < 5) (hg : g < 32) (hb : ¬ g.testBit i = true) : purse_player_joined.f (i : Int) (g : Int) = some ((g + 2 ^ i : Nat) : Int) := by
  have : ∀ (i : Fin 5) (g : Fin 32), ¬ g.val.testBit i.val = true → purse_player_joined.f (i.val : Int) (g.val : Int) = some ((g.val + 2 ^ i.val : Nat) : Int) := by decide +kernel
  exact this ⟨i, hi⟩ ⟨g, hg⟩ hb
theorem weight_eq (n s : Nat) (hn : n < 6) (hs : s < n) : purse_weight.f (n : Int) (s : Int) = some (fa s * fa (n - s - 1)) := by
  have : ∀ (n s : Fin 6), s.val < n.val → purse_weight.f (n.val : Int) (s.val : Int) = some (fa s.val * fa (n.val - s.val - 1)) := by decide +kernel
  exact this ⟨n, hn⟩ ⟨s, by omega⟩ hs
theorem weight_bound (n s : Nat) (hn : n < 6) (hs : s < n) : 0 ≤ fa s * fa (n - s - 1) ∧ fa s * fa (n - s - 1) ≤ 120 := by
  have : ∀ (n s : Fin 6), s.val < n.val → 0 ≤ fa s.val * fa (n.val - s.val - 1) ∧ fa s.val * fa (n.val - s.val - 1) ≤ 120 := by decide +kernel
  exact this ⟨n, hn⟩ ⟨s, by omega⟩ hs
theorem group_facts (n i g : Nat) (hn : n < 6) (hi : i < n) (hg : g < 2 ^ n) (hb : ¬ g.testBit i = true) : pc g < n ∧ g + 2 ^ i < 2 ^ n := by
  have : ∀ (n : Fin 6) (i : Fin 5) (g : Fin 32), i.val < n.val → g.val < 2 ^ n.val → ¬ g.val.testBit i.val = true → pc g.val < n.val ∧ g.val + 2 ^ i.val < 2 ^ n.val := by decide +kernel
  have h32 : 2 ^ n ≤ 2 ^ 5 := Nat.pow_le_pow_right (show 0 < 2 by decide) (by omega)
  exact this ⟨n, hn⟩ ⟨i, by omega⟩ ⟨g, by omega⟩ hi hg hb
theorem fact_ev (n : Nat) (hn : n < 6) : Ev (fun k => purse_factorial.f k (n : Int)) (fa n) := by
  have : ∀ n : Fin 6, purse_factorial.f 10 (n.val : Int) = some (fa n.val) := by decide +kernel
  exact Ev.of (fun k => purse_factorial.mono (n : Int) k) (this ⟨n, hn⟩)
theorem fact_facts (n : Nat) (hn : n < 6) : 1 ≤ fa n ∧ fa n ≤ 120 ∧ fa n ∣ 120 := by
  have : ∀ n : Fin 6, 1 ≤ fa n.val ∧ fa n.val ≤ 120 ∧ fa n.val * (120 / fa n.val) = 120 := by decide +kernel
  obtain ⟨a, b, c⟩ := this ⟨n, hn⟩
  exact ⟨a, b, ⟨_, c.symm⟩⟩
/-- What a group without the player tells of it. -/
def tm (n i : Nat) (V : Nat → Int) (g : Nat) : Int := if g.testBit i = true then 0 else fa (pc g) * fa (n - pc g - 1) * (V (g + 2 ^ i) - V g)
def sh (n i : Nat) (V : Nat → Int) : Nat → Nat → Int
  | 0, _ => 0
  | m + 1, g => tm n i V g + sh n i V m (g + 1)
/-- The greatest common divisor, and a fraction in lowest terms. -/
def gc (a b : Int) : Int := ((Nat.gcd a.natAbs b.natAbs : Nat) : Int)
def fr (a b : Int) : S42 := ⟨Int.tdiv a (gc a b), Int.tdiv b (gc a b)⟩
theorem divisor_loop : ∀ (m : Nat) (a b : Int), b.natAbs < m → a.natAbs < 1000000000 → b.natAbs < 1000000000 → Ev (fun k => purse_divisor.l0 k a b) (gc a b) := by
  intro m
  induction m with
  | zero => intro a b h; omega
  | succ m ih =>
    intro a b hb ha hb9
    refine Ev.step (fun k => by rw [purse_divisor.l0]) ?_
    by_cases h : b = 0
    · refine Ev.ifp h (Ev.val ?_)
      subst h
      unfold gc mx
      rw [w64 (by omega) (by omega), Int.natAbs_zero, Nat.gcd_zero_right]
      by_cases h0 : a < -a
      · rw [if_pos h0]; omega
      · rw [if_neg h0]; omega
    · refine Ev.ifn h ?_
      have hr : (Int.tmod a b).natAbs = a.natAbs % b.natAbs := Int.natAbs_tmod a b
      have hlt : a.natAbs % b.natAbs < b.natAbs := Nat.mod_lt _ (by omega)
      have e : gc a b = gc b (Int.tmod a b) := by
        unfold gc
        rw [hr, Nat.gcd_comm a.natAbs b.natAbs, Nat.gcd_rec b.natAbs a.natAbs, Nat.gcd_comm]
      rw [e]
      exact ih b (Int.tmod a b) (by omega) hb9 (by omega)
theorem gc_dvd (a b : Int) : gc a b ∣ a ∧ gc a b ∣ b := by
  unfold gc
  exact ⟨Int.ofNat_dvd_left.2 (Nat.gcd_dvd_left _ _), Int.ofNat_dvd_left.2 (Nat.gcd_dvd_right _ _)⟩
theorem gc_pos (a b : Int) (hb : 1 ≤ b) : 1 ≤ gc a b := by
  unfold gc
  have := Nat.gcd_pos_of_pos_right a.natAbs (show 0 < b.natAbs by omega)
  omega
theorem fr_facts (a b : Int) (hb : 1 ≤ b) (hd : b ∣ 120) : 1 ≤ (fr a b).f1 ∧ (fr a b).f1 ≤ b ∧ -(a.natAbs : Int) ≤ (fr a b).f0 ∧ (fr a b).f0 ≤ (a.natAbs : Int) ∧ (fr a b).f0 * (120 / (fr a b).f1) = a * (120 / b) := by
  have hg := gc_pos a b hb
  obtain ⟨⟨s, hs⟩, ⟨e, he⟩⟩ := gc_dvd a b
  obtain ⟨q, hq⟩ := hd
  have f0 : (fr a b).f0 = s := by
    show Int.tdiv a (gc a b) = s
    conv => lhs; arg 1; rw [hs]
    exact Int.mul_tdiv_cancel_left _ (by omega)
  have f1 : (fr a b).f1 = e := by
    show Int.tdiv b (gc a b) = e
    conv => lhs; arg 1; rw [he]
    exact Int.mul_tdiv_cancel_left _ (by omega)
  generalize gc a b = G at *
  have e1 : 1 ≤ e := by
    refine Decidable.byContradiction fun h => ?_
    have : G * e ≤ 0 := Int.mul_nonpos_of_nonneg_of_nonpos (by omega) (by omega)
    omega
  have eb : e ≤ b := by
    have : 1 * e ≤ G * e := Int.mul_le_mul_of_nonneg_right hg (by omega)
    omega
  have sb : s.natAbs ≤ a.natAbs := by
    rw [hs, Int.natAbs_mul]
    exact Nat.le_mul_of_pos_left _ (by omega)
  have h1 : (120 : Int) / b = q := by
    rw [hq]
    exact Int.mul_ediv_cancel_left _ (by omega)
  have h2 : (120 : Int) / e = G * q := by
    rw [hq, he, Int.mul_comm G e, Int.mul_assoc]
    exact Int.mul_ediv_cancel_left _ (by omega)
  rw [f0, f1, h1, h2]
  refine ⟨e1, eb, by omega, by omega, ?_⟩
  rw [hs, ← Int.mul_assoc, Int.mul_comm s G]
theorem fraction_ev (a b : Int) (hb : 1 ≤ b) (hb2 : b ≤ 120) (ha : a.natAbs < 1000000000) : Ev (fun k => purse_fraction.f k a b) ((fr a b).f0, (fr a b).f1) := by
  have hg := gc_pos a b hb
  unfold purse_fraction.f
  refine Ev.bind (show Ev (fun k => purse_divisor.f k a b) (gc a b) from divisor_loop (b.natAbs + 1) a b (by omega) ha (by omega)) (Ev.ifn (by omega) (Ev.val ?_))
  obtain ⟨⟨s, hs⟩, ⟨e, he⟩⟩ := gc_dvd a b
  have f0 : Int.tdiv a (gc a b) = s := by
    conv => lhs; arg 1; rw [hs]
    exact Int.mul_tdiv_cancel_left _ (by omega)
  have f1 : Int.tdiv b (gc a b) = e := by
    conv => lhs; arg 1; rw [he]
    exact Int.mul_tdiv_cancel_left _ (by omega)
  have sb : s.natAbs ≤ a.natAbs := by
    conv => rhs; rw [hs, Int.natAbs_mul]
    exact Nat.le_mul_of_pos_left _ (by omega)
  have eb : e.natAbs ≤ b.natAbs := by
    conv => rhs; rw [he, Int.natAbs_mul]
    exact Nat.le_mul_of_pos_left _ (by omega)
  show (wrap64 (Int.tdiv a (gc a b)), wrap64 (Int.tdiv b (gc a b))) = (Int.tdiv a (gc a b), Int.tdiv b (gc a b))
  rw [f0, f1, w64 (by omega) (by omega), w64 (by omega) (by omega)]
/-- The values of a purse by their groups. -/
def vv (v : List Int) (g : Nat) : Int := v.getD g 0
def shapL (v : List Int) (n : Nat) : List S42 := (List.range n).map fun i => fr (sh n i (vv v) (2 ^ n) 0) (fa n)
theorem term_bound {w x y : Int} (h1 : 0 ≤ w) (h2 : w ≤ 120) (hx : -2000 ≤ x) (hy : x ≤ 2000) : -240000 ≤ w * x ∧ w * x ≤ 240000 := by
  constructor
  · calc (-240000 : Int) = 120 * (-2000) := by decide
      _ ≤ w * (-2000) := by omega
      _ ≤ w * x := Int.mul_le_mul_of_nonneg_left hx h1
  · calc w * x ≤ w * 2000 := Int.mul_le_mul_of_nonneg_left hy h1
      _ ≤ 240000 := by omega
section
variable {v : List Int} (hv : okV v = true)
include hv
theorem shap_inner (i : Nat) (hi : i < pn v.length) (den : Int) (x7 : List S42) (r : List S42) : ∀ m g acc, g + m = v.length → -240000 * (g : Int) ≤ acc → acc ≤ 240000 * (g : Int) →
    Ev (fun k => (purse_fraction.f k (acc + sh (pn v.length) i (vv v) m g) den).bind fun bt => if x7.length < 8796093022208 then purse_weighted.l0 k v ((pn v.length : Nat) : Int) den (x7 ++ [(⟨bt.1, bt.2⟩ : S42)]) ((pn v.length : Nat) : Int) (wrap64 ((i : Int) + 1)) else none) r →
    Ev (fun k => purse_weighted.l1 k v ((pn v.length : Nat) : Int) den x7 (i : Int) acc ((pn v.length : Nat) : Int) (i : Int) (v.length : Int) (g : Int)) r := by
  have hn := okV_n hv
  have hl := okN_le hn
  obtain ⟨hp, hp1, hp5⟩ := pn_pow hn
  have hval := okV_val hv
  intro m
  induction m with
  | zero =>
    intro g acc hg h1 h2 hr
    rw [show acc + sh (pn v.length) i (vv v) 0 g = acc by show acc + 0 = acc; omega] at hr
    exact Ev.step (fun k => by rw [purse_weighted.l1]) (Ev.ifn (by omega) hr)
  | succ m ih =>
    intro g acc hg h1 h2 hr
    refine Ev.step (fun k => by rw [purse_weighted.l1]) (Ev.ifp (by omega) (Ev.bindc (in_eq i g (by omega) (by omega)) ?_))
    rw [w64s (i := g) (by omega)]
    by_cases hb : g.testBit i = true
    · refine Ev.ifp hb (ih (g + 1) acc (by omega) (by omega) (by omega) ?_)
      rw [show acc + sh (pn v.length) i (vv v) m (g + 1) = acc + sh (pn v.length) i (vv v) (m + 1) g by
        show _ = acc + (tm (pn v.length) i (vv v) g + sh (pn v.length) i (vv v) m (g + 1)); unfold tm; rw [if_pos hb]; omega]
      exact hr
    · obtain ⟨f1, f2⟩ := group_facts (pn v.length) i g (by omega) hi (by omega) hb
      have hwb := weight_bound (pn v.length) (pc g) (by omega) f1
      have ha := hval (g + 2 ^ i)
      have hc := hval g
      have htb := term_bound (y := 0) hwb.1 hwb.2 (x := v.getD (g + 2 ^ i) 0 - v.getD g 0) (by omega) (by omega)
      refine Ev.ifn hb (Ev.bindc (ones_eq g (by omega)) (Ev.bindc (weight_eq _ _ (by omega) f1) (Ev.bindc (joined_eq i g (by omega) (by omega) hb) ?_)))
      refine Ev.ifp (Int.natCast_nonneg _) (Ev.ifp (Int.ofNat_lt.2 (Nat.lt_of_lt_of_eq f2 hp.symm)) (Ev.ifp (by omega) (Ev.ifp (by omega) ?_)))
      rw [rd_nat, rd_nat, w64 (a := v.getD (g + 2 ^ i) 0 - v.getD g 0) (by omega) (by omega)]
      rw [w64 (a := fa (pc g) * fa (pn v.length - pc g - 1) * (v.getD (g + 2 ^ i) 0 - v.getD g 0)) (by omega) (by omega), w64 (by omega) (by omega)]
      refine ih (g + 1) _ (by omega) (by omega) (by omega) ?_
      rw [show acc + fa (pc g) * fa (pn v.length - pc g - 1) * (v.getD (g + 2 ^ i) 0 - v.getD g 0) + sh (pn v.length) i (vv v) m (g + 1) = acc + sh (pn v.length) i (vv v) (m + 1) g by
        show _ = acc + (tm (pn v.length) i (vv v) g + sh (pn v.length) i (vv v) m (g + 1)); unfold tm; rw [if_neg hb]; show _ = acc + (fa (pc g) * fa (pn v.length - pc g - 1) * (v.getD (g + 2 ^ i) 0 - v.getD g 0) + _); omega]
      exact hr
theorem sh_bound (i : Nat) (hi : i < pn v.length) : ∀ m g, g + m ≤ v.length → -240000 * (m : Int) ≤ sh (pn v.length) i (vv v) m g ∧ sh (pn v.length) i (vv v) m g ≤ 240000 * (m : Int) := by
  have hn := okV_n hv
  obtain ⟨hp, hp1, hp5⟩ := pn_pow hn
  have hval := okV_val hv
  intro m
  induction m with
  | zero => intro g _; simp [sh]
  | succ m ih =>
    intro g hg
    have h := ih (g + 1) (by omega)
    have ht : -240000 ≤ tm (pn v.length) i (vv v) g ∧ tm (pn v.length) i (vv v) g ≤ 240000 := by
      unfold tm
      by_cases hb : g.testBit i = true
      · rw [if_pos hb]; omega
      · rw [if_neg hb]
        obtain ⟨f1, f2⟩ := group_facts (pn v.length) i g (by omega) hi (by omega) hb
        have hwb := weight_bound (pn v.length) (pc g) (by omega) f1
        have ha := hval (g + 2 ^ i)
        have hc := hval g
        exact term_bound (y := 0) hwb.1 hwb.2 (x := v.getD (g + 2 ^ i) 0 - v.getD g 0) (by omega) (by omega)
    unfold sh
    omega
theorem shap_outer : ∀ m i, i + m = pn v.length → Ev (fun k => purse_weighted.l0 k v ((pn v.length : Nat) : Int) (fa (pn v.length)) ((List.range i).map fun i => fr (sh (pn v.length) i (vv v) (2 ^ pn v.length) 0) (fa (pn v.length))) ((pn v.length : Nat) : Int) (i : Int)) (shapL v (pn v.length)) := by
  have hn := okV_n hv
  obtain ⟨hp, hp1, hp5⟩ := pn_pow hn
  obtain ⟨q1, q2, _⟩ := fact_facts (pn v.length) (by omega)
  intro m
  induction m with
  | zero =>
    intro i hi
    refine Ev.step (fun k => by rw [purse_weighted.l0]) (Ev.ifn (by omega) (Ev.val ?_))
    rw [show i = pn v.length by omega]
    rfl
  | succ m ih =>
    intro i hi
    refine Ev.step (fun k => by rw [purse_weighted.l0]) (Ev.ifp (by omega) ?_)
    refine shap_inner hv i (by omega) _ _ _ v.length 0 0 (by omega) (by omega) (by omega) ?_
    have hb := sh_bound hv i (by omega) v.length 0 (by omega)
    have hl := okN_le hn
    rw [Int.zero_add]
    refine Ev.bind (fraction_ev _ _ q1 q2 (by omega)) (Ev.ifp (by rw [List.length_map, List.length_range]; omega) ?_)
    rw [w64s (by omega)]
    have := ih (i + 1) (by omega)
    rw [List.range_succ, List.map_append] at this
    have e : 2 ^ pn v.length = v.length := hp.symm
    rw [e] at this ⊢
    exact this
theorem Shapley_ev : Ev (fun k => purse_Shapley.f k v) (shapL v (pn v.length), 0) := by
  have hn := okV_n hv
  have hl := okN_le hn
  obtain ⟨hp, hp1, hp5⟩ := pn_pow hn
  unfold purse_Shapley.f
  refine Ev.bindc (show purse_Validate.f v = some 0 by rw [Validate_eq v (by omega), if_pos hv]) (Ev.ifp rfl (Ev.bindc (players_eq v hn) (Ev.bind (fact_ev _ (by omega)) ?_)))
  unfold purse_weighted.f
  refine Ev.bind (Ev.bindc (players_eq v hn) (shap_outer hv (pn v.length) 0 (by omega))) (Ev.ifn (by omega) (Ev.now _))
end
theorem shapL_len (v : List Int) (n : Nat) : (shapL v n).length = n := by simp [shapL]
theorem shapL_rd (v : List Int) (n p : Nat) (h : p < n) : rd_T42 (shapL v n) (p : Int) = fr (sh n p (vv v) (2 ^ n) 0) (fa n) := by
  unfold rd_T42 shapL
  rw [Int.toNat_natCast, List.getD_eq_getElem?_getD, List.getElem?_map, List.getElem?_range h]
  rfl

/-! Dividends: what the program's passes leave; the players' equal parts of them are the average gains. -/
def dvP (V : Nat → Int) : Nat → Nat → Int
  | 0, g => V g
  | i + 1, g => dvP V i g - (if g.testBit i = true then dvP V i (g - 2 ^ i) else 0)
def bsum (g : Nat) : Nat → Nat
  | 0 => 0
  | i + 1 => bsum g i + (if g.testBit i = true then 1 else 0)
def tp (n p : Nat) (D : Nat → Int) (g : Nat) : Int := if g.testBit p = true then D g * (60 / ((bsum g n : Nat) : Int)) else 0
def sp (n p : Nat) (D : Nat → Int) : Nat → Nat → Int
  | 0, _ => 0
  | m + 1, g => tp n p D g + sp n p D m (g + 1)
def unit (m g : Nat) : Int := if g = m then 1 else 0
theorem sh_lin (n i : Nat) (V W U : Nat → Int) (c : Int) (h : ∀ g, U g = V g + c * W g) : ∀ m g, sh n i U m g = sh n i V m g + c * sh n i W m g := by
  intro m
  induction m with
  | zero => intro g; simp [sh]
  | succ m ih =>
    intro g
    unfold sh
    rw [ih (g + 1), Int.mul_add]
    have : tm n i U g = tm n i V g + c * tm n i W g := by
      unfold tm
      by_cases hb : g.testBit i = true
      · rw [if_pos hb, if_pos hb, if_pos hb]; omega
      · rw [if_neg hb, if_neg hb, if_neg hb, h, h]
        generalize fa (pc g) * fa (n - pc g - 1) = f
        rw [show V (g + 2 ^ i) + c * W (g + 2 ^ i) - (V g + c * W g) = (V (g + 2 ^ i) - V g) + c * (W (g + 2 ^ i) - W g) by rw [Int.mul_sub]; omega, Int.mul_add, ← Int.mul_assoc, ← Int.mul_assoc, Int.mul_comm f c]
    omega
theorem dvP_lin (V W U : Nat → Int) (c : Int) (h : ∀ g, U g = V g + c * W g) : ∀ i g, dvP U i g = dvP V i g + c * dvP W i g := by
  intro i
  induction i with
  | zero => intro g; exact h g
  | succ i ih =>
    intro g
    unfold dvP
    rw [ih g, ih (g - 2 ^ i), Int.mul_sub]
    by_cases hb : g.testBit i = true
    · rw [if_pos hb, if_pos hb, if_pos hb]; omega
    · rw [if_neg hb, if_neg hb, if_neg hb]; omega
theorem sp_lin (n p : Nat) (V W U : Nat → Int) (c : Int) (h : ∀ g, U g = V g + c * W g) : ∀ m g, sp n p U m g = sp n p V m g + c * sp n p W m g := by
  intro m
  induction m with
  | zero => intro g; simp [sp]
  | succ m ih =>
    intro g
    unfold sp
    rw [ih (g + 1), Int.mul_add]
    have : tp n p U g = tp n p V g + c * tp n p W g := by
      unfold tp
      by_cases hb : g.testBit p = true
      · rw [if_pos hb, if_pos hb, if_pos hb, h, Int.add_mul, Int.mul_assoc]
      · rw [if_neg hb, if_neg hb, if_neg hb]; omega
    omega
theorem dvP_loc (V W : Nat → Int) (N : Nat) (h : ∀ g, g < N → V g = W g) : ∀ i g, g < N → dvP V i g = dvP W i g := by
  intro i
  induction i with
  | zero => intro g hg; exact h g hg
  | succ i ih =>
    intro g hg
    unfold dvP
    rw [ih g hg, ih (g - 2 ^ i) (Nat.lt_of_le_of_lt (Nat.sub_le _ _) hg)]
theorem sp_loc (n p : Nat) (V W : Nat → Int) (N : Nat) (h : ∀ g, g < N → V g = W g) : ∀ m g, g + m ≤ N → sp n p V m g = sp n p W m g := by
  intro m
  induction m with
  | zero => intro g _; rfl
  | succ m ih =>
    intro g hg
    unfold sp tp
    rw [ih (g + 1) (by omega), h g (by omega)]
theorem sh_loc (n i : Nat) (hn : n < 6) (hi : i < n) (V W : Nat → Int) (h : ∀ g, g < 2 ^ n → V g = W g) : ∀ m g, g + m ≤ 2 ^ n → sh n i V m g = sh n i W m g := by
  intro m
  induction m with
  | zero => intro g _; rfl
  | succ m ih =>
    intro g hg
    unfold sh tm
    rw [ih (g + 1) (by omega)]
    by_cases hb : g.testBit i = true
    · rw [if_pos hb, if_pos hb]
    · rw [if_neg hb, if_neg hb, h g (by omega), h (g + 2 ^ i) (group_facts n i g hn hi (by omega) hb).2]
def FF (n p : Nat) (V : Nat → Int) : Int := 60 * sh n p V (2 ^ n) 0 - fa n * sp n p (dvP V n) (2 ^ n) 0
set_option maxRecDepth 100000 in
theorem FF_unit : ∀ (n : Fin 6) (p : Fin 5), p.val < n.val → FF n.val p.val (fun _ => 0) = 0 ∧ ∀ m : Fin 32, m.val < 2 ^ n.val → FF n.val p.val (unit m.val) = 0 := by decide +kernel
theorem FF_lin (n p : Nat) (V W U : Nat → Int) (c : Int) (h : ∀ g, U g = V g + c * W g) : FF n p U = FF n p V + c * FF n p W := by
  unfold FF
  rw [sh_lin n p V W U c h, sp_lin n p (dvP V n) (dvP W n) (dvP U n) c (fun g => dvP_lin V W U c h n g), Int.mul_add, Int.mul_add, Int.mul_sub]
  rw [← Int.mul_assoc 60 c, Int.mul_comm 60 c, Int.mul_assoc c 60, ← Int.mul_assoc (fa n) c, Int.mul_comm (fa n) c, Int.mul_assoc c (fa n)]
  omega
/-- 60 times a player's gain is as much as its equal parts of the dividends, over all orders. -/
theorem parts_eq (n p : Nat) (hn : n < 6) (hp : p < n) (V : Nat → Int) : 60 * sh n p V (2 ^ n) 0 = fa n * sp n p (dvP V n) (2 ^ n) 0 := by
  obtain ⟨z, u⟩ := FF_unit ⟨n, hn⟩ ⟨p, by omega⟩ hp
  have h32 : 2 ^ n ≤ 2 ^ 5 := Nat.pow_le_pow_right (show 0 < 2 by decide) (by omega)
  have key : ∀ m, m ≤ 2 ^ n → FF n p (fun g => if g < m then V g else 0) = 0 := by
    intro m
    induction m with
    | zero =>
      intro _
      have e : (fun g => if g < 0 then V g else (0 : Int)) = fun _ => 0 := by
        funext g
        rw [if_neg (by omega)]
      rw [e]
      exact z
    | succ m ih =>
      intro hm
      rw [FF_lin n p (fun g => if g < m then V g else 0) (unit m) _ (V m) (fun g => ?_), ih (by omega), u ⟨m, by omega⟩ (by show m < 2 ^ n; omega)]
      · omega
      · show (if g < m + 1 then V g else 0) = (if g < m then V g else 0) + V m * (if g = m then 1 else 0)
        by_cases e : g = m
        · subst e
          rw [if_pos (by omega), if_neg (by omega), if_pos rfl]
          omega
        · rw [if_neg e]
          by_cases l : g < m
          · rw [if_pos (by omega), if_pos l]; omega
          · rw [if_neg (by omega), if_neg l]; omega
  have h := key (2 ^ n) (Nat.le_refl _)
  have hloc : ∀ g, g < 2 ^ n → (if g < 2 ^ n then V g else 0) = V g := fun g hg => if_pos hg
  unfold FF at h
  rw [sh_loc n p hn hp _ V hloc (2 ^ n) 0 (by omega), sp_loc n p _ (dvP V n) (2 ^ n) (fun g hg => dvP_loc _ V (2 ^ n) hloc n g hg) (2 ^ n) 0 (by omega)] at h
  omega
theorem andNot_eq (i g : Nat) (hi : i < 5) (hg : g < 32) (hb : g.testBit i = true) : Go.bits .andNot .i64 (g : Int) (shl .i64 1 (i : Int)) = ((g - 2 ^ i : Nat) : Int) ∧ g - 2 ^ i < g ∧ ¬ (g - 2 ^ i).testBit i = true := by
  have : ∀ (i : Fin 5) (g : Fin 32), g.val.testBit i.val = true → Go.bits .andNot .i64 (g.val : Int) (shl .i64 1 (i.val : Int)) = ((g.val - 2 ^ i.val : Nat) : Int) ∧ g.val - 2 ^ i.val < g.val ∧ ¬ (g.val - 2 ^ i.val).testBit i.val = true := by decide +kernel
  exact this ⟨i, hi⟩ ⟨g, hg⟩ hb
theorem dvP_bound (V : Nat → Int) (h : ∀ g, -1000 ≤ V g ∧ V g ≤ 1000) : ∀ i g, -(1000 * ((2 ^ i : Nat) : Int)) ≤ dvP V i g ∧ dvP V i g ≤ 1000 * ((2 ^ i : Nat) : Int) := by
  intro i
  induction i with
  | zero =>
    intro g
    have := h g
    show -(1000 * ((2 ^ 0 : Nat) : Int)) ≤ V g ∧ V g ≤ 1000 * ((2 ^ 0 : Nat) : Int)
    simp
    omega
  | succ i ih =>
    intro g
    have a := ih g
    have b := ih (g - 2 ^ i)
    have e : ((2 ^ (i + 1) : Nat) : Int) = 2 * ((2 ^ i : Nat) : Int) := by rw [Nat.pow_succ]; omega
    unfold dvP
    rw [e]
    generalize ((2 ^ i : Nat) : Int) = z at *
    by_cases hb : g.testBit i = true
    · rw [if_pos hb]; omega
    · rw [if_neg hb]; omega
def dvS (v : List Int) (i g0 : Nat) : List Int := (List.range v.length).map fun q => if q < g0 then dvP (vv v) (i + 1) q else dvP (vv v) i q
theorem dvS_len (v : List Int) (i g0 : Nat) : (dvS v i g0).length = v.length := by simp [dvS]
theorem dvS_get (v : List Int) (i g0 q : Nat) (h : q < v.length) : (dvS v i g0).getD q 0 = if q < g0 then dvP (vv v) (i + 1) q else dvP (vv v) i q := by
  unfold dvS
  rw [List.getD_eq_getElem?_getD, List.getElem?_map, List.getElem?_range h]
  rfl
theorem dvS_next (v : List Int) (i : Nat) : dvS v i v.length = dvS v (i + 1) 0 := by
  unfold dvS
  apply List.map_congr_left
  intro q hq
  rw [if_pos (List.mem_range.1 hq), if_neg (by omega)]
theorem dvS_zero (v : List Int) : dvS v 0 0 = v := by
  apply List.ext_getElem
  · exact dvS_len v 0 0
  · intro q h1 h2
    simp [dvS, dvP, vv, h2]
theorem dvS_set (v : List Int) (i g : Nat) (h : g < v.length) (x : Int) (hx : x = dvP (vv v) (i + 1) g) : (dvS v i g).set g x = dvS v i (g + 1) := by
  apply List.ext_getElem
  · rw [List.length_set, dvS_len, dvS_len]
  · intro q h1 h2
    rw [dvS_len] at h2
    rw [List.getElem_set]
    have e0 : ∀ (j : Nat) (h : q < (dvS v i j).length), (dvS v i j)[q] = (dvS v i j).getD q 0 := fun j h => by rw [List.getD_eq_getElem?_getD, List.getElem?_eq_getElem h]; rfl
    by_cases e : g = q
    · subst e
      rw [if_pos rfl, e0, dvS_get v i (g + 1) g h2, if_pos (by omega), hx]
    · rw [if_neg e, e0, e0, dvS_get v i g q h2, dvS_get v i (g + 1) q h2]
      by_cases hl : q < g
      · simp only [hl, show q < g + 1 by omega, if_true]
      · simp only [hl, show ¬ q < g + 1 by omega, if_false]
theorem dvS_same (v : List Int) (i g : Nat) (hb : ¬ g.testBit i = true) : dvS v i g = dvS v i (g + 1) := by
  unfold dvS
  apply List.map_congr_left
  intro q _
  by_cases hl : q < g
  · simp only [hl, show q < g + 1 by omega, if_true]
  · by_cases e : q = g
    · subst e
      rw [if_neg hl, if_pos (by omega)]
      show _ = dvP (vv v) i q - _
      rw [if_neg hb]
      omega
    · simp only [hl, show ¬ q < g + 1 by omega, if_false]
def dvL (v : List Int) : List Int := dvS v (pn v.length) 0
section
variable {v : List Int} (hv : okV v = true)
include hv
theorem div_inner (i : Nat) (hi : i < pn v.length) (r : List Int × Int) (hnext : Ev (fun k => purse_Dividends.l0 k (dvS v (i + 1) 0) ((pn v.length : Nat) : Int) ((i + 1 : Nat) : Int)) r) : ∀ m g, g + m = v.length →
    Ev (fun k => purse_Dividends.l1 k (dvS v i g) (i : Int) ((pn v.length : Nat) : Int) (i : Int) (v.length : Int) (g : Int)) r := by
  have hn := okV_n hv
  have hl := okN_le hn
  obtain ⟨hp, hp1, hp5⟩ := pn_pow hn
  have hbd := dvP_bound (vv v) (okV_val hv)
  intro m
  induction m with
  | zero =>
    intro g hg
    refine Ev.step (fun k => by rw [purse_Dividends.l1]) (Ev.ifn (by omega) ?_)
    rw [show g = v.length by omega, dvS_next, w64s (by omega)]
    exact hnext
  | succ m ih =>
    intro g hg
    refine Ev.step (fun k => by rw [purse_Dividends.l1]) (Ev.ifp (by omega) (Ev.bindc (in_eq i g (by omega) (by omega)) ?_))
    rw [w64s (by omega)]
    by_cases hb : g.testBit i = true
    · obtain ⟨a1, a2, a3⟩ := andNot_eq i g (by omega) (by omega) hb
      have b1 := hbd i g
      have b2 := hbd i (g - 2 ^ i)
      have h16 : 2 ^ i ≤ 2 ^ 5 := Nat.pow_le_pow_right (show 0 < 2 by decide) (by omega)
      have hlt : ((2 ^ i : Nat) : Int) ≤ 32 := Int.ofNat_le.2 h16
      refine Ev.ifp hb (Ev.ifp (by omega) (Ev.ifp (by rw [dvS_len]; omega) (Ev.ifp (by omega) ?_)))
      rw [a1]
      generalize hz : g - 2 ^ i = z at *
      generalize ((2 ^ i : Nat) : Int) = t at *
      refine Ev.ifp (by omega) (Ev.ifp (by rw [dvS_len]; omega) ?_)
      rw [rd_nat, rd_nat, dvS_get v i g g (by omega), dvS_get v i g z (by omega), if_neg (by omega), if_pos a2, Int.toNat_natCast]
      have hcl : dvP (vv v) (i + 1) z = dvP (vv v) i z := by
        show dvP (vv v) i z - _ = _
        rw [if_neg a3]
        omega
      rw [hcl, w64 (by omega) (by omega), dvS_set v i g (by omega) _ (by show _ = dvP (vv v) i g - _; rw [if_pos hb, hz])]
      exact ih (g + 1) (by omega)
    · refine Ev.ifn hb ?_
      rw [dvS_same v i g hb]
      exact ih (g + 1) (by omega)
theorem Dividends_ev : Ev (fun k => purse_Dividends.f k v) (dvL v, 0) := by
  have hn := okV_n hv
  have hl := okN_le hn
  obtain ⟨hp, hp1, hp5⟩ := pn_pow hn
  have outer : ∀ m i, i + m = pn v.length → Ev (fun k => purse_Dividends.l0 k (dvS v i 0) ((pn v.length : Nat) : Int) (i : Int)) (dvL v, 0) := by
    intro m
    induction m with
    | zero =>
      intro i hi
      refine Ev.step (fun k => by rw [purse_Dividends.l0]) (Ev.ifn (by omega) (Ev.val ?_))
      rw [show i = pn v.length by omega]
      rfl
    | succ m ih =>
      intro i hi
      refine Ev.step (fun k => by rw [purse_Dividends.l0]) (Ev.ifp (by omega) ?_)
      have := div_inner hv i (by omega) (dvL v, 0) (ih (i + 1) (by omega)) v.length 0 (by omega)
      rw [dvS_len]
      exact this
  unfold purse_Dividends.f
  refine Ev.bindc (show purse_Validate.f v = some 0 by rw [Validate_eq v (by omega), if_pos hv]) (Ev.ifp rfl (Ev.bindc (show slices_Clone.f v = some v by unfold slices_Clone.f; rw [if_pos (by omega)]) (Ev.bindc (players_eq v hn) ?_)))
  have := outer (pn v.length) 0 (by omega)
  rw [dvS_zero] at this
  exact this
end

end Go.Proofs.YtjphklemnhgkiaaDoor.Pure
