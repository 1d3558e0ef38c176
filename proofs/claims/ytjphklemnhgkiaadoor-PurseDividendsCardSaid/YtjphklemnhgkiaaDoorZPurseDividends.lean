-- What the plain law PurseDividends needs, out of the Libs of this seat.
import Derived.Test.YtjphklemnhgkiaaDoorQx2
import Derived.Test.YtjphklemnhgkiaaDoorQx4
import Derived.Test.YtjphklemnhgkiaaDoorQx10
import Derived.Test.YtjphklemnhgkiaaDoorQx11
import Derived.Test.YtjphklemnhgkiaaDoorQx18
import Derived.Test.YtjphklemnhgkiaaDoorQx20
import Derived.Test.YtjphklemnhgkiaaDoorQx22
import Derived.Test.YtjphklemnhgkiaaDoorQx23
import Derived.Test.YtjphklemnhgkiaaDoorQx24
namespace Go.Proofs.YtjphklemnhgkiaaDoor.Pure
open Go.RowKit Go.Proofs.YtjphklemnhgkiaaDoor.Q Go.Proofs.YtjphklemnhgkiaaDoorW.PrintWords Go.Proofs.YtjphklemnhgkiaaDoorW.PrintLast
set_option linter.unusedVariables false


/-! Rounds; which purses and pays are valid; what a group lacks. -/

theorem Ev.ifp {α : Type} {c : Prop} [Decidable c] {f g : Nat → Option α} {r : α} (h : c) (k : Ev f r) : Ev (fun n => if c then f n else g n) r := by
  obtain ⟨K, k⟩ := k
  exact ⟨K, fun n hn => by show (if c then f n else g n) = some r; rw [if_pos h]; exact k n hn⟩
theorem Ev.ifn {α : Type} {c : Prop} [Decidable c] {f g : Nat → Option α} {r : α} (h : ¬ c) (k : Ev g r) : Ev (fun n => if c then f n else g n) r := by
  obtain ⟨K, k⟩ := k
  exact ⟨K, fun n hn => by show (if c then f n else g n) = some r; rw [if_neg h]; exact k n hn⟩
theorem Ev.bindc {α β : Type} {g : Option α} {f : Nat → α → Option β} {a : α} {r : β} (h : g = some a) (k : Ev (fun n => f n a) r) : Ev (fun n => g.bind (f n)) r := by
  subst h
  exact k
theorem Ev.val {α : Type} {a r : α} (h : a = r) : Ev (fun _ => some a) r := by
  subst h
  exact Ev.now _
theorem w64 {a : Int} (h0 : -9223372036854775808 ≤ a) (h1 : a < 9223372036854775808) : wrap64 a = a := by unfold wrap64; omega
theorem w64s {i : Nat} (h : i < 1000000000000000000) : wrap64 ((i : Int) + 1) = ((i + 1 : Nat) : Int) := by rw [w64 (by omega) (by omega)]; omega
theorem rd_nat (l : List Int) (i : Nat) : rd l (i : Int) = l.getD i 0 := by unfold rd; rw [Int.toNat_natCast]
/-- The number of players. -/
def pn (n : Nat) : Nat := tzN n 0 10
def okN (n : Nat) : Bool := n == 2 || n == 4 || n == 8 || n == 16 || n == 32
theorem okN_le {n : Nat} (h : okN n = true) : 2 ≤ n ∧ n ≤ 32 := by
  unfold okN at h
  simp only [Bool.or_eq_true, beq_iff_eq] at h
  omega
theorem isCount_eq (n : Nat) (hn : n < 1000000000000000000) : purse_isCount.f (n : Int) = some (okN n) := by
  unfold purse_isCount.f purse_within.f
  by_cases h2 : (n : Int) ≥ 2
  · rw [if_pos h2]
    by_cases h3 : (n : Int) ≤ 32
    · simp only [decide_eq_true h3, Option.bind_some, if_true]
      have h : ∀ m : Fin 33, 2 ≤ m.val → ((Go.bits .and .i64 (m.val : Int) (wrap64 ((m.val : Int) - 1))) == 0) = okN m.val := by decide +kernel
      exact congrArg some (h ⟨n, by omega⟩ (by show 2 ≤ n; omega))
    · have : okN n = false := by
        unfold okN
        simp only [Bool.or_eq_false_iff, beq_eq_false_iff_ne]
        omega
      simp only [decide_eq_false h3, Option.bind_some, Bool.false_eq_true, if_false, this]
  · rw [if_neg h2]
    have : okN n = false := by
      unfold okN
      simp only [Bool.or_eq_false_iff, beq_eq_false_iff_ne]
      omega
    simp only [Option.bind_some, Bool.false_eq_true, if_false, this]
/-- A purse is valid. -/
def okV (v : List Int) : Bool := okN v.length && (v.getD 0 0 == 0) && !(v.any (outW (-1000) 1000))
theorem Validate_eq (v : List Int) (hn : v.length < 1000000000000000000) : purse_Validate.f v = some (if okV v = true then 0 else 1) := by
  unfold purse_Validate.f okV
  rw [isCount_eq _ hn, Option.bind_some]
  cases hc : okN v.length with
  | false => simp
  | true =>
    have := okN_le hc
    rw [if_pos rfl, if_pos (by omega)]
    rw [show rd v 0 = v.getD 0 0 from rd_nat v 0]
    by_cases h0 : v.getD 0 0 = 0
    · rw [if_pos h0]
      unfold purse_badV.f
      rw [Option.bind_some]
      simp only [Bool.true_and, h0, beq_self_eq_true]
      cases v.any (outW (-1000) 1000) <;> simp
    · rw [if_neg h0]
      have h0' : (v.getD 0 0 == 0) = false := beq_eq_false_iff_ne.2 h0
      simp only [h0', Bool.and_false, Bool.false_and, Bool.false_eq_true, if_false]
theorem players_eq (v : List Int) (h : okN v.length = true) : purse_players.f v = some (pn v.length : Int) := by
  have hl := okN_le h
  unfold purse_players.f bits_TrailingZeros.f
  have hw : IntKind.u64.wrap (v.length : Int) = (v.length : Int) := by
    rw [IntKind.wrap_u64]
    omega
  rw [hw, if_pos ⟨by omega, by omega⟩, Int.toNat_natCast, Option.bind_some]
  rfl
theorem okV_n {v : List Int} (h : okV v = true) : okN v.length = true := by
  unfold okV at h
  simp only [Bool.and_eq_true] at h
  exact h.1.1
theorem okV_val {v : List Int} (h : okV v = true) (g : Nat) : -1000 ≤ v.getD g 0 ∧ v.getD g 0 ≤ 1000 := by
  unfold okV at h
  simp only [Bool.and_eq_true, Bool.not_eq_true'] at h
  have ha := h.2
  rw [List.getD_eq_getElem?_getD]
  by_cases hg : g < v.length
  · rw [List.getElem?_eq_getElem hg]
    have := List.any_eq_false.1 ha _ (List.getElem_mem hg)
    unfold outW at this
    simp only [Bool.or_eq_true, decide_eq_true_eq, not_or] at this
    show _ ≤ v[g] ∧ v[g] ≤ _
    omega
  · rw [List.getElem?_eq_none (by omega)]
    show (-1000 : Int) ≤ 0 ∧ (0 : Int) ≤ 1000
    omega
theorem pn_pow {n : Nat} (h : okN n = true) : n = 2 ^ pn n ∧ 1 ≤ pn n ∧ pn n ≤ 5 := by
  unfold okN at h
  simp only [Bool.or_eq_true, beq_iff_eq] at h
  rcases h with (((h | h) | h) | h) | h <;> subst h <;> decide
theorem in_eq (i g : Nat) (hi : i < 8) (hg : g < 32) : purse_player_in.f (i : Int) (g : Int) = some (g.testBit i) := by
  have h : ∀ (i : Fin 8) (g : Fin 32), purse_player_in.f (i.val : Int) (g.val : Int) = some (g.val.testBit i.val) := by decide +kernel
  exact h ⟨i, hi⟩ ⟨g, hg⟩

/-! The chapter's examples are answered. -/
set_option maxRecDepth 100000 in
theorem known_eq : wigeonlaw08_known.f 100 = some true := by decide +kernel
theorem known_ev : Ev (fun k => wigeonlaw08_known.f k) true := Ev.of wigeonlaw08_known.mono known_eq
theorem known_bind : Ev (fun k => (wigeonlaw08_known.f k).bind fun t => some t) true := Ev.bind known_ev (Ev.now _)
def longP (v w : List Int) : Bool := decide (200 < v.length) || decide (200 < w.length)
theorem long_eq (v w : List Int) : wigeonlaw08_long.f v w = some (longP v w) := by
  unfold wigeonlaw08_long.f longP
  by_cases h : 200 < v.length
  · rw [if_pos (by omega), decide_eq_true h, Bool.true_or]
  · rw [if_neg (by omega), decide_eq_false h, Bool.false_or]
    congr 1
    exact decide_eq_decide.2 (by omega)
theorem long_no {v w : List Int} (h : longP v w = false) : v.length ≤ 200 ∧ w.length ≤ 200 := by
  unfold longP at h
  simp only [Bool.or_eq_false_iff, decide_eq_false_iff_not] at h
  omega

/-! The reference: valid purses and pays, excesses, the core. -/
theorem rplayers_ev (n : Nat) : Ev (fun k => wigeonref08_players.f k (n : Int)) (if okN n = true then (pn n : Int) else -1) := by
  unfold wigeonref08_players.f
  have hs : ∀ i : Fin 6, 1 ≤ i.val → shl .i64 1 (IntKind.u64.wrap (i.val : Int)) = ((2 ^ i.val : Nat) : Int) ∧ 0 ≤ IntKind.u64.wrap (i.val : Int) ∧ wrap64 ((i.val : Int) + 1) = ((i.val + 1 : Nat) : Int) := by decide +kernel
  have key : ∀ m i : Nat, i + m = 6 → 1 ≤ i → (∀ j, 1 ≤ j → j < i → n ≠ 2 ^ j) → Ev (fun k => wigeonref08_players.l0 k (n : Int) (i : Int)) (if okN n = true then (pn n : Int) else -1) := by
    intro m
    induction m with
    | zero =>
      intro i hi _ hno
      refine Ev.step (fun k => by rw [wigeonref08_players.l0]) (Ev.ifn (by omega) (Ev.val ?_))
      have h1 := hno 1 (by omega) (by omega)
      have h2 := hno 2 (by omega) (by omega)
      have h3 := hno 3 (by omega) (by omega)
      have h4 := hno 4 (by omega) (by omega)
      have h5 := hno 5 (by omega) (by omega)
      rw [if_neg]
      intro h
      unfold okN at h
      simp only [Bool.or_eq_true, beq_iff_eq] at h
      rcases h with (((h | h) | h) | h) | h <;> subst h <;> simp at h1 h2 h3 h4 h5
    | succ m ih =>
      intro i hi h1 hno
      obtain ⟨e1, e2, e3⟩ := hs ⟨i, by omega⟩ h1
      refine Ev.step (fun k => by rw [wigeonref08_players.l0]) (Ev.ifp (by omega) (Ev.ifp e2 ?_))
      rw [e1, e3]
      by_cases hn : n = 2 ^ i
      · refine Ev.ifp (by rw [hn]) (Ev.val ?_)
        have hd : ∀ j : Fin 6, 1 ≤ j.val → okN (2 ^ j.val) = true ∧ pn (2 ^ j.val) = j.val := by decide +kernel
        obtain ⟨d1, d2⟩ := hd ⟨i, by omega⟩ h1
        rw [hn, if_pos d1]
        exact congrArg (fun x : Nat => (x : Int)) d2.symm
      · refine Ev.ifn (fun h => hn (Int.ofNat.inj h)) (ih (i + 1) (by omega) (by omega) (fun j hj hl => ?_))
        by_cases e : j = i
        · rw [e]; exact hn
        · exact hno j hj (by omega)
  exact key 5 1 (by omega) (by omega) (fun j h1 h2 => by omega)
theorem rlimited_ev (l : List Int) (m : Int) (hm : 0 ≤ m) (hm2 : m < 1000000000) (hl : l.length < 1000000000000000000) : Ev (fun k => wigeonref08_limited.f k l m) (!(l.any (outW (-m) m))) := by
  unfold wigeonref08_limited.f
  have key : ∀ q j, j + q = l.length → Ev (fun k => wigeonref08_limited.l0 k l m (j : Int)) (!((l.drop j).any (outW (-m) m))) := by
    intro q
    induction q with
    | zero =>
      intro j hj
      refine Ev.step (fun k => by rw [wigeonref08_limited.l0]) (Ev.ifn (by omega) (Ev.val ?_))
      rw [show j = l.length by omega, List.drop_length]
      rfl
    | succ q ih =>
      intro j hj
      have hjl : j < l.length := by omega
      refine Ev.step (fun k => by rw [wigeonref08_limited.l0]) (Ev.ifp (by omega) (Ev.ifp (by omega) ?_))
      rw [rd_nat, w64 (a := -m) (by omega) (by omega), w64s (by omega), List.getD_eq_getElem?_getD, List.getElem?_eq_getElem hjl, List.drop_eq_getElem_cons hjl, List.any_cons]
      show Ev (fun k => (wigeonref08_within.f l[j] (-m) m).bind _) _
      unfold wigeonref08_within.f outW
      by_cases h1 : l[j] ≥ -m
      · rw [if_pos h1]
        by_cases h2 : l[j] ≤ m
        · refine Ev.bindc rfl (Ev.ifp (decide_eq_true h2) ?_)
          rw [decide_eq_false (show ¬ l[j] < -m by omega), decide_eq_false (show ¬ l[j] > m by omega), Bool.false_or, Bool.false_or]
          exact ih (j + 1) (by omega)
        · refine Ev.bindc rfl (Ev.ifn (fun q => h2 (of_decide_eq_true q)) (Ev.val ?_))
          rw [decide_eq_true (show l[j] > m by omega), Bool.or_true, Bool.true_or]
          rfl
      · rw [if_neg h1]
        refine Ev.bindc rfl (Ev.ifn (by decide) (Ev.val ?_))
        rw [decide_eq_true (show l[j] < -m by omega), Bool.true_or, Bool.true_or]
        rfl
  exact key l.length 0 (by omega)
theorem rValidate_ev (v : List Int) (hn : v.length < 1000000000000000000) : Ev (fun k => wigeonref08_Validate.f k v) (if okV v = true then 0 else 1) := by
  unfold wigeonref08_Validate.f okV
  refine Ev.bind (rplayers_ev v.length) ?_
  cases hc : okN v.length with
  | false =>
    simp only [Bool.false_eq_true, if_false, Bool.false_and]
    exact Ev.ifp (by decide) (Ev.now _)
  | true =>
    have hl := okN_le hc
    rw [if_pos rfl, Bool.true_and]
    refine Ev.ifn (by omega) (Ev.bind (rlimited_ev v 1000 (by decide) (by decide) hn) ?_)
    rw [show (-1000 : Int) = -(1000) from rfl]
    cases ha : v.any (outW (-(1000)) 1000) with
    | true =>
      simp only [Bool.not_true, Bool.and_false, Bool.false_eq_true, if_false]
      exact Ev.now _
    | false =>
      rw [Bool.not_false, Bool.and_true]
      refine Ev.ifp rfl (Ev.ifp (by omega) ?_)
      rw [show rd v 0 = v.getD 0 0 from rd_nat v 0]
      by_cases h0 : v.getD 0 0 = 0
      · rw [if_pos (beq_iff_eq.2 h0)]
        exact Ev.ifp h0 (Ev.now _)
      · rw [if_neg (fun q => h0 (beq_iff_eq.1 q))]
        exact Ev.ifn h0 (Ev.now _)
/-- The values of a purse by their groups. -/
def vv (v : List Int) (g : Nat) : Int := v.getD g 0
theorem told_ev (s : List Int) (hn : s.length < 1000000000000000000) (h1 : okN s.length = true) (h0 : s.getD 0 0 = 0) : Ev (fun k => wigeonref08_told.f k s) (if okV s = true then (s, 0) else ([], 3)) := by
  unfold wigeonref08_told.f okV
  refine Ev.bind (rlimited_ev s 1000 (by decide) (by decide) hn) ?_
  rw [h1, Bool.true_and, beq_iff_eq.2 h0, Bool.true_and, show (-1000 : Int) = -(1000) from rfl]
  cases s.any (outW (-(1000)) 1000) with
  | true => exact Ev.ifn (by decide) (Ev.now _)
  | false => exact Ev.ifp rfl (Ev.now _)
theorem same_ev (l : List Int) (hn : l.length < 1000000000000000000) : Ev (fun k => wigeonref08_SameInts.f k l l) true := by
  unfold wigeonref08_SameInts.f
  refine Ev.ifp rfl ?_
  have key : ∀ m j, j + m = l.length → Ev (fun k => wigeonref08_SameInts.l0 k l l (j : Int)) true := by
    intro m
    induction m with
    | zero => intro j hj; exact Ev.step (fun k => by rw [wigeonref08_SameInts.l0]) (Ev.ifn (by omega) (Ev.now _))
    | succ m ih =>
      intro j hj
      refine Ev.step (fun k => by rw [wigeonref08_SameInts.l0]) (Ev.ifp (by omega) (Ev.ifp (by omega) (Ev.ifp (by omega) (Ev.ifp rfl ?_))))
      rw [w64s (by omega)]
      exact ih (j + 1) (by omega)
  exact key l.length 0 (by omega)

/-! Dividends: what the program's passes leave; the players' equal parts of them are the average gains. -/
def dvP (V : Nat → Int) : Nat → Nat → Int
  | 0, g => V g
  | i + 1, g => dvP V i g - (if g.testBit i = true then dvP V i (g - 2 ^ i) else 0)
def unit (m g : Nat) : Int := if g = m then 1 else 0
theorem dvP_lin (V W U : Nat → Int) (c : Int) (h : ∀ g, U g = V g + c * W g) : ∀ i g, dvP U i g = dvP V i g + c * dvP W i g := by
  intro i
  induction i with
  | zero => intro g; exact h g
  | succ i ih =>
    intro g
    unfold dvP
    rw [ih g, ih (g - 2 ^ i), Int.mul_sub]
    by_cases hb : g.testBit i = true
    · rw [if_pos hb, if_pos hb, if_pos hb]; omega
    · rw [if_neg hb, if_neg hb, if_neg hb]; omega
theorem dvP_loc (V W : Nat → Int) (N : Nat) (h : ∀ g, g < N → V g = W g) : ∀ i g, g < N → dvP V i g = dvP W i g := by
  intro i
  induction i with
  | zero => intro g hg; exact h g hg
  | succ i ih =>
    intro g hg
    unfold dvP
    rw [ih g hg, ih (g - 2 ^ i) (Nat.lt_of_le_of_lt (Nat.sub_le _ _) hg)]
theorem andNot_eq (i g : Nat) (hi : i < 5) (hg : g < 32) (hb : g.testBit i = true) : Go.bits .andNot .i64 (g : Int) (shl .i64 1 (i : Int)) = ((g - 2 ^ i : Nat) : Int) ∧ g - 2 ^ i < g ∧ ¬ (g - 2 ^ i).testBit i = true := by
  have : ∀ (i : Fin 5) (g : Fin 32), g.val.testBit i.val = true → Go.bits .andNot .i64 (g.val : Int) (shl .i64 1 (i.val : Int)) = ((g.val - 2 ^ i.val : Nat) : Int) ∧ g.val - 2 ^ i.val < g.val ∧ ¬ (g.val - 2 ^ i.val).testBit i.val = true := by decide +kernel
  exact this ⟨i, hi⟩ ⟨g, hg⟩ hb
theorem dvP_bound (V : Nat → Int) (h : ∀ g, -1000 ≤ V g ∧ V g ≤ 1000) : ∀ i g, -(1000 * ((2 ^ i : Nat) : Int)) ≤ dvP V i g ∧ dvP V i g ≤ 1000 * ((2 ^ i : Nat) : Int) := by
  intro i
  induction i with
  | zero =>
    intro g
    have := h g
    show -(1000 * ((2 ^ 0 : Nat) : Int)) ≤ V g ∧ V g ≤ 1000 * ((2 ^ 0 : Nat) : Int)
    simp
    omega
  | succ i ih =>
    intro g
    have a := ih g
    have b := ih (g - 2 ^ i)
    have e : ((2 ^ (i + 1) : Nat) : Int) = 2 * ((2 ^ i : Nat) : Int) := by rw [Nat.pow_succ]; omega
    unfold dvP
    rw [e]
    generalize ((2 ^ i : Nat) : Int) = z at *
    by_cases hb : g.testBit i = true
    · rw [if_pos hb]; omega
    · rw [if_neg hb]; omega
def dvS (v : List Int) (i g0 : Nat) : List Int := (List.range v.length).map fun q => if q < g0 then dvP (vv v) (i + 1) q else dvP (vv v) i q
theorem dvS_len (v : List Int) (i g0 : Nat) : (dvS v i g0).length = v.length := by simp [dvS]
theorem dvS_get (v : List Int) (i g0 q : Nat) (h : q < v.length) : (dvS v i g0).getD q 0 = if q < g0 then dvP (vv v) (i + 1) q else dvP (vv v) i q := by
  unfold dvS
  rw [List.getD_eq_getElem?_getD, List.getElem?_map, List.getElem?_range h]
  rfl
theorem dvS_next (v : List Int) (i : Nat) : dvS v i v.length = dvS v (i + 1) 0 := by
  unfold dvS
  apply List.map_congr_left
  intro q hq
  rw [if_pos (List.mem_range.1 hq), if_neg (by omega)]
theorem dvS_zero (v : List Int) : dvS v 0 0 = v := by
  apply List.ext_getElem
  · exact dvS_len v 0 0
  · intro q h1 h2
    simp [dvS, dvP, vv, h2]
theorem dvS_set (v : List Int) (i g : Nat) (h : g < v.length) (x : Int) (hx : x = dvP (vv v) (i + 1) g) : (dvS v i g).set g x = dvS v i (g + 1) := by
  apply List.ext_getElem
  · rw [List.length_set, dvS_len, dvS_len]
  · intro q h1 h2
    rw [dvS_len] at h2
    rw [List.getElem_set]
    have e0 : ∀ (j : Nat) (h : q < (dvS v i j).length), (dvS v i j)[q] = (dvS v i j).getD q 0 := fun j h => by rw [List.getD_eq_getElem?_getD, List.getElem?_eq_getElem h]; rfl
    by_cases e : g = q
    · subst e
      rw [if_pos rfl, e0, dvS_get v i (g + 1) g h2, if_pos (by omega), hx]
    · rw [if_neg e, e0, e0, dvS_get v i g q h2, dvS_get v i (g + 1) q h2]
      by_cases hl : q < g
      · simp only [hl, show q < g + 1 by omega, if_true]
      · simp only [hl, show ¬ q < g + 1 by omega, if_false]
theorem dvS_same (v : List Int) (i g : Nat) (hb : ¬ g.testBit i = true) : dvS v i g = dvS v i (g + 1) := by
  unfold dvS
  apply List.map_congr_left
  intro q _
  by_cases hl : q < g
  · simp only [hl, show q < g + 1 by omega, if_true]
  · by_cases e : q = g
    · subst e
      rw [if_neg hl, if_pos (by omega)]
      show _ = dvP (vv v) i q - _
      rw [if_neg hb]
      omega
    · simp only [hl, show ¬ q < g + 1 by omega, if_false]
def dvL (v : List Int) : List Int := dvS v (pn v.length) 0
section
variable {v : List Int} (hv : okV v = true)
include hv
theorem div_inner (i : Nat) (hi : i < pn v.length) (r : List Int × Int) (hnext : Ev (fun k => purse_Dividends.l0 k (dvS v (i + 1) 0) ((pn v.length : Nat) : Int) ((i + 1 : Nat) : Int)) r) : ∀ m g, g + m = v.length →
    Ev (fun k => purse_Dividends.l1 k (dvS v i g) (i : Int) ((pn v.length : Nat) : Int) (i : Int) (v.length : Int) (g : Int)) r := by
  have hn := okV_n hv
  have hl := okN_le hn
  obtain ⟨hp, hp1, hp5⟩ := pn_pow hn
  have hbd := dvP_bound (vv v) (okV_val hv)
  intro m
  induction m with
  | zero =>
    intro g hg
    refine Ev.step (fun k => by rw [purse_Dividends.l1]) (Ev.ifn (by omega) ?_)
    rw [show g = v.length by omega, dvS_next, w64s (by omega)]
    exact hnext
  | succ m ih =>
    intro g hg
    refine Ev.step (fun k => by rw [purse_Dividends.l1]) (Ev.ifp (by omega) (Ev.bindc (in_eq i g (by omega) (by omega)) ?_))
    rw [w64s (by omega)]
    by_cases hb : g.testBit i = true
    · obtain ⟨a1, a2, a3⟩ := andNot_eq i g (by omega) (by omega) hb
      have b1 := hbd i g
      have b2 := hbd i (g - 2 ^ i)
      have h16 : 2 ^ i ≤ 2 ^ 5 := Nat.pow_le_pow_right (show 0 < 2 by decide) (by omega)
      have hlt : ((2 ^ i : Nat) : Int) ≤ 32 := Int.ofNat_le.2 h16
      refine Ev.ifp hb (Ev.ifp (by omega) (Ev.ifp (by rw [dvS_len]; omega) (Ev.ifp (by omega) ?_)))
      rw [a1]
      generalize hz : g - 2 ^ i = z at *
      generalize ((2 ^ i : Nat) : Int) = t at *
      refine Ev.ifp (by omega) (Ev.ifp (by rw [dvS_len]; omega) ?_)
      rw [rd_nat, rd_nat, dvS_get v i g g (by omega), dvS_get v i g z (by omega), if_neg (by omega), if_pos a2, Int.toNat_natCast]
      have hcl : dvP (vv v) (i + 1) z = dvP (vv v) i z := by
        show dvP (vv v) i z - _ = _
        rw [if_neg a3]
        omega
      rw [hcl, w64 (by omega) (by omega), dvS_set v i g (by omega) _ (by show _ = dvP (vv v) i g - _; rw [if_pos hb, hz])]
      exact ih (g + 1) (by omega)
    · refine Ev.ifn hb ?_
      rw [dvS_same v i g hb]
      exact ih (g + 1) (by omega)
theorem Dividends_ev : Ev (fun k => purse_Dividends.f k v) (dvL v, 0) := by
  have hn := okV_n hv
  have hl := okN_le hn
  obtain ⟨hp, hp1, hp5⟩ := pn_pow hn
  have outer : ∀ m i, i + m = pn v.length → Ev (fun k => purse_Dividends.l0 k (dvS v i 0) ((pn v.length : Nat) : Int) (i : Int)) (dvL v, 0) := by
    intro m
    induction m with
    | zero =>
      intro i hi
      refine Ev.step (fun k => by rw [purse_Dividends.l0]) (Ev.ifn (by omega) (Ev.val ?_))
      rw [show i = pn v.length by omega]
      rfl
    | succ m ih =>
      intro i hi
      refine Ev.step (fun k => by rw [purse_Dividends.l0]) (Ev.ifp (by omega) ?_)
      have := div_inner hv i (by omega) (dvL v, 0) (ih (i + 1) (by omega)) v.length 0 (by omega)
      rw [dvS_len]
      exact this
  unfold purse_Dividends.f
  refine Ev.bindc (show purse_Validate.f v = some 0 by rw [Validate_eq v (by omega), if_pos hv]) (Ev.ifp rfl (Ev.bindc (show slices_Clone.f v = some v by unfold slices_Clone.f; rw [if_pos (by omega)]) (Ev.bindc (players_eq v hn) ?_)))
  have := outer (pn v.length) 0 (by omega)
  rw [dvS_zero] at this
  exact this
end

/-! A purse from its dividends: the program's passes and the reference's sums; each gives the other one back. -/
def fvP (V : Nat → Int) : Nat → Nat → Int
  | 0, g => V g
  | i + 1, g => fvP V i g + (if g.testBit i = true then fvP V i (g - 2 ^ i) else 0)
def ps (D : Nat → Int) (h : Nat) : Nat → Int
  | 0 => 0
  | g + 1 => ps D h g + (if g &&& h = g then D g else 0)
theorem fvP_lin (V W U : Nat → Int) (c : Int) (h : ∀ g, U g = V g + c * W g) : ∀ i g, fvP U i g = fvP V i g + c * fvP W i g := by
  intro i
  induction i with
  | zero => intro g; exact h g
  | succ i ih =>
    intro g
    unfold fvP
    rw [ih g, ih (g - 2 ^ i), Int.mul_add]
    by_cases hb : g.testBit i = true
    · rw [if_pos hb, if_pos hb, if_pos hb]; omega
    · rw [if_neg hb, if_neg hb, if_neg hb]; omega
theorem fvP_loc (V W : Nat → Int) (N : Nat) (h : ∀ g, g < N → V g = W g) : ∀ i g, g < N → fvP V i g = fvP W i g := by
  intro i
  induction i with
  | zero => intro g hg; exact h g hg
  | succ i ih =>
    intro g hg
    unfold fvP
    rw [ih g hg, ih (g - 2 ^ i) (Nat.lt_of_le_of_lt (Nat.sub_le _ _) hg)]
theorem fvP_bound (V : Nat → Int) (h : ∀ g, -1000000 ≤ V g ∧ V g ≤ 1000000) : ∀ i g, -(1000000 * ((2 ^ i : Nat) : Int)) ≤ fvP V i g ∧ fvP V i g ≤ 1000000 * ((2 ^ i : Nat) : Int) := by
  intro i
  induction i with
  | zero =>
    intro g
    have := h g
    show -(1000000 * ((2 ^ 0 : Nat) : Int)) ≤ V g ∧ V g ≤ 1000000 * ((2 ^ 0 : Nat) : Int)
    simp
    omega
  | succ i ih =>
    intro g
    have a := ih g
    have b := ih (g - 2 ^ i)
    have e : ((2 ^ (i + 1) : Nat) : Int) = 2 * ((2 ^ i : Nat) : Int) := by rw [Nat.pow_succ]; omega
    unfold fvP
    rw [e]
    generalize ((2 ^ i : Nat) : Int) = z at *
    by_cases hb : g.testBit i = true
    · rw [if_pos hb]; omega
    · rw [if_neg hb]; omega
def fvS (v : List Int) (i g0 : Nat) : List Int := (List.range v.length).map fun q => if q < g0 then fvP (vv v) (i + 1) q else fvP (vv v) i q
theorem fvS_len (v : List Int) (i g0 : Nat) : (fvS v i g0).length = v.length := by simp [fvS]
theorem fvS_get (v : List Int) (i g0 q : Nat) (h : q < v.length) : (fvS v i g0).getD q 0 = if q < g0 then fvP (vv v) (i + 1) q else fvP (vv v) i q := by
  unfold fvS
  rw [List.getD_eq_getElem?_getD, List.getElem?_map, List.getElem?_range h]
  rfl
theorem fvS_next (v : List Int) (i : Nat) : fvS v i v.length = fvS v (i + 1) 0 := by
  unfold fvS
  apply List.map_congr_left
  intro q hq
  rw [if_pos (List.mem_range.1 hq), if_neg (by omega)]
theorem fvS_zero (v : List Int) : fvS v 0 0 = v := by
  apply List.ext_getElem
  · exact fvS_len v 0 0
  · intro q h1 h2
    simp [fvS, fvP, vv, h2]
theorem fvS_set (v : List Int) (i g : Nat) (h : g < v.length) (x : Int) (hx : x = fvP (vv v) (i + 1) g) : (fvS v i g).set g x = fvS v i (g + 1) := by
  apply List.ext_getElem
  · rw [List.length_set, fvS_len, fvS_len]
  · intro q h1 h2
    rw [fvS_len] at h2
    rw [List.getElem_set]
    have e0 : ∀ (j : Nat) (h : q < (fvS v i j).length), (fvS v i j)[q] = (fvS v i j).getD q 0 := fun j h => by rw [List.getD_eq_getElem?_getD, List.getElem?_eq_getElem h]; rfl
    by_cases e : g = q
    · subst e
      rw [if_pos rfl, e0, fvS_get v i (g + 1) g h2, if_pos (by omega), hx]
    · rw [if_neg e, e0, e0, fvS_get v i g q h2, fvS_get v i (g + 1) q h2]
      by_cases hl : q < g
      · simp only [hl, show q < g + 1 by omega, if_true]
      · simp only [hl, show ¬ q < g + 1 by omega, if_false]
theorem fvS_same (v : List Int) (i g : Nat) (hb : ¬ g.testBit i = true) : fvS v i g = fvS v i (g + 1) := by
  unfold fvS
  apply List.map_congr_left
  intro q _
  by_cases hl : q < g
  · simp only [hl, show q < g + 1 by omega, if_true]
  · by_cases e : q = g
    · subst e
      rw [if_neg hl, if_pos (by omega)]
      show _ = fvP (vv v) i q + _
      rw [if_neg hb]
      omega
    · simp only [hl, show ¬ q < g + 1 by omega, if_false]
def fvL (d : List Int) : List Int := fvS d (pn d.length) 0
theorem ps_lin (V W U : Nat → Int) (c : Int) (h : ∀ g, U g = V g + c * W g) (q : Nat) : ∀ g, ps U q g = ps V q g + c * ps W q g := by
  intro g
  induction g with
  | zero => simp [ps]
  | succ g ih =>
    unfold ps
    rw [ih, Int.mul_add]
    by_cases hb : g &&& q = g
    · rw [if_pos hb, if_pos hb, if_pos hb, h]; omega
    · rw [if_neg hb, if_neg hb, if_neg hb]; omega
theorem ps_loc (V W : Nat → Int) (N : Nat) (h : ∀ g, g < N → V g = W g) (q : Nat) : ∀ g, g ≤ N → ps V q g = ps W q g := by
  intro g
  induction g with
  | zero => intro _; rfl
  | succ g ih =>
    intro hg
    unfold ps
    rw [ih (by omega), h g (by omega)]
/-- A linear law that holds of each group alone holds of all purses. -/
theorem lin_zero (F : (Nat → Int) → Int) (N : Nat) (hl : ∀ V W U : Nat → Int, ∀ c : Int, (∀ g, U g = V g + c * W g) → F U = F V + c * F W)
    (hz : F (fun _ => 0) = 0) (hu : ∀ m, m < N → F (unit m) = 0) (hloc : ∀ V W : Nat → Int, (∀ g, g < N → V g = W g) → F V = F W) (V : Nat → Int) : F V = 0 := by
  have key : ∀ m, m ≤ N → F (fun g => if g < m then V g else 0) = 0 := by
    intro m
    induction m with
    | zero =>
      intro _
      have e : (fun g => if g < 0 then V g else (0 : Int)) = fun _ => 0 := by
        funext g
        rw [if_neg (by omega)]
      rw [e]
      exact hz
    | succ m ih =>
      intro hm
      rw [hl (fun g => if g < m then V g else 0) (unit m) _ (V m) (fun g => ?_), ih (by omega), hu m (by omega)]
      · omega
      · show (if g < m + 1 then V g else 0) = (if g < m then V g else 0) + V m * (if g = m then 1 else 0)
        by_cases e : g = m
        · subst e
          rw [if_pos (by omega), if_neg (by omega), if_pos rfl]
          omega
        · rw [if_neg e]
          by_cases l : g < m
          · rw [if_pos (by omega), if_pos l]; omega
          · rw [if_neg (by omega), if_neg l]; omega
  rw [← key N (Nat.le_refl _)]
  exact hloc _ _ (fun g hg => (if_pos hg).symm)
set_option maxRecDepth 100000 in
theorem Z_unit : ∀ h : Fin 32, (ps (dvP (fun _ => 0) 5) h.val (h.val + 1) - 0 = 0 ∧ fvP (fun _ => 0) 5 h.val - ps (fun _ => 0) h.val (h.val + 1) = 0 ∧ dvP (fvP (fun _ => 0) 5) 5 h.val - 0 = 0) ∧ ∀ m : Fin 32, ps (dvP (unit m.val) 5) h.val (h.val + 1) - unit m.val h.val = 0 ∧ fvP (unit m.val) 5 h.val - ps (unit m.val) h.val (h.val + 1) = 0 ∧ dvP (fvP (unit m.val) 5) 5 h.val - unit m.val h.val = 0 := by decide +kernel
theorem Z1 (V : Nat → Int) (h : Nat) (hh : h < 32) : ps (dvP V 5) h (h + 1) = V h := by
  obtain ⟨⟨z, _, _⟩, u⟩ := Z_unit ⟨h, hh⟩
  have := lin_zero (fun V => ps (dvP V 5) h (h + 1) - V h) 32 (fun V W U c e => ?_) z (fun m hm => (u ⟨m, hm⟩).1) (fun V W e => ?_) V
  · have : ps (dvP V 5) h (h + 1) - V h = 0 := this
    omega
  · show ps (dvP U 5) h (h + 1) - U h = ps (dvP V 5) h (h + 1) - V h + c * (ps (dvP W 5) h (h + 1) - W h)
    rw [ps_lin (dvP V 5) (dvP W 5) (dvP U 5) c (fun g => dvP_lin V W U c e 5 g) h (h + 1), e h, Int.mul_sub]
    omega
  · show ps (dvP V 5) h (h + 1) - V h = ps (dvP W 5) h (h + 1) - W h
    rw [ps_loc (dvP V 5) (dvP W 5) 32 (fun g hg => dvP_loc V W 32 e 5 g hg) h (h + 1) (by omega), e h hh]
theorem Z3 (V : Nat → Int) (h : Nat) (hh : h < 32) : fvP V 5 h = ps V h (h + 1) := by
  obtain ⟨⟨_, z, _⟩, u⟩ := Z_unit ⟨h, hh⟩
  have := lin_zero (fun V => fvP V 5 h - ps V h (h + 1)) 32 (fun V W U c e => ?_) z (fun m hm => (u ⟨m, hm⟩).2.1) (fun V W e => ?_) V
  · have : fvP V 5 h - ps V h (h + 1) = 0 := this
    omega
  · show fvP U 5 h - ps U h (h + 1) = fvP V 5 h - ps V h (h + 1) + c * (fvP W 5 h - ps W h (h + 1))
    rw [ps_lin V W U c e h (h + 1), fvP_lin V W U c e 5 h, Int.mul_sub]
    omega
  · show fvP V 5 h - ps V h (h + 1) = fvP W 5 h - ps W h (h + 1)
    rw [ps_loc V W 32 e h (h + 1) (by omega), fvP_loc V W 32 e 5 h hh]
theorem Z2 (V : Nat → Int) (h : Nat) (hh : h < 32) : dvP (fvP V 5) 5 h = V h := by
  obtain ⟨⟨_, _, z⟩, u⟩ := Z_unit ⟨h, hh⟩
  have := lin_zero (fun V => dvP (fvP V 5) 5 h - V h) 32 (fun V W U c e => ?_) z (fun m hm => (u ⟨m, hm⟩).2.2) (fun V W e => ?_) V
  · have : dvP (fvP V 5) 5 h - V h = 0 := this
    omega
  · show dvP (fvP U 5) 5 h - U h = dvP (fvP V 5) 5 h - V h + c * (dvP (fvP W 5) 5 h - W h)
    rw [dvP_lin (fvP V 5) (fvP W 5) (fvP U 5) c (fun g => fvP_lin V W U c e 5 g) 5 h, e h, Int.mul_sub]
    omega
  · show dvP (fvP V 5) 5 h - V h = dvP (fvP W 5) 5 h - W h
    rw [dvP_loc (fvP V 5) (fvP W 5) 32 (fun g hg => fvP_loc V W 32 e 5 g hg) 5 h hh, e h hh]
/-- Passes of players that no group has change nothing. -/
theorem dvP_top (V : Nat → Int) (n : Nat) : ∀ m g, g < 2 ^ n → dvP V (n + m) g = dvP V n g := by
  intro m
  induction m with
  | zero => intro g _; rfl
  | succ m ih =>
    intro g hg
    show dvP V (n + m) g - (if g.testBit (n + m) = true then _ else 0) = _
    have : g.testBit (n + m) = false := Nat.testBit_lt_two_pow (Nat.lt_of_lt_of_le hg (Nat.pow_le_pow_right (by decide) (by omega)))
    rw [this, if_neg (by decide), ih g hg]
    omega
theorem fvP_top (V : Nat → Int) (n : Nat) : ∀ m g, g < 2 ^ n → fvP V (n + m) g = fvP V n g := by
  intro m
  induction m with
  | zero => intro g _; rfl
  | succ m ih =>
    intro g hg
    show fvP V (n + m) g + (if g.testBit (n + m) = true then _ else 0) = _
    have : g.testBit (n + m) = false := Nat.testBit_lt_two_pow (Nat.lt_of_lt_of_le hg (Nat.pow_le_pow_right (by decide) (by omega)))
    rw [this, if_neg (by decide), ih g hg]
    omega
theorem dv5 (V : Nat → Int) (n g : Nat) (hn : n ≤ 5) (hg : g < 2 ^ n) : dvP V n g = dvP V 5 g := by
  have := dvP_top V n (5 - n) g hg
  rw [show n + (5 - n) = 5 by omega] at this
  exact this.symm
theorem fv5 (V : Nat → Int) (n g : Nat) (hn : n ≤ 5) (hg : g < 2 ^ n) : fvP V n g = fvP V 5 g := by
  have := fvP_top V n (5 - n) g hg
  rw [show n + (5 - n) = 5 by omega] at this
  exact this.symm
/-- Dividends are valid. -/
def okD (d : List Int) : Bool := okN d.length && (d.getD 0 0 == 0) && !(d.any (outW (-1000000) 1000000))
theorem okD_n {v : List Int} (h : okD v = true) : okN v.length = true := by
  unfold okD at h
  simp only [Bool.and_eq_true] at h
  exact h.1.1
theorem okD_0 {v : List Int} (h : okD v = true) : v.getD 0 0 = 0 := by
  unfold okD at h
  simp only [Bool.and_eq_true, beq_iff_eq] at h
  exact h.1.2
theorem okD_val {v : List Int} (h : okD v = true) (g : Nat) : -1000000 ≤ v.getD g 0 ∧ v.getD g 0 ≤ 1000000 := by
  unfold okD at h
  simp only [Bool.and_eq_true, Bool.not_eq_true'] at h
  have ha := h.2
  rw [List.getD_eq_getElem?_getD]
  by_cases hg : g < v.length
  · rw [List.getElem?_eq_getElem hg]
    have := List.any_eq_false.1 ha _ (List.getElem_mem hg)
    unfold outW at this
    simp only [Bool.or_eq_true, decide_eq_true_eq, not_or] at this
    show _ ≤ v[g] ∧ v[g] ≤ _
    omega
  · rw [List.getElem?_eq_none (by omega)]
    show (-1000000 : Int) ≤ 0 ∧ (0 : Int) ≤ 1000000
    omega
theorem okV_0 {v : List Int} (h : okV v = true) : v.getD 0 0 = 0 := by
  unfold okV at h
  simp only [Bool.and_eq_true, beq_iff_eq] at h
  exact h.1.2
/-- Lists with the same numbers at all groups are the same. -/
theorem list_eq {a b : List Int} (hl : a.length = b.length) (h : ∀ q, q < a.length → a.getD q 0 = b.getD q 0) : a = b := by
  apply List.ext_getElem hl
  intro q h1 h2
  have := h q h1
  rw [List.getD_eq_getElem?_getD, List.getD_eq_getElem?_getD, List.getElem?_eq_getElem h1, List.getElem?_eq_getElem h2] at this
  exact this
theorem dvL_get {v : List Int} (hn : okN v.length = true) (q : Nat) (h : q < v.length) : (dvL v).getD q 0 = dvP (vv v) 5 q := by
  obtain ⟨hp, hp1, hp5⟩ := pn_pow hn
  unfold dvL
  rw [dvS_get v _ 0 q h, if_neg (by omega)]
  exact dv5 _ _ q hp5 (by omega)
theorem fvL_get {v : List Int} (hn : okN v.length = true) (q : Nat) (h : q < v.length) : (fvL v).getD q 0 = fvP (vv v) 5 q := by
  obtain ⟨hp, hp1, hp5⟩ := pn_pow hn
  unfold fvL
  rw [fvS_get v _ 0 q h, if_neg (by omega)]
  exact fv5 _ _ q hp5 (by omega)
theorem dvL_length (v : List Int) : (dvL v).length = v.length := dvS_len _ _ _
theorem fvL_length (v : List Int) : (fvL v).length = v.length := fvS_len _ _ _
theorem dv_fv {d : List Int} (hn : okN d.length = true) : dvL (fvL d) = d := by
  have h32 := okN_le hn
  refine list_eq (by rw [dvL_length, fvL_length]) (fun q hq => ?_)
  rw [dvL_length, fvL_length] at hq
  rw [dvL_get (by rw [fvL_length]; exact hn) q (by rw [fvL_length]; exact hq)]
  rw [dvP_loc (vv (fvL d)) (fvP (vv d) 5) d.length (fun g hg => fvL_get hn g hg) 5 q hq]
  exact Z2 (vv d) q (by omega)
theorem fv_dv {v : List Int} (hn : okN v.length = true) : fvL (dvL v) = v := by
  have h32 := okN_le hn
  refine list_eq (by rw [fvL_length, dvL_length]) (fun q hq => ?_)
  rw [fvL_length, dvL_length] at hq
  rw [fvL_get (by rw [dvL_length]; exact hn) q (by rw [dvL_length]; exact hq), Z3 _ q (by omega)]
  rw [ps_loc (vv (dvL v)) (dvP (vv v) 5) v.length (fun g hg => dvL_get hn g hg) q (q + 1) (by omega)]
  exact Z1 (vv v) q (by omega)
theorem dvL_ok {v : List Int} (hv : okV v = true) : okD (dvL v) = true := by
  have hn := okV_n hv
  have h32 := okN_le hn
  unfold okD
  rw [dvL_length, hn, Bool.true_and, dvL_get hn 0 (by omega)]
  have h0 : dvP (vv v) 5 0 = 0 := by
    have : dvP (vv v) 5 0 = vv v 0 := by
      unfold dvP
      simp [dvP]
    rw [this]
    exact okV_0 hv
  rw [h0]
  have ha : (dvL v).any (outW (-1000000) 1000000) = false := by
    rw [List.any_eq_false]
    intro x hx
    obtain ⟨q, hq, rfl⟩ := List.mem_iff_getElem.1 hx
    have e : (dvL v)[q] = dvP (vv v) 5 q := by
      rw [← dvL_get hn q (by rw [dvL_length] at hq; exact hq), List.getD_eq_getElem?_getD, List.getElem?_eq_getElem hq]
      rfl
    have hb := dvP_bound (vv v) (okV_val hv) 5 q
    rw [e]
    unfold outW
    simp only [Bool.or_eq_true, decide_eq_true_eq, not_or]
    generalize dvP (vv v) 5 q = x at hb
    have : ((2 ^ 5 : Nat) : Int) = 32 := rfl
    omega
  rw [ha]
  rfl
section
variable {d : List Int} (hd : okD d = true)
include hd
theorem from_inner (i : Nat) (hi : i < pn d.length) (r : List Int × Int) (hnext : Ev (fun k => purse_FromDividends.l0 k (fvS d (i + 1) 0) ((pn d.length : Nat) : Int) ((i + 1 : Nat) : Int)) r) : ∀ m g, g + m = d.length →
    Ev (fun k => purse_FromDividends.l1 k (fvS d i g) (i : Int) ((pn d.length : Nat) : Int) (i : Int) (d.length : Int) (g : Int)) r := by
  have hn := okD_n hd
  have hl := okN_le hn
  obtain ⟨hp, hp1, hp5⟩ := pn_pow hn
  have hbd := fvP_bound (vv d) (okD_val hd)
  intro m
  induction m with
  | zero =>
    intro g hg
    refine Ev.step (fun k => by rw [purse_FromDividends.l1]) (Ev.ifn (by omega) ?_)
    rw [show g = d.length by omega, fvS_next, w64s (by omega)]
    exact hnext
  | succ m ih =>
    intro g hg
    refine Ev.step (fun k => by rw [purse_FromDividends.l1]) (Ev.ifp (by omega) (Ev.bindc (in_eq i g (by omega) (by omega)) ?_))
    rw [w64s (by omega)]
    by_cases hb : g.testBit i = true
    · obtain ⟨a1, a2, a3⟩ := andNot_eq i g (by omega) (by omega) hb
      have b1 := hbd i g
      have b2 := hbd i (g - 2 ^ i)
      have h16 : 2 ^ i ≤ 2 ^ 5 := Nat.pow_le_pow_right (show 0 < 2 by decide) (by omega)
      have hlt : ((2 ^ i : Nat) : Int) ≤ 32 := Int.ofNat_le.2 h16
      refine Ev.ifp hb (Ev.ifp (by omega) (Ev.ifp (by rw [fvS_len]; omega) (Ev.ifp (by omega) ?_)))
      rw [a1]
      generalize hz : g - 2 ^ i = z at *
      generalize ((2 ^ i : Nat) : Int) = t at *
      refine Ev.ifp (by omega) (Ev.ifp (by rw [fvS_len]; omega) ?_)
      rw [rd_nat, rd_nat, fvS_get d i g g (by omega), fvS_get d i g z (by omega), if_neg (by omega), if_pos a2, Int.toNat_natCast]
      have hcl : fvP (vv d) (i + 1) z = fvP (vv d) i z := by
        show fvP (vv d) i z + _ = _
        rw [if_neg a3]
        omega
      rw [hcl, w64 (by omega) (by omega), fvS_set d i g (by omega) _ (by show _ = fvP (vv d) i g + _; rw [if_pos hb, hz])]
      exact ih (g + 1) (by omega)
    · refine Ev.ifn hb ?_
      rw [fvS_same d i g hb]
      exact ih (g + 1) (by omega)
theorem From_ev : Ev (fun k => purse_FromDividends.f k d) (if okV (fvL d) = true then (fvL d, 0) else ([], 3)) := by
  have hn := okD_n hd
  have hl := okN_le hn
  obtain ⟨hp, hp1, hp5⟩ := pn_pow hn
  have outer : ∀ m i, i + m = pn d.length → Ev (fun k => purse_FromDividends.l0 k (fvS d i 0) ((pn d.length : Nat) : Int) (i : Int)) (if okV (fvL d) = true then (fvL d, 0) else ([], 3)) := by
    intro m
    induction m with
    | zero =>
      intro i hi
      refine Ev.step (fun k => by rw [purse_FromDividends.l0]) (Ev.ifn (by omega) ?_)
      rw [show i = pn d.length by omega]
      unfold purse_limited.f
      rw [show fvS d (pn d.length) 0 = fvL d from rfl, Validate_eq (fvL d) (by rw [fvL_length]; omega), Option.bind_some]
      by_cases h : okV (fvL d) = true
      · rw [if_pos h, if_pos rfl, if_pos h]
        exact Ev.now _
      · rw [if_neg h, if_neg h, if_neg (by decide)]
        exact Ev.now _
    | succ m ih =>
      intro i hi
      refine Ev.step (fun k => by rw [purse_FromDividends.l0]) (Ev.ifp (by omega) ?_)
      have := from_inner hd i (by omega) _ (ih (i + 1) (by omega)) d.length 0 (by omega)
      rw [fvS_len]
      exact this
  have hb : d.any (outW (-1000000) 1000000) = false := by
    have := hd
    unfold okD at this
    simp only [Bool.and_eq_true, Bool.not_eq_true'] at this
    exact this.2
  unfold purse_FromDividends.f
  refine Ev.bindc (isCount_eq d.length (by omega)) (Ev.ifp hn (Ev.ifp (by omega) ?_))
  rw [show rd d 0 = d.getD 0 0 from rd_nat d 0]
  refine Ev.ifp (okD_0 hd) (Ev.bindc (show purse_badD.f d = some false by unfold purse_badD.f; rw [hb]) ?_)
  refine Ev.step (fun k => by rw [purse_FromDividends.j0]) (Ev.ifn (by decide) (Ev.bindc (show slices_Clone.f d = some d by unfold slices_Clone.f; rw [if_pos (by omega)]) (Ev.bindc (players_eq d hn) ?_)))
  have := outer (pn d.length) 0 (by omega)
  rw [fvS_zero] at this
  exact this
end
theorem From_bad {d : List Int} (hm : d.length < 1000000000000000000) (hd : ¬ okD d = true) : Ev (fun k => purse_FromDividends.f k d) ([], 1) := by
  have hbad : Ev (fun k => purse_FromDividends.j0 k d true) ([], 1) := Ev.step (fun k => by rw [purse_FromDividends.j0]) (Ev.ifp rfl (Ev.now _))
  unfold purse_FromDividends.f
  refine Ev.bindc (isCount_eq d.length hm) ?_
  unfold okD at hd
  by_cases hn : okN d.length = true
  · have hl := okN_le hn
    rw [hn, Bool.true_and] at hd
    refine Ev.ifp hn (Ev.ifp (by omega) ?_)
    rw [show rd d 0 = d.getD 0 0 from rd_nat d 0]
    by_cases h0 : d.getD 0 0 = 0
    · rw [h0] at hd
      refine Ev.ifp h0 (Ev.bindc (show purse_badD.f d = some true from ?_) hbad)
      unfold purse_badD.f
      cases h : d.any (outW (-1000000) 1000000) with
      | true => rfl
      | false => rw [h] at hd; exact absurd rfl hd
    · exact Ev.ifn h0 hbad
  · exact Ev.ifn hn hbad
/-! The reference. -/
theorem part_eq (g h : Nat) (hg : g < 32) (hh : h < 32) : wigeonref08_part.f (g : Int) (h : Int) = some (decide (g &&& h = g)) := by
  have : ∀ g h : Fin 32, wigeonref08_part.f (g.val : Int) (h.val : Int) = some (decide (g.val &&& h.val = g.val)) := by decide +kernel
  exact this ⟨g, hg⟩ ⟨h, hh⟩
/-- What the reference's table holds while it fills the group h. -/
def rS (F : Nat → Int) (N h : Nat) (x : Int) : List Int := (List.range N).map fun q => if q < h then F q else if q = h then x else 0
theorem rS_len (F : Nat → Int) (N h : Nat) (x : Int) : (rS F N h x).length = N := by simp [rS]
theorem rS_get (F : Nat → Int) (N h : Nat) (x : Int) (q : Nat) (hq : q < N) : (rS F N h x).getD q 0 = if q < h then F q else if q = h then x else 0 := by
  unfold rS
  rw [List.getD_eq_getElem?_getD, List.getElem?_map, List.getElem?_range hq]
  rfl
theorem rS_set (F : Nat → Int) (N h : Nat) (x y : Int) (hh : h < N) : (rS F N h x).set h y = rS F N h y := by
  refine list_eq (by rw [List.length_set, rS_len, rS_len]) (fun q hq => ?_)
  rw [List.length_set, rS_len] at hq
  rw [rS_get F N h y q hq, List.getD_eq_getElem?_getD, List.getElem?_set]
  by_cases e : h = q
  · subst e
    rw [if_pos rfl, if_pos (by rw [rS_len]; exact hh), if_neg (by omega), if_pos rfl]
    rfl
  · rw [if_neg e, ← List.getD_eq_getElem?_getD, rS_get F N h x q hq]
    by_cases hl : q < h
    · rw [if_pos hl, if_pos hl]
    · rw [if_neg hl, if_neg hl, if_neg (by omega), if_neg (by omega)]
theorem rS_next (F : Nat → Int) (N h : Nat) : rS F N h (F h) = rS F N (h + 1) 0 := by
  unfold rS
  apply List.map_congr_left
  intro q _
  by_cases hl : q < h
  · rw [if_pos hl, if_pos (by omega)]
  · rw [if_neg hl]
    by_cases e : q = h
    · rw [if_pos e, if_pos (by omega), e]
    · rw [if_neg e, if_neg (by omega)]
      by_cases e2 : q = h + 1
      · rw [if_pos e2]
      · rw [if_neg e2]
theorem rS_zero (F : Nat → Int) (N : Nat) : rS F N 0 0 = List.replicate N 0 := by
  refine list_eq (by rw [rS_len, List.length_replicate]) (fun q hq => ?_)
  rw [rS_len] at hq
  rw [rS_get F N 0 0 q hq, if_neg (by omega), List.getD_eq_getElem?_getD, List.getElem?_replicate, if_pos hq]
  by_cases e : q = 0
  · rw [if_pos e]; rfl
  · rw [if_neg e]; rfl
theorem rS_all (F : Nat → Int) (N : Nat) (L : List Int) (hl : L.length = N) (h : ∀ q, q < N → L.getD q 0 = F q) : rS F N N 0 = L := by
  refine list_eq (by rw [rS_len, hl]) (fun q hq => ?_)
  rw [rS_len] at hq
  rw [rS_get F N N 0 q hq, if_pos hq, h q hq]
theorem ps_bound (D : Nat → Int) (B : Int) (h0 : 0 ≤ B) (hD : ∀ g, -B ≤ D g ∧ D g ≤ B) (h : Nat) : ∀ g : Nat, -(B * (g : Int)) ≤ ps D h g ∧ ps D h g ≤ B * (g : Int) := by
  intro g
  induction g with
  | zero => simp [ps]
  | succ g ih =>
    unfold ps
    have a := hD g
    have e : B * ((g + 1 : Nat) : Int) = B * (g : Int) + B := by
      rw [show ((g + 1 : Nat) : Int) = (g : Int) + 1 by omega, Int.mul_add, Int.mul_one]
    rw [e]
    generalize B * (g : Int) = z at *
    by_cases hb : g &&& h = g
    · rw [if_pos hb]; omega
    · rw [if_neg hb]; omega
section
variable {d : List Int} (hd : okD d = true)
include hd
theorem rfrom_inner (h : Nat) (hh : h < d.length) (r : List Int × Int) (hnext : Ev (fun k => wigeonref08_FromDividends.l0 k d (rS (fun q => ps (vv d) q (q + 1)) d.length (h + 1) 0) ((h + 1 : Nat) : Int)) r) : ∀ m g, g + m = h + 1 →
    Ev (fun k => wigeonref08_FromDividends.l1 k d (rS (fun q => ps (vv d) q (q + 1)) d.length h (ps (vv d) h g)) (h : Int) (g : Int)) r := by
  have hl := okN_le (okD_n hd)
  have hv := okD_val hd
  have hbd := ps_bound (vv d) 1000000 (by decide) hv h
  intro m
  induction m with
  | zero =>
    intro g hg
    refine Ev.step (fun k => by rw [wigeonref08_FromDividends.l1]) (Ev.ifn (by omega) ?_)
    rw [show g = h + 1 by omega, rS_next (fun q => ps (vv d) q (q + 1)), w64s (by omega)]
    exact hnext
  | succ m ih =>
    intro g hg
    refine Ev.step (fun k => by rw [wigeonref08_FromDividends.l1]) (Ev.ifp (by omega) (Ev.bindc (part_eq g h (by omega) (by omega)) ?_))
    rw [w64s (by omega)]
    have nx := ih (g + 1) (by omega)
    by_cases hb : g &&& h = g
    · refine Ev.ifp (decide_eq_true hb) (Ev.ifp (by omega) (Ev.ifp (by rw [rS_len]; omega) (Ev.ifp (by omega) (Ev.ifp (by omega) ?_))))
      have e : ps (vv d) h (g + 1) = ps (vv d) h g + d.getD g 0 := by
        show ps (vv d) h g + (if g &&& h = g then vv d g else 0) = _
        rw [if_pos hb]
        rfl
      have b := hbd g
      have c := hv g
      rw [rd_nat, rd_nat, rS_get _ _ _ _ h hh, if_neg (by omega), if_pos rfl, Int.toNat_natCast, w64 (by omega) (by omega), rS_set _ _ _ _ _ hh, ← e]
      exact nx
    · have e : ps (vv d) h (g + 1) = ps (vv d) h g := by
        show ps (vv d) h g + (if g &&& h = g then vv d g else 0) = _
        rw [if_neg hb]
        omega
      rw [e] at nx
      exact Ev.ifn (by rw [decide_eq_true_eq]; exact hb) nx
theorem rFrom_ev : Ev (fun k => wigeonref08_FromDividends.f k d) (if okV (fvL d) = true then (fvL d, 0) else ([], 3)) := by
  have hn := okD_n hd
  have hl := okN_le hn
  have hpn := pn_pow hn
  have hb : d.any (outW (-1000000) 1000000) = false := by
    have := hd
    unfold okD at this
    simp only [Bool.and_eq_true, Bool.not_eq_true'] at this
    exact this.2
  have all : rS (fun q => ps (vv d) q (q + 1)) d.length d.length 0 = fvL d := rS_all _ _ _ (fvL_length d) (fun q hq => by
    rw [fvL_get hn q hq]
    exact Z3 (vv d) q (by omega))
  have f0 : (fvL d).getD 0 0 = 0 := by
    rw [fvL_get hn 0 (by omega), Z3 _ 0 (by omega)]
    show 0 + (if 0 &&& 0 = 0 then d.getD 0 0 else 0) = (0 : Int)
    rw [okD_0 hd]
    rfl
  have outer : ∀ m h, h + m = d.length → Ev (fun k => wigeonref08_FromDividends.l0 k d (rS (fun q => ps (vv d) q (q + 1)) d.length h 0) (h : Int)) (if okV (fvL d) = true then (fvL d, 0) else ([], 3)) := by
    intro m
    induction m with
    | zero =>
      intro h hh
      refine Ev.step (fun k => by rw [wigeonref08_FromDividends.l0]) (Ev.ifn (by omega) ?_)
      rw [show h = d.length by omega, all]
      exact Ev.bind (told_ev (fvL d) (by rw [fvL_length]; omega) (by rw [fvL_length]; exact hn) f0) (Ev.val rfl)
    | succ m ih =>
      intro h hh
      refine Ev.step (fun k => by rw [wigeonref08_FromDividends.l0]) (Ev.ifp (by omega) ?_)
      exact rfrom_inner hd h (by omega) _ (ih (h + 1) (by omega)) (h + 1) 0 (by omega)
  have rp := rplayers_ev d.length
  rw [if_pos hn] at rp
  have rl := rlimited_ev d 1000000 (by decide) (by decide) (by omega)
  rw [hb] at rl
  unfold wigeonref08_FromDividends.f
  refine Ev.bind rp (Ev.ifn (by omega) (Ev.bind rl (Ev.ifp rfl (Ev.ifp (by omega) ?_))))
  rw [show rd d 0 = d.getD 0 0 from rd_nat d 0, okD_0 hd]
  refine Ev.step (fun k => by rw [wigeonref08_FromDividends.j0]) (Ev.ifn (by decide) (Ev.ifp (by omega) (Ev.ifp (by omega) ?_)))
  have := outer d.length 0 (by omega)
  rw [rS_zero] at this
  exact this
end
theorem rFrom_bad {d : List Int} (hm : d.length < 1000000000000000000) (hd : ¬ okD d = true) : Ev (fun k => wigeonref08_FromDividends.f k d) ([], 1) := by
  have hbad : Ev (fun k => wigeonref08_FromDividends.j0 k d true) ([], 1) := Ev.step (fun k => by rw [wigeonref08_FromDividends.j0]) (Ev.ifp rfl (Ev.now _))
  have rp := rplayers_ev d.length
  have rl := rlimited_ev d 1000000 (by decide) (by decide) hm
  unfold okD at hd
  unfold wigeonref08_FromDividends.f
  by_cases hn : okN d.length = true
  · have hl := okN_le hn
    rw [hn, Bool.true_and] at hd
    rw [if_pos hn] at rp
    refine Ev.bind rp (Ev.ifn (by omega) (Ev.bind rl ?_))
    rw [show -(1000000 : Int) = -1000000 from rfl]
    cases h : d.any (outW (-1000000) 1000000) with
    | true => exact Ev.ifn (by decide) hbad
    | false =>
      refine Ev.ifp rfl (Ev.ifp (by omega) ?_)
      rw [h] at hd
      rw [show rd d 0 = d.getD 0 0 from rd_nat d 0]
      have : d.getD 0 0 ≠ 0 := by
        intro h0
        rw [h0] at hd
        exact hd rfl
      rw [bne_iff_ne.2 this]
      exact hbad
  · rw [if_neg hn] at rp
    exact Ev.bind rp (Ev.ifp (by decide) hbad)
section
variable {v : List Int} (hv : okV v = true)
include hv
theorem rdiv_inner (h : Nat) (hh : h < v.length) (r : List Int × Int) (hnext : Ev (fun k => wigeonref08_Dividends.l0 k v (rS (dvP (vv v) 5) v.length (h + 1) 0) ((h + 1 : Nat) : Int)) r) : ∀ m g, g + m = h →
    Ev (fun k => wigeonref08_Dividends.l1 k v (rS (dvP (vv v) 5) v.length h (vv v h - ps (dvP (vv v) 5) h g)) (h : Int) (g : Int)) r := by
  have hl := okN_le (okV_n hv)
  have hbd0 := dvP_bound (vv v) (okV_val hv) 5
  have hbd : ∀ g, -32000 ≤ dvP (vv v) 5 g ∧ dvP (vv v) 5 g ≤ 32000 := fun g => by
    have := hbd0 g
    have e : ((2 ^ 5 : Nat) : Int) = 32 := rfl
    omega
  have hps := ps_bound (dvP (vv v) 5) 32000 (by decide) hbd h
  have hvv := okV_val hv h
  intro m
  induction m with
  | zero =>
    intro g hg
    refine Ev.step (fun k => by rw [wigeonref08_Dividends.l1]) (Ev.ifn (by omega) ?_)
    have e : vv v h - ps (dvP (vv v) 5) h g = dvP (vv v) 5 h := by
      have := Z1 (vv v) h (by omega)
      unfold ps at this
      rw [if_pos (Nat.and_self h)] at this
      rw [show g = h by omega]
      omega
    rw [e, rS_next, w64s (by omega)]
    exact hnext
  | succ m ih =>
    intro g hg
    refine Ev.step (fun k => by rw [wigeonref08_Dividends.l1]) (Ev.ifp (by omega) (Ev.bindc (part_eq g h (by omega) (by omega)) ?_))
    rw [w64s (by omega)]
    have nx := ih (g + 1) (by omega)
    by_cases hb : g &&& h = g
    · refine Ev.ifp (decide_eq_true hb) (Ev.ifp (by omega) (Ev.ifp (by rw [rS_len]; omega) (Ev.ifp (by omega) (Ev.ifp (by rw [rS_len]; omega) ?_))))
      have e : vv v h - ps (dvP (vv v) 5) h (g + 1) = vv v h - ps (dvP (vv v) 5) h g - dvP (vv v) 5 g := by
        show vv v h - (ps (dvP (vv v) 5) h g + (if g &&& h = g then dvP (vv v) 5 g else 0)) = _
        rw [if_pos hb]
        omega
      have b := hps g
      have c := hbd g
      unfold vv at e nx ⊢
      unfold vv at b c
      rw [rd_nat, rd_nat, rS_get _ _ _ _ h hh, rS_get _ _ _ _ g (by omega), if_neg (by omega), if_pos rfl, if_pos (by omega), Int.toNat_natCast, w64 (by omega) (by omega), rS_set _ _ _ _ _ hh, ← e]
      exact nx
    · have e : ps (dvP (vv v) 5) h (g + 1) = ps (dvP (vv v) 5) h g := by
        show ps (dvP (vv v) 5) h g + (if g &&& h = g then dvP (vv v) 5 g else 0) = _
        rw [if_neg hb]
        omega
      rw [e] at nx
      exact Ev.ifn (by rw [decide_eq_true_eq]; exact hb) nx
theorem rDividends_ev : Ev (fun k => wigeonref08_Dividends.f k v) (dvL v, 0) := by
  have hn := okV_n hv
  have hl := okN_le hn
  have all : rS (dvP (vv v) 5) v.length v.length 0 = dvL v := rS_all _ _ _ (dvL_length v) (fun q hq => dvL_get hn q hq)
  have outer : ∀ m h, h + m = v.length → Ev (fun k => wigeonref08_Dividends.l0 k v (rS (dvP (vv v) 5) v.length h 0) (h : Int)) (dvL v, 0) := by
    intro m
    induction m with
    | zero =>
      intro h hh
      refine Ev.step (fun k => by rw [wigeonref08_Dividends.l0]) (Ev.ifn (by omega) (Ev.val ?_))
      rw [show h = v.length by omega, all]
    | succ m ih =>
      intro h hh
      refine Ev.step (fun k => by rw [wigeonref08_Dividends.l0]) (Ev.ifp (by omega) (Ev.ifp (by omega) (Ev.ifp (by rw [rS_len]; omega) ?_)))
      rw [Int.toNat_natCast, rd_nat, rS_set _ _ _ _ _ (by omega)]
      have := rdiv_inner hv h (by omega) _ (ih (h + 1) (by omega)) h 0 (by omega)
      rw [show vv v h - ps (dvP (vv v) 5) h 0 = v.getD h 0 by show v.getD h 0 - 0 = _; omega] at this
      exact this
  have b := rValidate_ev v (by omega)
  rw [if_pos hv] at b
  unfold wigeonref08_Dividends.f
  refine Ev.bind b (Ev.ifp rfl (Ev.ifp (by omega) (Ev.ifp (by omega) ?_)))
  have := outer v.length 0 (by omega)
  rw [rS_zero] at this
  exact this
end
theorem rDividends_bad {v : List Int} (hm : v.length < 1000000000000000000) (hv : ¬ okV v = true) : Ev (fun k => wigeonref08_Dividends.f k v) ([], 1) := by
  have b := rValidate_ev v hm
  rw [if_neg hv] at b
  unfold wigeonref08_Dividends.f
  exact Ev.bind b (Ev.ifn (by decide) (Ev.now _))
theorem Dividends_bad {v : List Int} (hm : v.length < 1000000000000000000) (hv : ¬ okV v = true) : Ev (fun k => purse_Dividends.f k v) ([], 1) := by
  unfold purse_Dividends.f
  exact Ev.bindc (show purse_Validate.f v = some 1 by rw [Validate_eq v hm, if_neg hv]) (Ev.ifn (by decide) (Ev.now _))

end Go.Proofs.YtjphklemnhgkiaaDoor.Pure
