import Derived.Test.YtjphklemnhgkiaaDoorQx0
import Derived.Test.YtjphklemnhgkiaaDoorQx2
import Derived.Test.YtjphklemnhgkiaaDoorQx3
import Derived.Test.YtjphklemnhgkiaaDoorLibC
namespace Go.Proofs.YtjphklemnhgkiaaDoor.Pure
open Go.RowKit Go.Proofs.YtjphklemnhgkiaaDoor.Q Go.Proofs.YtjphklemnhgkiaaDoorW.PrintWords Go.Proofs.YtjphklemnhgkiaaDoorW.PrintLast
set_option linter.unusedVariables false

/-! Balances: what the weights of a player's groups add up to, and what they earn. -/
def ws : List S59 → Nat → Int
  | [], _ => 0
  | p :: ps, i => (if p.f0.toNat.testBit i = true then p.f1 else 0) + ws ps i
def tw (v : List Int) : List S59 → Int
  | [] => 0
  | p :: ps => p.f1 * v.getD p.f0.toNat 0 + tw v ps
def okPart (v : List Int) (p : S59) : Prop := 1 ≤ p.f0 ∧ p.f0 ≤ (v.length : Int) - 1 ∧ 1 ≤ p.f1 ∧ p.f1 ≤ 1000
theorem ws_snoc (l : List S59) (p : S59) (i : Nat) : ws (l ++ [p]) i = ws l i + (if p.f0.toNat.testBit i = true then p.f1 else 0) := by
  induction l with
  | nil => simp [ws]
  | cons q l ih => simp only [List.cons_append, ws, ih]; omega
theorem tw_snoc (v : List Int) (l : List S59) (p : S59) : tw v (l ++ [p]) = tw v l + p.f1 * v.getD p.f0.toNat 0 := by
  induction l with
  | nil => simp [tw]
  | cons q l ih => simp only [List.cons_append, tw, ih]; omega
theorem wv_bound {w x : Int} (h1 : 1 ≤ w) (h2 : w ≤ 1000) (h3 : -1000 ≤ x) (h4 : x ≤ 1000) : -1000000 ≤ w * x ∧ w * x ≤ 1000000 := by
  constructor
  · calc (-1000000 : Int) = 1000 * (-1000) := by decide
      _ ≤ w * (-1000) := by omega
      _ ≤ w * x := Int.mul_le_mul_of_nonneg_left h3 (by omega)
  · calc w * x ≤ w * 1000 := Int.mul_le_mul_of_nonneg_left h4 (by omega)
      _ ≤ 1000000 := by omega
theorem ws_bound {v : List Int} (l : List S59) (h : ∀ p ∈ l, okPart v p) (i : Nat) : 0 ≤ ws l i ∧ ws l i ≤ 1000 * (l.length : Int) := by
  induction l with
  | nil => simp [ws]
  | cons p l ih =>
    have h1 := h p List.mem_cons_self
    have h2 := ih (fun q hq => h q (List.mem_cons_of_mem _ hq))
    unfold okPart at h1
    unfold ws
    rw [List.length_cons]
    split <;> omega
theorem tw_bound {v : List Int} (hv : ∀ g, -1000 ≤ v.getD g 0 ∧ v.getD g 0 ≤ 1000) (l : List S59) (h : ∀ p ∈ l, okPart v p) : -1000000 * (l.length : Int) ≤ tw v l ∧ tw v l ≤ 1000000 * (l.length : Int) := by
  induction l with
  | nil => simp [tw]
  | cons p l ih =>
    have h1 := h p List.mem_cons_self
    have h2 := ih (fun q hq => h q (List.mem_cons_of_mem _ hq))
    have h3 := wv_bound h1.2.2.1 h1.2.2.2 (hv p.f0.toNat).1 (hv p.f0.toNat).2
    unfold tw
    rw [List.length_cons]
    omega
/-- The shares of the players, the first i of them with one part more. -/
def shI (n : Nat) (l : List S59) (p : S59) (i : Nat) : List Int := (List.range n).map fun q => ws l q + (if q < i then (if p.f0.toNat.testBit q = true then p.f1 else 0) else 0)
def shL (n : Nat) (l : List S59) : List Int := (List.range n).map fun q => ws l q
theorem shI_zero (n : Nat) (l : List S59) (p : S59) : shI n l p 0 = shL n l := by
  unfold shI shL
  apply List.map_congr_left
  intro q _
  rw [if_neg (by omega)]
  omega
theorem shI_all (n : Nat) (l : List S59) (p : S59) : shI n l p n = shL n (l ++ [p]) := by
  unfold shI shL
  apply List.map_congr_left
  intro q hq
  rw [if_pos (List.mem_range.1 hq), ws_snoc]
theorem shI_len (n : Nat) (l : List S59) (p : S59) (i : Nat) : (shI n l p i).length = n := by simp [shI]
theorem shI_get (n : Nat) (l : List S59) (p : S59) (i q : Nat) (hq : q < n) : (shI n l p i).getD q 0 = ws l q + (if q < i then (if p.f0.toNat.testBit q = true then p.f1 else 0) else 0) := by
  unfold shI
  rw [List.getD_eq_getElem?_getD, List.getElem?_map, List.getElem?_range hq]
  rfl
theorem shI_set (n : Nat) (l : List S59) (p : S59) (i : Nat) (hi : i < n) (hb : p.f0.toNat.testBit i = true) : (shI n l p i).set i (ws l i + p.f1) = shI n l p (i + 1) := by
  apply List.ext_getElem
  · rw [List.length_set, shI_len, shI_len]
  · intro q h1 h2
    rw [shI_len] at h2
    rw [List.getElem_set]
    have g : ∀ (j : Nat) (h : q < (shI n l p j).length), (shI n l p j)[q] = (shI n l p j).getD q 0 := fun j h => by rw [List.getD_eq_getElem?_getD, List.getElem?_eq_getElem h]; rfl
    by_cases e : i = q
    · subst e
      rw [if_pos rfl, g, shI_get n l p (i + 1) i hi, if_pos (by omega), if_pos hb]
    · rw [if_neg e, g, g, shI_get n l p i q h2, shI_get n l p (i + 1) q h2]
      by_cases hl : q < i
      · simp only [hl, show q < i + 1 by omega, if_true]
      · simp only [hl, show ¬ q < i + 1 by omega, if_false]
theorem shI_same (n : Nat) (l : List S59) (p : S59) (i : Nat) (hb : ¬ p.f0.toNat.testBit i = true) : shI n l p i = shI n l p (i + 1) := by
  unfold shI
  apply List.map_congr_left
  intro q _
  by_cases hl : q < i
  · simp only [hl, show q < i + 1 by omega, if_true]
  · by_cases e : q = i
    · subst e
      simp only [hl, show q < q + 1 by omega, if_true, if_false, hb]
      simp
    · simp only [hl, show ¬ q < i + 1 by omega, if_false]
theorem rd59 (l : List S59) (j : Nat) (h : j < l.length) : rd_T59 l (j : Int) = l[j] := by
  unfold rd_T59
  rw [Int.toNat_natCast, List.getD_eq_getElem?_getD, List.getElem?_eq_getElem h]
  rfl
/-- What an accepted balance tells. -/
structure Bal (v : List Int) (d : Int) (ps : List S59) : Prop where
  ok : ∀ p ∈ ps, okPart v p
  share : ∀ i, i < pn v.length → ws ps i = d
  more : d * v.getD (v.length - 1) 0 < tw v ps
section
variable {v : List Int} (hv : okV v = true)
include hv
theorem bal_part (d : Int) (ps : List S59) (j : Nat) (hj : j < ps.length) (h32 : ps.length ≤ 32) (hok : ∀ p ∈ ps.take j, okPart v p) (hp : okPart v ps[j]) (S : Int) (r : Int)
    (hnext : Ev (fun k => purse_CheckBalance.l0 k v S (shL (pn v.length) (ps.take (j + 1))) ps (ps.length : Int) ((j + 1 : Nat) : Int) d ps) r) :
    ∀ m i, i + m = pn v.length → Ev (fun k => purse_CheckBalance.l1 k v S (shI (pn v.length) (ps.take j) ps[j] i) ps (ps.length : Int) (j : Int) ((pn v.length : Nat) : Int) (i : Int) d ps ps[j].f0 ps[j].f1) r := by
  have hn := okV_n hv
  have hl := okN_le hn
  have hpn := (pn_pow hn).2.2
  intro m
  induction m with
  | zero =>
    intro i hi
    refine Ev.step (fun k => by rw [purse_CheckBalance.l1]) (Ev.ifn (by omega) ?_)
    rw [show i = pn v.length by omega, shI_all, w64s (by omega), ← List.take_succ_eq_append_getElem hj]
    exact hnext
  | succ m ih =>
    intro i hi
    have hin : purse_player_in.f (i : Int) ps[j].f0 = some (ps[j].f0.toNat.testBit i) := by
      have h1 := hp.1
      have h2 := hp.2.1
      obtain ⟨g, hg⟩ := Int.eq_ofNat_of_zero_le (show 0 ≤ ps[j].f0 by omega)
      rw [hg, Int.toNat_natCast]
      exact in_eq i g (by omega) (by omega)
    have hb := ws_bound (v := v) (ps.take j) hok i
    have hlen : (ps.take j).length ≤ 32 := by rw [List.length_take]; omega
    have hw := hp.2.2
    refine Ev.step (fun k => by rw [purse_CheckBalance.l1]) (Ev.ifp (by omega) (Ev.bindc hin ?_))
    rw [w64s (by omega)]
    by_cases hbit : ps[j].f0.toNat.testBit i = true
    · refine Ev.ifp hbit (Ev.ifp (by omega) (Ev.ifp (by rw [shI_len]; omega) ?_))
      rw [rd_nat, shI_get _ _ _ _ _ (by omega), if_neg (by omega), Int.add_zero, w64 (by omega) (by omega), Int.toNat_natCast, shI_set _ _ _ _ (by omega) hbit]
      exact ih (i + 1) (by omega)
    · refine Ev.ifn hbit ?_
      rw [shI_same _ _ _ _ hbit]
      exact ih (i + 1) (by omega)
theorem bal_loop (d : Int) (hd1 : 1 ≤ d) (hd2 : d ≤ 1000) (ps : List S59) (h32 : ps.length ≤ 32) : ∀ m j, j + m = ps.length → (∀ p ∈ ps.take j, okPart v p) →
    ∃ r, Ev (fun k => purse_CheckBalance.l0 k v (tw v (ps.take j)) (shL (pn v.length) (ps.take j)) ps (ps.length : Int) (j : Int) d ps) r ∧ (r = 0 → Bal v d ps) := by
  have hn := okV_n hv
  have hl := okN_le hn
  have hpn := (pn_pow hn).2.2
  have hvv := okV_val hv
  have hlast : wrap64 ((v.length : Int) - 1) = ((v.length - 1 : Nat) : Int) := by rw [w64 (by omega) (by omega)]; omega
  intro m
  induction m with
  | zero =>
    intro j hj hok
    rw [show j = ps.length by omega, List.take_length] at hok ⊢
    have hdv := wv_bound hd1 hd2 (hvv (v.length - 1)).1 (hvv (v.length - 1)).2
    by_cases hu : (shL (pn v.length) ps).any (fun x => decide (x ≠ d)) = true
    · refine ⟨1, ?_, fun h => absurd h (by decide)⟩
      refine Ev.step (fun k => by rw [purse_CheckBalance.l0]) ?_
      exact Ev.ifn (by omega) (Ev.bindc rfl (Ev.ifp hu (Ev.now _)))
    · have hshare : ∀ i, i < pn v.length → ws ps i = d := by
        intro i hi
        refine Decidable.byContradiction fun hne => hu ?_
        rw [List.any_eq_true]
        refine ⟨ws ps i, ?_, decide_eq_true hne⟩
        unfold shL
        exact List.mem_map.2 ⟨i, List.mem_range.2 hi, rfl⟩
      by_cases hm : tw v ps ≤ d * v.getD (v.length - 1) 0
      · refine ⟨7, ?_, fun h => absurd h (by decide)⟩
        refine Ev.step (fun k => by rw [purse_CheckBalance.l0]) ?_
        refine Ev.ifn (by omega) (Ev.bindc rfl (Ev.ifn hu ?_))
        rw [hlast, rd_nat, w64 (a := d * v.getD (v.length - 1) 0) (by omega) (by omega)]
        exact Ev.ifp (by omega) (Ev.ifp (by omega) (Ev.ifp hm (Ev.now _)))
      · refine ⟨0, ?_, fun _ => ⟨hok, hshare, by omega⟩⟩
        refine Ev.step (fun k => by rw [purse_CheckBalance.l0]) ?_
        refine Ev.ifn (by omega) (Ev.bindc rfl (Ev.ifn hu ?_))
        rw [hlast, rd_nat, w64 (a := d * v.getD (v.length - 1) 0) (by omega) (by omega)]
        exact Ev.ifp (by omega) (Ev.ifp (by omega) (Ev.ifn hm (Ev.now _)))
  | succ m ih =>
    intro j hj hok
    have hjl : j < ps.length := by omega
    by_cases hp : okPart v ps[j]
    · have hok2 : ∀ p ∈ ps.take (j + 1), okPart v p := by
        intro p hpm
        rw [List.take_succ_eq_append_getElem hjl, List.mem_append, List.mem_singleton] at hpm
        rcases hpm with h | h
        · exact hok p h
        · rw [h]; exact hp
      obtain ⟨r, hr, hb⟩ := ih (j + 1) (by omega) hok2
      refine ⟨r, ?_, hb⟩
      have h1 := hp.1
      have h2 := hp.2.1
      have h3 := hp.2.2.1
      have h4 := hp.2.2.2
      have ht := tw_bound hvv (ps.take j) hok
      have hlen : (ps.take j).length ≤ 32 := by rw [List.length_take]; omega
      have hwv := wv_bound h3 h4 (hvv ps[j].f0.toNat).1 (hvv ps[j].f0.toNat).2
      refine Ev.step (fun k => by rw [purse_CheckBalance.l0]) (Ev.ifp (by omega) (Ev.ifp (by omega) (Ev.ifp (by omega) ?_)))
      rw [rd59 ps j hjl, hlast]
      unfold purse_within.f
      rw [if_pos (show ps[j].f0 ≥ 1 from h1)]
      refine Ev.bindc rfl (Ev.ifp (decide_eq_true (show ps[j].f0 ≤ ((v.length - 1 : Nat) : Int) by omega)) ?_)
      rw [if_pos (show ps[j].f1 ≥ 1 from h3)]
      refine Ev.bindc rfl ?_
      rw [decide_eq_true h4]
      refine Ev.step (fun k => by rw [purse_CheckBalance.j2]) (Ev.ifn (by decide) (Ev.ifp (by omega) (Ev.ifp (by omega) ?_)))
      have hrd : rd v ps[j].f0 = v.getD ps[j].f0.toNat 0 := rfl
      rw [hrd, w64 (a := ps[j].f1 * v.getD ps[j].f0.toNat 0) (by omega) (by omega), w64 (by omega) (by omega), ← tw_snoc, ← List.take_succ_eq_append_getElem hjl, ← shI_zero _ _ ps[j]]
      have := bal_part hv d ps j hjl h32 hok hp (tw v (ps.take (j + 1))) r hr (pn v.length) 0 (by omega)
      have hsl : ((shI (pn v.length) (List.take j ps) ps[j] 0).length : Int) = ((pn v.length : Nat) : Int) := by rw [shI_len]
      rw [hsl]
      exact this
    · refine ⟨1, ?_, fun h => absurd h (by decide)⟩
      refine Ev.step (fun k => by rw [purse_CheckBalance.l0]) (Ev.ifp (by omega) (Ev.ifp (by omega) (Ev.ifp (by omega) ?_)))
      rw [rd59 ps j hjl, hlast]
      unfold purse_within.f
      unfold okPart at hp
      by_cases c1 : ps[j].f0 ≥ 1
      · rw [if_pos c1]
        by_cases c2 : ps[j].f0 ≤ ((v.length - 1 : Nat) : Int)
        · refine Ev.bindc rfl (Ev.ifp (decide_eq_true c2) ?_)
          by_cases c3 : ps[j].f1 ≥ 1
          · rw [if_pos c3]
            refine Ev.bindc rfl ?_
            rw [decide_eq_false (show ¬ ps[j].f1 ≤ 1000 by omega)]
            refine Ev.step (fun k => by rw [purse_CheckBalance.j2]) ?_
            exact Ev.ifp rfl (Ev.now _)
          · rw [if_neg c3]
            refine Ev.bindc rfl ?_
            refine Ev.step (fun k => by rw [purse_CheckBalance.j2]) ?_
            exact Ev.ifp rfl (Ev.now _)
        · refine Ev.bindc rfl (Ev.ifn (fun q => c2 (of_decide_eq_true q)) ?_)
          refine Ev.step (fun k => by rw [purse_CheckBalance.j2]) ?_
          exact Ev.ifp rfl (Ev.now _)
      · rw [if_neg c1]
        refine Ev.bindc rfl (Ev.ifn (by decide) ?_)
        refine Ev.step (fun k => by rw [purse_CheckBalance.j2]) ?_
        exact Ev.ifp rfl (Ev.now _)
end
theorem CheckBalance_ev (v : List Int) (d : Int) (ps : List S59) (hn : v.length < 1000000000000000000) : ∃ r, Ev (fun k => purse_CheckBalance.f k v d ps) r ∧ (r = 0 → okV v = true ∧ 1 ≤ d ∧ Bal v d ps) := by
  unfold purse_CheckBalance.f
  by_cases hv : okV v = true
  · have hval : purse_Validate.f v = some 0 := by rw [Validate_eq v hn, if_pos hv]
    have one : ∀ {g : Nat → Option Int}, Ev g 1 → ∃ r, Ev g r ∧ (r = 0 → okV v = true ∧ 1 ≤ d ∧ Bal v d ps) := fun h => ⟨1, h, fun q => absurd q (by decide)⟩
    have hbad : Ev (fun k => purse_CheckBalance.j0 k v true d ps) 1 := Ev.step (fun k => by rw [purse_CheckBalance.j0]) (Ev.ifp rfl (Ev.now _))
    by_cases h1 : d ≥ 1
    · have hw : purse_within.f d 1 1000 = some (decide (d ≤ 1000)) := by unfold purse_within.f; rw [if_pos h1]
      by_cases h2 : d ≤ 1000
      · by_cases h3 : ps.length ≤ 32
        · obtain ⟨r, hr, hb⟩ := bal_loop hv d h1 h2 ps h3 ps.length 0 (by omega) (fun p hp => by simp at hp)
          refine ⟨r, Ev.bindc hval (Ev.ifp rfl (Ev.bindc hw (Ev.ifp (decide_eq_true h2) ?_))), fun q => ⟨hv, h1, hb q⟩⟩
          rw [decide_eq_false (show ¬ (ps.length : Int) > 32 by omega)]
          have hp5 := (pn_pow (okV_n hv)).2.2
          refine Ev.step (fun k => by rw [purse_CheckBalance.j0]) (Ev.ifn (by decide) (Ev.bindc (players_eq v (okV_n hv)) ?_))
          refine Ev.ifp (by omega) (Ev.ifp (by omega) ?_)
          have hz : List.replicate (((pn v.length : Nat) : Int)).toNat (0 : Int) = shL (pn v.length) (ps.take 0) := by
            rw [Int.toNat_natCast]
            unfold shL
            apply List.ext_getElem
            · simp
            · intro q h1 h2
              simp [ws]
          rw [hz]
          exact hr
        · refine one (Ev.bindc hval (Ev.ifp rfl (Ev.bindc hw (Ev.ifp (decide_eq_true h2) ?_))))
          rw [decide_eq_true (show (ps.length : Int) > 32 by omega)]
          exact hbad
      · exact one (Ev.bindc hval (Ev.ifp rfl (Ev.bindc hw (Ev.ifn (fun q => h2 (of_decide_eq_true q)) hbad))))
    · have hw : purse_within.f d 1 1000 = some false := by unfold purse_within.f; rw [if_neg h1]
      exact one (Ev.bindc hval (Ev.ifp rfl (Ev.bindc hw (Ev.ifn (by decide) hbad))))
  · refine ⟨1, Ev.bindc (show purse_Validate.f v = some 1 by rw [Validate_eq v hn, if_neg hv]) (Ev.ifn (by decide) (Ev.now _)), fun q => absurd q (by decide)⟩
/-- What the weighted groups get is what the players get, each as often as its groups weigh. -/
def wg (num : List Int) : List S59 → Int
  | [] => 0
  | p :: ps => p.f1 * gs num p.f0.toNat 0 + wg num ps
def pw (ps : List S59) : List Int → Nat → Int
  | [], _ => 0
  | x :: xs, i => x * ws ps i + pw ps xs (i + 1)
theorem pw_nil : ∀ (num : List Int) (i : Nat), pw [] num i = 0
  | [], _ => rfl
  | x :: xs, i => by unfold pw; rw [pw_nil xs (i + 1)]; simp [ws]
theorem pw_cons (p : S59) (ps : List S59) : ∀ (num : List Int) (i : Nat), pw (p :: ps) num i = p.f1 * gs num p.f0.toNat i + pw ps num i
  | [], _ => by simp [pw, gs]
  | x :: xs, i => by
    unfold pw gs
    rw [pw_cons p ps xs (i + 1)]
    show x * ((if p.f0.toNat.testBit i = true then p.f1 else 0) + ws ps i) + _ = _
    by_cases h : p.f0.toNat.testBit i = true
    · rw [if_pos h, if_pos h, Int.mul_add, Int.mul_add, Int.mul_comm x p.f1]; omega
    · rw [if_neg h, if_neg h, Int.zero_add, Int.zero_add]; omega
theorem wg_pw (num : List Int) : ∀ ps : List S59, wg num ps = pw ps num 0
  | [] => by rw [pw_nil]; rfl
  | p :: ps => by unfold wg; rw [wg_pw num ps, pw_cons]
theorem pw_const (ps : List S59) (d : Int) : ∀ (num : List Int) (i : Nat), (∀ q, i ≤ q → q < i + num.length → ws ps q = d) → pw ps num i = d * num.sum
  | [], _, _ => by simp [pw]
  | x :: xs, i, h => by
    unfold pw
    rw [List.length_cons] at h
    rw [pw_const ps d xs (i + 1) (fun q h1 h2 => h q (by omega) (by omega)), h i (by omega) (by omega), List.sum_cons, Int.mul_add, Int.mul_comm x d]
/-- A pay in the core and a balance against the purse exclude each other. -/
theorem exclude {v : List Int} {d : Int} {num : List Int} (H : Paid v d num) (hc : Core v d num 0) {e : Int} {ps : List S59} (he : 1 ≤ e) (B : Bal v e ps) : False := by
  have h1 : ∀ l : List S59, (∀ p ∈ l, okPart v p) → d * tw v l ≤ wg num l := by
    intro l
    induction l with
    | nil => intro _; simp [tw, wg]
    | cons p l ih =>
      intro hl
      have hp := hl p List.mem_cons_self
      have h2 := ih (fun q hq => hl q (List.mem_cons_of_mem _ hq))
      unfold okPart at hp
      have h3 := hc.1 p.f0.toNat (Nat.zero_le _) (by omega)
      unfold ex at h3
      have h4 : d * v.getD p.f0.toNat 0 ≤ gs num p.f0.toNat 0 := by omega
      have h5 : p.f1 * (d * v.getD p.f0.toNat 0) ≤ p.f1 * gs num p.f0.toNat 0 := Int.mul_le_mul_of_nonneg_left h4 (by omega)
      unfold tw wg
      rw [Int.mul_add, show d * (p.f1 * v.getD p.f0.toNat 0) = p.f1 * (d * v.getD p.f0.toNat 0) by rw [← Int.mul_assoc, Int.mul_comm d p.f1, Int.mul_assoc]]
      omega
  have h2 := h1 ps B.ok
  rw [wg_pw, pw_const ps e num 0 (fun q _ hq => B.share q (by rw [← H.n]; omega))] at h2
  have h3 := hc.2
  rw [last_ex H] at h3
  have h4 : num.sum = d * v.getD (v.length - 1) 0 := by omega
  rw [h4, ← Int.mul_assoc, Int.mul_comm e d, Int.mul_assoc] at h2
  have h5 := B.more
  have h6 : tw v ps ≤ e * v.getD (v.length - 1) 0 := Int.le_of_mul_le_mul_left h2 (show 0 < d by have := H.d1; omega)
  omega
end Go.Proofs.YtjphklemnhgkiaaDoor.Pure
