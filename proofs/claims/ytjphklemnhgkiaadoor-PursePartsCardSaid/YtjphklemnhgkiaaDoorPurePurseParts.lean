/- The law PurseParts, as a statement on lists alone: each player gets an equal part of the dividends of its groups. For all purses. -/
import Derived.Test.YtjphklemnhgkiaaDoorQx0
import Derived.Test.YtjphklemnhgkiaaDoorQx2
import Derived.Test.YtjphklemnhgkiaaDoorQx9
import Derived.Test.YtjphklemnhgkiaaDoorQx18
import Derived.Test.YtjphklemnhgkiaaDoorQx19
import Derived.Test.YtjphklemnhgkiaaDoorZPurseParts
namespace Go.Proofs.YtjphklemnhgkiaaDoor.Pure
open Go.RowKit Go.Proofs.YtjphklemnhgkiaaDoor.Q Go.Proofs.YtjphklemnhgkiaaDoorW.PrintWords Go.Proofs.YtjphklemnhgkiaaDoorW.PrintLast
set_option linter.unusedVariables false

theorem bit_eq (i g : Nat) (hi : i < 8) (hg : g < 32) : Go.bits .and .i64 (shr .i64 (g : Int) (IntKind.u64.wrap (i : Int))) 1 = (if g.testBit i = true then 1 else 0) ∧ 0 ≤ IntKind.u64.wrap (i : Int) := by
  have h : ∀ (i : Fin 8) (g : Fin 32), Go.bits .and .i64 (shr .i64 (g.val : Int) (IntKind.u64.wrap (i.val : Int))) 1 = (if g.val.testBit i.val = true then 1 else 0) ∧ 0 ≤ IntKind.u64.wrap (i.val : Int) := by decide +kernel
  exact h ⟨i, hi⟩ ⟨g, hg⟩
theorem bsum_le (g : Nat) : ∀ i, bsum g i ≤ i := by
  intro i
  induction i with
  | zero => exact Nat.le_refl _
  | succ i ih => unfold bsum; split <;> omega
theorem bsum_pos (g p : Nat) (hb : g.testBit p = true) : ∀ i, p < i → 1 ≤ bsum g i := by
  intro i
  induction i with
  | zero => intro h; omega
  | succ i ih =>
    intro h
    unfold bsum
    by_cases e : p = i
    · subst e
      rw [if_pos hb]
      omega
    · have := ih (by omega)
      omega
section
variable {v : List Int} (hv : okV v = true)
include hv
omit hv in
theorem dvL_len : (dvL v).length = v.length := dvS_len _ _ _
omit hv in
theorem dvL_rd (g : Nat) (hg : g < v.length) : rd (dvL v) (g : Int) = dvP (vv v) (pn v.length) g := by
  rw [rd_nat]
  unfold dvL
  rw [dvS_get v _ 0 g hg, if_neg (by omega)]
theorem div_bound (g : Nat) : -32000 ≤ dvP (vv v) (pn v.length) g ∧ dvP (vv v) (pn v.length) g ≤ 32000 := by
  obtain ⟨hp, hp1, hp5⟩ := pn_pow (okV_n hv)
  have h := dvP_bound (vv v) (okV_val hv) (pn v.length) g
  have h16 : 2 ^ pn v.length ≤ 2 ^ 5 := Nat.pow_le_pow_right (show 0 < 2 by decide) (by omega)
  have hlt : ((2 ^ pn v.length : Nat) : Int) ≤ 32 := Int.ofNat_le.2 h16
  omega
theorem tp_bound (p g : Nat) : -1920000 ≤ tp (pn v.length) p (dvP (vv v) (pn v.length)) g ∧ tp (pn v.length) p (dvP (vv v) (pn v.length)) g ≤ 1920000 := by
  unfold tp
  have hb := div_bound hv g
  generalize dvP (vv v) (pn v.length) g = D at *
  by_cases h : g.testBit p = true
  · rw [if_pos h]
    have q0 : 0 ≤ (60 : Int) / ((bsum g (pn v.length) : Nat) : Int) := Int.ediv_nonneg (by decide) (by omega)
    have q1 : (60 : Int) / ((bsum g (pn v.length) : Nat) : Int) ≤ 60 := Int.ediv_le_self _ (by decide)
    generalize (60 : Int) / ((bsum g (pn v.length) : Nat) : Int) = q at *
    constructor
    · calc (-1920000 : Int) = (-32000) * 60 := by decide
        _ ≤ (-32000) * q := by omega
        _ ≤ D * q := Int.mul_le_mul_of_nonneg_right hb.1 q0
    · calc D * q ≤ 32000 * q := Int.mul_le_mul_of_nonneg_right hb.2 q0
        _ ≤ 1920000 := by omega
  · rw [if_neg h]
    omega
theorem parts_l2 (p g : Nat) (hp : p < pn v.length) (hg : g < v.length) (acc : Int) (h1 : -1920000 * (g : Int) ≤ acc) (h2 : acc ≤ 1920000 * (g : Int))
    (H : Ev (fun k => wigeonlaw08_PurseParts.l1 k (shapL v (pn v.length)) (dvL v) (p : Int) (acc + tp (pn v.length) p (dvP (vv v) (pn v.length)) g) ((g + 1 : Nat) : Int)) true) :
    ∀ m i, i + m = pn v.length → Ev (fun k => wigeonlaw08_PurseParts.l2 k (shapL v (pn v.length)) (dvL v) (p : Int) acc (g : Int) ((bsum g i : Nat) : Int) (i : Int)) true := by
  obtain ⟨hpp, hp1, hp5⟩ := pn_pow (okV_n hv)
  have hl := okN_le (okV_n hv)
  intro m
  induction m with
  | zero =>
    intro i hi
    obtain ⟨b1, b2⟩ := bit_eq p g (by omega) (by omega)
    refine Ev.step (fun k => by rw [wigeonlaw08_PurseParts.l2]) (Ev.ifn (by rw [shapL_len]; omega) (Ev.ifp b2 ?_))
    rw [show i = pn v.length by omega, b1, w64s (i := g) (by omega)]
    have ht := tp_bound hv p g
    by_cases hb : g.testBit p = true
    · have hs := bsum_pos g p hb (pn v.length) hp
      have hs5 := bsum_le g (pn v.length)
      unfold tp at H ht
      rw [if_pos hb] at H ht
      have q0 : 0 ≤ (60 : Int) / ((bsum g (pn v.length) : Nat) : Int) := Int.ediv_nonneg (by decide) (by omega)
      have q1 : (60 : Int) / ((bsum g (pn v.length) : Nat) : Int) ≤ 60 := Int.ediv_le_self _ (by decide)
      rw [if_pos hb]
      refine Ev.ifp rfl (Ev.ifp (by omega) (Ev.ifp (by rw [dvL_len]; omega) (Ev.ifn (by omega) ?_)))
      rw [dvL_rd g hg, w64 (a := (60 : Int) / _) (by omega) (by omega), w64 (a := dvP (vv v) (pn v.length) g * _) (by omega) (by omega), w64 (by omega) (by omega)]
      exact H
    · unfold tp at H
      rw [if_neg hb, Int.add_zero] at H
      rw [if_neg hb]
      exact Ev.ifn (by decide) H
  | succ m ih =>
    intro i hi
    obtain ⟨b1, b2⟩ := bit_eq i g (by omega) (by omega)
    have hs5 := bsum_le g i
    refine Ev.step (fun k => by rw [wigeonlaw08_PurseParts.l2]) (Ev.ifp (by rw [shapL_len]; omega) (Ev.ifp b2 ?_))
    rw [b1, w64s (i := i) (by omega)]
    have e : wrap64 (((bsum g i : Nat) : Int) + (if g.testBit i = true then 1 else 0)) = ((bsum g (i + 1) : Nat) : Int) := by
      show _ = ((bsum g i + (if g.testBit i = true then 1 else 0) : Nat) : Int)
      by_cases hb : g.testBit i = true
      · rw [if_pos hb, if_pos hb, w64 (by omega) (by omega)]; omega
      · rw [if_neg hb, if_neg hb, w64 (by omega) (by omega)]; omega
    rw [e]
    exact ih (i + 1) (by omega)
omit hv in
theorem fr_den (a b : Int) (hb : 1 ≤ b) (hd : b ∣ 120) : (fr a b).f1 * (120 / (fr a b).f1) = 120 := by
  have hg := gc_pos a b hb
  obtain ⟨_, ⟨e, he⟩⟩ := gc_dvd a b
  obtain ⟨q, hq⟩ := hd
  have f1 : (fr a b).f1 = e := by
    show Int.tdiv b (gc a b) = e
    conv => lhs; arg 1; rw [he]
    exact Int.mul_tdiv_cancel_left _ (by omega)
  have p1 := (fr_facts a b hb ⟨q, hq⟩).1
  rw [f1] at p1 ⊢
  have h2 : (120 : Int) = e * (gc a b * q) := by
    rw [hq]
    conv => lhs; rw [he]
    rw [Int.mul_comm (gc a b) e, Int.mul_assoc]
  conv => lhs; arg 2; rw [h2]
  rw [Int.mul_ediv_cancel_left _ (by omega), ← h2]
theorem parts_end (p : Nat) (hp : p < pn v.length) : ∃ x : S42, rd_T42 (shapL v (pn v.length)) (p : Int) = x ∧ wrap64 (x.f0 * 60) = wrap64 (sp (pn v.length) p (dvP (vv v) (pn v.length)) (2 ^ pn v.length) 0 * x.f1) := by
  obtain ⟨hpp, hp1, hp5⟩ := pn_pow (okV_n hv)
  obtain ⟨q1, q2, q3⟩ := fact_facts (pn v.length) (by omega)
  refine ⟨_, shapL_rd v _ p hp, ?_⟩
  obtain ⟨f1, _, _, _, f5⟩ := fr_facts (sh (pn v.length) p (vv v) (2 ^ pn v.length) 0) (fa (pn v.length)) q1 q3
  have fd := fr_den (sh (pn v.length) p (vv v) (2 ^ pn v.length) 0) (fa (pn v.length)) q1 q3
  have hid := parts_eq (pn v.length) p (by omega) hp (vv v)
  have hq : fa (pn v.length) * (120 / fa (pn v.length)) = 120 := by
    obtain ⟨q, e⟩ := q3
    conv => lhs; arg 2; rw [e]
    rw [Int.mul_ediv_cancel_left _ (by omega), ← e]
  generalize (fr (sh (pn v.length) p (vv v) (2 ^ pn v.length) 0) (fa (pn v.length))) = x at *
  generalize sh (pn v.length) p (vv v) (2 ^ pn v.length) 0 = S at *
  generalize sp (pn v.length) p (dvP (vv v) (pn v.length)) (2 ^ pn v.length) 0 = P at *
  generalize fa (pn v.length) = D at *
  generalize (120 : Int) / D = q at *
  generalize (120 : Int) / x.f1 = c at *
  have c0 : c ≠ 0 := by
    intro h
    rw [h, Int.mul_zero] at fd
    omega
  have key : c * (x.f0 * 60) = c * (P * x.f1) := by
    calc c * (x.f0 * 60) = x.f0 * c * 60 := by rw [Int.mul_comm c, Int.mul_assoc, Int.mul_comm 60 c, Int.mul_assoc]
      _ = S * q * 60 := by rw [f5]
      _ = q * (60 * S) := by rw [Int.mul_comm S q, Int.mul_assoc, Int.mul_comm S 60]
      _ = q * (D * P) := by rw [hid]
      _ = D * q * P := by rw [← Int.mul_assoc, Int.mul_comm q D]
      _ = x.f1 * c * P := by rw [hq, fd]
      _ = c * (P * x.f1) := by rw [Int.mul_comm x.f1 c, Int.mul_assoc, Int.mul_comm x.f1 P]
  rw [Int.eq_of_mul_eq_mul_left c0 key]
theorem parts_l1 (p : Nat) (hp : p < pn v.length) (H : Ev (fun k => wigeonlaw08_PurseParts.l0 k (shapL v (pn v.length)) (dvL v) ((p + 1 : Nat) : Int)) true) : ∀ m g acc, g + m = v.length → -1920000 * (g : Int) ≤ acc → acc ≤ 1920000 * (g : Int) →
    acc + sp (pn v.length) p (dvP (vv v) (pn v.length)) m g = sp (pn v.length) p (dvP (vv v) (pn v.length)) (2 ^ pn v.length) 0 →
    Ev (fun k => wigeonlaw08_PurseParts.l1 k (shapL v (pn v.length)) (dvL v) (p : Int) acc (g : Int)) true := by
  have hl := okN_le (okV_n hv)
  obtain ⟨hpp, hp1, hp5⟩ := pn_pow (okV_n hv)
  intro m
  induction m with
  | zero =>
    intro g acc hg h1 h2 hs
    have hs : acc = sp (pn v.length) p (dvP (vv v) (pn v.length)) (2 ^ pn v.length) 0 := by
      rw [← hs]
      show acc = acc + 0
      omega
    obtain ⟨x, ex1, hx⟩ := parts_end hv p hp
    refine Ev.step (fun k => by rw [wigeonlaw08_PurseParts.l1]) (Ev.ifn (by rw [dvL_len]; omega) (Ev.ifp (by omega) (Ev.ifp (by rw [shapL_len]; omega) ?_)))
    rw [ex1, hs, w64s (by omega)]
    exact Ev.ifp hx H
  | succ m ih =>
    intro g acc hg h1 h2 hs
    have ht := tp_bound hv p g
    refine Ev.step (fun k => by rw [wigeonlaw08_PurseParts.l1]) (Ev.ifp (by rw [dvL_len]; omega) ?_)
    refine parts_l2 hv p g hp (by omega) acc h1 h2 ?_ (pn v.length) 0 (by omega)
    refine ih (g + 1) _ (by omega) (by omega) (by omega) ?_
    rw [← hs]
    show _ = acc + (tp (pn v.length) p (dvP (vv v) (pn v.length)) g + sp (pn v.length) p (dvP (vv v) (pn v.length)) m (g + 1))
    omega
theorem parts_l0 : ∀ m p, p + m = pn v.length → Ev (fun k => wigeonlaw08_PurseParts.l0 k (shapL v (pn v.length)) (dvL v) (p : Int)) true := by
  have hl := okN_le (okV_n hv)
  obtain ⟨hpp, hp1, hp5⟩ := pn_pow (okV_n hv)
  intro m
  induction m with
  | zero =>
    intro p hp
    exact Ev.step (fun k => by rw [wigeonlaw08_PurseParts.l0]) (Ev.ifn (by rw [shapL_len]; omega) known_bind)
  | succ m ih =>
    intro p hp
    refine Ev.step (fun k => by rw [wigeonlaw08_PurseParts.l0]) (Ev.ifp (by rw [shapL_len]; omega) ?_)
    refine parts_l1 hv p (by omega) (ih (p + 1) (by omega)) v.length 0 0 (by omega) (by omega) (by omega) ?_
    rw [Int.zero_add]
    congr 1
end
theorem PurseParts : wigeonlaw08_PurseParts.Pure := by
  intro l0 h0 h1 _
  refine Ev.rounds (?_ : Ev (fun k => wigeonlaw08_PurseParts.f k l0) true)
  unfold wigeonlaw08_PurseParts.f
  refine Ev.bindc (long_eq l0 []) ?_
  cases hlg : longP l0 [] with
  | true => exact Ev.ifp rfl known_bind
  | false =>
    have hl := long_no hlg
    refine Ev.ifn (by decide) ?_
    by_cases hv : okV l0 = true
    · obtain ⟨hpp, hp1, hp5⟩ := pn_pow (okV_n hv)
      have hs : ∀ n : Fin 6, 0 ≤ IntKind.u64.wrap (n.val : Int) ∧ shl .i64 1 (IntKind.u64.wrap (n.val : Int)) = ((2 ^ n.val : Nat) : Int) := by decide +kernel
      obtain ⟨e1, e2⟩ := hs ⟨pn l0.length, by omega⟩
      refine Ev.bind (Shapley_ev hv) (Ev.bind (Dividends_ev hv) (Ev.ifp rfl (Ev.ifp rfl ?_)))
      rw [shapL_len, dvL_len]
      refine Ev.ifp e1 (Ev.ifp ?_ (parts_l0 hv (pn l0.length) 0 (by omega)))
      rw [e2]
      exact congrArg (fun x : Nat => (x : Int)) hpp
    · have hval : purse_Validate.f l0 = some 1 := by rw [Validate_eq l0 (by omega), if_neg hv]
      have a : Ev (fun k => purse_Shapley.f k l0) ([], 1) := by
        unfold purse_Shapley.f
        exact Ev.bindc hval (Ev.ifn (by decide) (Ev.now _))
      have b : Ev (fun k => purse_Dividends.f k l0) ([], 1) := by
        unfold purse_Dividends.f
        exact Ev.bindc hval (Ev.ifn (by decide) (Ev.now _))
      exact Ev.bind a (Ev.bind b (Ev.ifp rfl (Ev.ifn (by decide) known_bind)))
end Go.Proofs.YtjphklemnhgkiaaDoor.Pure
