import Derived.Test.YtpkafcoflgbnaaaQx10
import Derived.Test.YtpkafcoflgbnaaaQx17
import Derived.Test.YtpkafcoflgbnaaaQx18
import Derived.Test.YtpkafcoflgbnaaaLibN
namespace Go.Proofs.Ytpkafcoflgbnaaa.Pure
open Go.RowKit Go.Proofs.Ytpkafcoflgbnaaa.Q Go.Proofs.YtpkafcoflgbnaaaW.PrintWords Go.Proofs.YtpkafcoflgbnaaaW.PrintLast Go.Proofs.YtpkafcoflgbnaaaW.PrintMore
set_option linter.unusedVariables false

/-! The sum of lengths, in lowest terms, by both. -/

/-- n / 2^e in lowest terms. -/
def red : Nat → Nat → Nat × Nat
  | n, 0 => (n, 1)
  | n, e + 1 => if n % 2 = 0 then red (n / 2) e else (n, 2 ^ (e + 1))
def redI (n e : Nat) : Int × Int := (((red n e).1 : Nat), ((red n e).2 : Nat))
theorem red_le (n : Nat) : ∀ e, ((red n e).1 ≤ (red n e).2 ↔ n ≤ 2 ^ e) := by
  intro e
  induction e generalizing n with
  | zero => exact Iff.rfl
  | succ e ih =>
    unfold red
    split
    · rw [ih, Nat.pow_succ]; omega
    · exact Iff.rfl
theorem half_pow (e : Nat) : Int.tdiv ((2 ^ (e + 1) : Nat) : Int) 2 = ((2 ^ e : Nat) : Int) := by
  rw [Nat.pow_succ]
  generalize 2 ^ e = p
  rw [Int.tdiv_eq_ediv_of_nonneg (by omega)]; omega
theorem half_nat (n : Nat) : Int.tdiv (n : Int) 2 = ((n / 2 : Nat) : Int) := by
  rw [Int.tdiv_eq_ediv_of_nonneg (by omega)]; omega
theorem tmod_nat (n : Nat) : Int.tmod (n : Int) 2 = ((n % 2 : Nat) : Int) := by
  rw [Int.tmod_eq_emod_of_nonneg (by omega)]; omega
theorem pow_le12 {e : Nat} (h : e ≤ 12) : 2 ^ e ≤ 4096 := Nat.le_trans (Nat.pow_le_pow_right (by decide) h) (by decide)
theorem red_ev (e : Nat) : ∀ (n : Nat), e ≤ 12 → n < 1000000 → Ev (fun k => whistle_filled.l1 k (n : Int) ((2 ^ e : Nat) : Int)) (redI n e) := by
  induction e with
  | zero =>
    intro n he hn
    refine Ev.step (fun k => by rw [whistle_filled.l1]) ?_
    by_cases h : n % 2 = 0
    · exact Ev.ifp (by rw [tmod_nat]; omega) (Ev.ifn (by decide) (Ev.now _))
    · exact Ev.ifn (by rw [tmod_nat]; omega) (Ev.now _)
  | succ e ih =>
    intro n he hn
    have hp := pow_le12 (show e ≤ 12 by omega)
    have hw1 : wrap64 (Int.tdiv (n : Int) 2) = ((n / 2 : Nat) : Int) := by rw [half_nat, w64 (by omega) (by omega)]
    have hw2 : wrap64 (Int.tdiv ((2 ^ (e + 1) : Nat) : Int) 2) = ((2 ^ e : Nat) : Int) := by rw [half_pow]; generalize 2 ^ e = p at *; exact w64 (by omega) (by omega)
    refine Ev.step (fun k => by rw [whistle_filled.l1, hw1, hw2]) ?_
    by_cases h : n % 2 = 0
    · refine Ev.ifp (by rw [tmod_nat]; omega) (Ev.ifp (by rw [tmod_nat, Nat.pow_succ, Nat.mul_mod_left]; rfl) ?_)
      have := ih (n / 2) (by omega) (by omega)
      rwa [show redI n (e + 1) = redI (n / 2) e by unfold redI; conv => lhs; unfold red; rw [if_pos h]]
    · refine Ev.ifn (by rw [tmod_nat]; omega) (Ev.val ?_)
      unfold redI red
      rw [if_neg h]
theorem rred_ev (e : Nat) : ∀ (n : Nat), e ≤ 12 → n < 1000000 → Ev (fun k => wigeonref05_halves.l1 k (n : Int) ((2 ^ e : Nat) : Int)) (redI n e) := by
  induction e with
  | zero =>
    intro n he hn
    exact Ev.step (fun k => by rw [wigeonref05_halves.l1]) (Ev.ifn (show ¬ (((2 ^ 0 : Nat) : Int) > 1) by decide) (Ev.val (by rfl)))
  | succ e ih =>
    intro n he hn
    have hp := pow_le12 (show e ≤ 12 by omega)
    have hp0 : 0 < 2 ^ e := Nat.pow_pos (by decide)
    have hw1 : wrap64 (Int.tdiv (n : Int) 2) = ((n / 2 : Nat) : Int) := by rw [half_nat, w64 (by omega) (by omega)]
    have hw2 : wrap64 (Int.tdiv ((2 ^ (e + 1) : Nat) : Int) 2) = ((2 ^ e : Nat) : Int) := by rw [half_pow]; generalize 2 ^ e = p at *; exact w64 (by omega) (by omega)
    refine Ev.step (fun k => by rw [wigeonref05_halves.l1, hw1, hw2]) (Ev.ifp (by rw [Nat.pow_succ]; generalize 2 ^ e = p at *; omega) ?_)
    by_cases h : n % 2 = 0
    · refine Ev.ifp (by rw [tmod_nat]; omega) ?_
      have := ih (n / 2) (by omega) (by omega)
      rwa [show redI n (e + 1) = redI (n / 2) e by unfold redI; conv => lhs; unfold red; rw [if_pos h]]
    · refine Ev.ifn (by rw [tmod_nat]; omega) (Ev.val ?_)
      unfold redI red
      rw [if_neg h]
/-- The sum of 2^12 / 2^length. -/
def fillN (l : List Int) : Nat := (l.map fun x => 2 ^ (12 - x.toNat)).sum
def LenOk (l : List Int) : Prop := l.length ≤ 12 ∧ ∀ x ∈ l, 1 ≤ x ∧ x ≤ 12
theorem fillN_cons (x : Int) (l : List Int) : fillN (x :: l) = 2 ^ (12 - x.toNat) + fillN l := by unfold fillN; rw [List.map_cons, List.sum_cons]
theorem fillN_le {l : List Int} (h : ∀ x ∈ l, 1 ≤ x ∧ x ≤ 12) : fillN l ≤ 4096 * l.length := by
  induction l with
  | nil => exact Nat.le_refl _
  | cons x l ih =>
    have := ih (fun y hy => h y (List.mem_cons_of_mem _ hy))
    have := pow_le12 (show 12 - x.toNat ≤ 12 by omega)
    rw [fillN_cons, List.length_cons]; omega
theorem pow_split {a : Nat} (h : a ≤ 12) : 4096 / 2 ^ a = 2 ^ (12 - a) := by
  have : 4096 = 2 ^ (12 - a) * 2 ^ a := by rw [← Nat.pow_add, show 12 - a + a = 12 by omega]
  rw [this, Nat.mul_div_cancel _ (Nat.pow_pos (by decide))]
theorem shr_4096 {x : Int} (h1 : 1 ≤ x) (h2 : x ≤ 12) : shr .i64 4096 x = ((2 ^ (12 - x.toNat) : Nat) : Int) := by
  unfold shr
  rw [show min x.toNat IntKind.i64.bits = x.toNat from Nat.min_eq_left (by show x.toNat ≤ 64; omega), ← pow_split (show x.toNat ≤ 12 by omega), Int.natCast_ediv, Int.natCast_pow]
  rfl
theorem shl_one {a : Nat} (h : a ≤ 12) : shl .i64 1 (a : Int) = ((2 ^ a : Nat) : Int) := by
  have := pow_le12 h
  unfold shl
  rw [show min (a : Int).toNat IntKind.i64.bits = a by rw [Int.toNat_natCast]; exact Nat.min_eq_left (by show a ≤ 64; omega), Int.one_mul]
  have e : ((2 : Int) ^ a) = ((2 ^ a : Nat) : Int) := (Int.natCast_pow 2 a).symm
  rw [e, i64_w]
  generalize 2 ^ a = p at *
  exact w64 (by omega) (by omega)
theorem filled_at {l : List Int} (hl : LenOk l) (d : Nat) : ∀ (i s : Nat), i + d = l.length → s + fillN (l.drop i) ≤ 49152 → Ev (fun k => whistle_filled.l0 k (s : Int) 4096 l (l.length : Int) (i : Int)) (redI (s + fillN (l.drop i)) 12) := by
  have hlen := hl.1
  induction d with
  | zero =>
    intro i s hi hs
    rw [List.drop_eq_nil_of_le (by omega), show fillN [] = 0 from rfl, Nat.add_zero] at hs ⊢
    have h12 : Ev (fun k => whistle_filled.l1 k (s : Int) 4096) (redI s 12) := red_ev 12 s (by decide) (by omega)
    exact Ev.step (fun k => by rw [whistle_filled.l0]) (Ev.ifn (by omega) h12)
  | succ d ih =>
    intro i s hi hs
    rw [drop_rd (show i < l.length by omega), fillN_cons] at hs ⊢
    obtain ⟨h1, h2⟩ := hl.2 (rd l (i : Int)) (by rw [rd_nat]; exact getD_mem (by omega))
    have hp := pow_le12 (show 12 - (rd l (i : Int)).toNat ≤ 12 by omega)
    have hsh := shr_4096 h1 h2
    generalize 2 ^ (12 - (rd l (i : Int)).toNat) = p at *
    refine Ev.step (fun k => by rw [whistle_filled.l0, hsh]) (Ev.ifp (by omega) (Ev.ifp (by omega) (Ev.ifp (by omega) (Ev.ifp (by omega) ?_))))
    rw [w64s (by omega), w64 (by omega) (by omega), ← Int.natCast_add, ← Nat.add_assoc]
    exact ih (i + 1) _ (by omega) (by omega)
theorem filled_ev {l : List Int} (hl : LenOk l) : Ev (fun k => whistle_filled.f k l) (redI (fillN l) 12) := by
  have h1 := fillN_le hl.2
  have hlen := hl.1
  have h0 : Ev (fun k => whistle_filled.l0 k 0 4096 l (l.length : Int) 0) (redI (0 + fillN (l.drop 0)) 12) := filled_at hl l.length 0 0 (by omega) (by rw [List.drop_zero]; omega)
  rwa [List.drop_zero, Nat.zero_add] at h0
theorem halves_at {l : List Int} (hl : LenOk l) (d : Nat) : ∀ (i s : Nat), i + d = l.length → s + fillN (l.drop i) ≤ 49152 → Ev (fun k => wigeonref05_halves.l0 k l (i : Int) (s : Int) 4096) (redI (s + fillN (l.drop i)) 12) := by
  have hlen := hl.1
  induction d with
  | zero =>
    intro i s hi hs
    rw [List.drop_eq_nil_of_le (by omega), show fillN [] = 0 from rfl, Nat.add_zero] at hs ⊢
    have h12 : Ev (fun k => wigeonref05_halves.l1 k (s : Int) 4096) (redI s 12) := rred_ev 12 s (by decide) (by omega)
    exact Ev.step (fun k => by rw [wigeonref05_halves.l0]) (Ev.ifn (by omega) h12)
  | succ d ih =>
    intro i s hi hs
    rw [drop_rd (show i < l.length by omega), fillN_cons] at hs ⊢
    obtain ⟨h1, h2⟩ := hl.2 (rd l (i : Int)) (by rw [rd_nat]; exact getD_mem (by omega))
    have hp := pow_le12 (show 12 - (rd l (i : Int)).toNat ≤ 12 by omega)
    have hw : wrap64 (12 - rd l (i : Int)) = ((12 - (rd l (i : Int)).toNat : Nat) : Int) := by rw [w64 (by omega) (by omega)]; omega
    have hsh := shl_one (show 12 - (rd l (i : Int)).toNat ≤ 12 by omega)
    generalize 2 ^ (12 - (rd l (i : Int)).toNat) = p at *
    refine Ev.step (fun k => by rw [wigeonref05_halves.l0, hw, hsh]) (Ev.ifp (by omega) (Ev.ifp (by omega) (Ev.ifp (by omega) ?_)))
    rw [w64s (by omega), w64 (by omega) (by omega), ← Int.natCast_add, ← Nat.add_assoc]
    exact ih (i + 1) _ (by omega) (by omega)
theorem halves_ev {l : List Int} (hl : LenOk l) : Ev (fun k => wigeonref05_halves.f k l) (redI (fillN l) 12) := by
  have h1 := fillN_le hl.2
  have hlen := hl.1
  have h0 : Ev (fun k => wigeonref05_halves.l0 k l 0 0 4096) (redI (0 + fillN (l.drop 0)) 12) := halves_at hl l.length 0 0 (by omega) (by rw [List.drop_zero]; omega)
  rwa [List.drop_zero, Nat.zero_add] at h0
/-- The lengths of a code. -/
def lensC (C : List ByteArray) : List Int := C.map fun s => (s.size : Int)
theorem lensC_ok {C : List ByteArray} (v : Valid C) : LenOk (lensC C) := by
  refine ⟨by unfold lensC; rw [List.length_map]; exact v.few, fun x hx => ?_⟩
  obtain ⟨s, hs, rfl⟩ := List.mem_map.1 hx
  have := v.size1 s hs
  have := v.size12 s hs
  omega
theorem lensC_snoc (C : List ByteArray) (i : Nat) (hi : i < C.length) : lensC (C.take i) ++ [((gt C i).size : Int)] = lensC (C.take (i + 1)) := by
  unfold lensC
  rw [List.take_succ_eq_append_getElem hi, List.map_append]
  congr 1
  unfold gt
  rw [List.getD_eq_getElem?_getD, List.getElem?_eq_getElem hi]; rfl
theorem lensC_len (C : List ByteArray) (i : Nat) (h : i ≤ C.length) : (lensC (C.take i)).length = i := by unfold lensC; rw [List.length_map, List.length_take]; omega
theorem lengths_at {C : List ByteArray} (hC : C.length < 1000000) (d : Nat) : ∀ i, i + d = C.length → Ev (fun k => whistle_lengths.l0 k (lensC (C.take i)) C (C.length : Int) (i : Int)) (lensC C) := by
  induction d with
  | zero =>
    intro i hi
    refine Ev.step (fun k => by rw [whistle_lengths.l0]) (Ev.ifn (by omega) (Ev.val ?_))
    rw [List.take_of_length_le (by omega)]
  | succ d ih =>
    intro i hi
    refine Ev.step (fun k => by rw [whistle_lengths.l0, rdOf_gt]) (Ev.ifp (by omega) (Ev.ifp (by omega) (Ev.ifp (by omega) (Ev.ifp (by rw [lensC_len C i (by omega)]; omega) ?_))))
    rw [lensC_snoc C i (by omega), w64s (by omega)]
    exact ih (i + 1) (by omega)
theorem lengths_ev {C : List ByteArray} (hC : C.length < 1000000) : Ev (fun k => whistle_lengths.f k C) (lensC C) := lengths_at hC C.length 0 (by omega)
/-- Kraft, both. -/
def kraftP (C : List ByteArray) : Int × Int × Int := if valP C = 0 then ((redI (fillN (lensC C)) 12).1, (redI (fillN (lensC C)) 12).2, 0) else (0, 0, valP C)
theorem kraft_ev {C : List ByteArray} (hS : Sized C) : Ev (fun k => whistle_Kraft.f k C) (kraftP C) := by
  unfold whistle_Kraft.f kraftP
  refine Ev.bind (val_ev C hS) ?_
  by_cases h : valP C = 0
  · rw [if_pos (show valP C = 0 from h)]
    have v := valP_zero.1 h
    have := v.few
    exact Ev.ifp h (Ev.bind (lengths_ev (by omega)) (Ev.bind (filled_ev (lensC_ok v)) (Ev.now _)))
  · rw [if_neg (show ¬ valP C = 0 from h)]; exact Ev.ifn h (Ev.now _)
theorem rkraft_at {C : List ByteArray} (v : Valid C) (d : Nat) : ∀ i, i + d = C.length → Ev (fun k => wigeonref05_Kraft.l0 k C (lensC (C.take i)) (i : Int)) ((redI (fillN (lensC C)) 12).1, (redI (fillN (lensC C)) 12).2, 0) := by
  have hC := v.few
  induction d with
  | zero =>
    intro i hi
    rw [List.take_of_length_le (by omega)]
    exact Ev.step (fun k => by rw [wigeonref05_Kraft.l0]) (Ev.ifn (by omega) (Ev.bind (halves_ev (lensC_ok v)) (Ev.now _)))
  | succ d ih =>
    intro i hi
    refine Ev.step (fun k => by rw [wigeonref05_Kraft.l0, rdOf_gt]) (Ev.ifp (by omega) (Ev.ifp (by omega) (Ev.ifp (by rw [lensC_len C i (by omega)]; omega) ?_)))
    rw [lensC_snoc C i (by omega), w64s (by omega)]
    exact ih (i + 1) (by omega)
theorem rkraft_ev {C : List ByteArray} (hS : Sized C) : Ev (fun k => wigeonref05_Kraft.f k C) (kraftP C) := by
  unfold wigeonref05_Kraft.f kraftP
  refine Ev.bind (rval_ev C hS) ?_
  by_cases h : valP C = 0
  · rw [if_pos (show valP C = 0 from h)]
    exact Ev.ifp h (rkraft_at (valP_zero.1 h) C.length 0 (by omega))
  · rw [if_neg (show ¬ valP C = 0 from h)]; exact Ev.ifn h (Ev.now _)

/-! No signal begins with another one, by both. -/
def preI (C : List ByteArray) (i j d : Nat) : Bool := (List.range' j d).all fun t => i == t || !headB (gt C i) (gt C t)
def preO (C : List ByteArray) (i d : Nat) : Bool := (List.range' i d).all fun t => preI C t 0 C.length
def preB (C : List ByteArray) : Bool := preO C 0 C.length
def preP (C : List ByteArray) : Bool × Int := if valP C = 0 then (preB C, 0) else (false, valP C)
theorem preI_succ (C : List ByteArray) (i j d : Nat) : preI C i j (d + 1) = ((i == j || !headB (gt C i) (gt C j)) && preI C i (j + 1) d) := by unfold preI; rw [List.range'_succ, List.all_cons]
theorem preO_succ (C : List ByteArray) (i d : Nat) : preO C i (d + 1) = (preI C i 0 C.length && preO C (i + 1) d) := by unfold preO; rw [List.range'_succ, List.all_cons]
theorem pre_in {C : List ByteArray} (hC : C.length ≤ 12) (i : Nat) (hi : i < C.length) (r : Bool) (hr : Ev (fun k => whistle_IsPrefix.l0 k C C (C.length : Int) ((i + 1 : Nat) : Int)) (r, 0)) (d : Nat) : ∀ j, j + d = C.length → Ev (fun k => whistle_IsPrefix.l1 k C (i : Int) (gt C i) C (C.length : Int) (i : Int) C (C.length : Int) (j : Int)) (preI C i j d && r, 0) := by
  induction d with
  | zero =>
    intro j hj
    rw [show preI C i j 0 = true from rfl, Bool.true_and]
    refine Ev.step (fun k => by rw [whistle_IsPrefix.l1]) (Ev.ifn (by omega) ?_)
    rw [w64s (by omega)]
    exact hr
  | succ d ih =>
    intro j hj
    rw [preI_succ]
    refine Ev.step (fun k => by rw [whistle_IsPrefix.l1, rdOf_gt, w64s (show j < 1000000000000000000 by omega)]) (Ev.ifp (by omega) (Ev.ifp (by omega) (Ev.ifp (by omega) ?_)))
    by_cases e : i = j
    · refine Ev.ifp (by omega) ?_
      rw [show (i == j) = true from beq_iff_eq.2 e, Bool.true_or, Bool.true_and]
      exact ih (j + 1) (by omega)
    · refine Ev.ifn (by omega) (Ev.bindc (hasPrefix_eq _ _) ?_)
      rw [show (i == j) = false from beq_eq_false_iff_ne.2 e, Bool.false_or]
      cases h : headB (gt C i) (gt C j)
      · refine Ev.ifn (by decide) ?_
        exact ih (j + 1) (by omega)
      · exact Ev.ifp rfl (Ev.now _)
theorem pre_at {C : List ByteArray} (hC : C.length ≤ 12) (d : Nat) : ∀ i, i + d = C.length → Ev (fun k => whistle_IsPrefix.l0 k C C (C.length : Int) (i : Int)) (preO C i d, 0) := by
  induction d with
  | zero =>
    intro i hi
    exact Ev.step (fun k => by rw [whistle_IsPrefix.l0]) (Ev.ifn (by omega) (Ev.val (by rfl)))
  | succ d ih =>
    intro i hi
    rw [preO_succ]
    refine Ev.step (fun k => by rw [whistle_IsPrefix.l0, rdOf_gt]) (Ev.ifp (by omega) (Ev.ifp (by omega) (Ev.ifp (by omega) ?_)))
    exact pre_in hC i (by omega) _ (ih (i + 1) (by omega)) C.length 0 (by omega)
theorem pre_ev {C : List ByteArray} (hS : Sized C) : Ev (fun k => whistle_IsPrefix.f k C) (preP C) := by
  unfold whistle_IsPrefix.f preP
  refine Ev.bind (val_ev C hS) ?_
  by_cases h : valP C = 0
  · rw [if_pos (show valP C = 0 from h)]
    have h0 : Ev (fun k => whistle_IsPrefix.l0 k C C (C.length : Int) 0) (preO C 0 C.length, 0) := pre_at (valP_zero.1 h).few C.length 0 (by omega)
    exact Ev.ifp h h0
  · rw [if_neg (show ¬ valP C = 0 from h)]; exact Ev.ifn h (Ev.now _)
theorem rpre_in {C : List ByteArray} (hC : C.length ≤ 12) (i : Nat) (hi : i < C.length) (r : Bool) (hr : Ev (fun k => wigeonref05_IsPrefix.l0 k C ((i + 1 : Nat) : Int)) (r, 0)) (d : Nat) : ∀ j, j + d = C.length → Ev (fun k => wigeonref05_IsPrefix.l1 k C (i : Int) (j : Int)) (preI C i j d && r, 0) := by
  induction d with
  | zero =>
    intro j hj
    rw [show preI C i j 0 = true from rfl, Bool.true_and]
    refine Ev.step (fun k => by rw [wigeonref05_IsPrefix.l1]) (Ev.ifn (by omega) ?_)
    rw [w64s (by omega)]
    exact hr
  | succ d ih =>
    intro j hj
    rw [preI_succ]
    refine Ev.step (fun k => by rw [wigeonref05_IsPrefix.l1, rdOf_gt, rdOf_gt, w64s (show j < 1000000000000000000 by omega)]) (Ev.ifp (by omega) ?_)
    by_cases e : i = j
    · refine Ev.ifp (by omega) ?_
      rw [show (i == j) = true from beq_iff_eq.2 e, Bool.true_or, Bool.true_and]
      exact ih (j + 1) (by omega)
    · refine Ev.ifn (by omega) (Ev.ifp (by omega) (Ev.ifp (by omega) (Ev.ifp (by omega) (Ev.bindc (begins_eq _ _) ?_))))
      rw [show (i == j) = false from beq_eq_false_iff_ne.2 e, Bool.false_or]
      cases h : headB (gt C i) (gt C j)
      · refine Ev.ifn (by decide) ?_
        exact ih (j + 1) (by omega)
      · exact Ev.ifp rfl (Ev.now _)
theorem rpre_at {C : List ByteArray} (hC : C.length ≤ 12) (d : Nat) : ∀ i, i + d = C.length → Ev (fun k => wigeonref05_IsPrefix.l0 k C (i : Int)) (preO C i d, 0) := by
  induction d with
  | zero =>
    intro i hi
    exact Ev.step (fun k => by rw [wigeonref05_IsPrefix.l0]) (Ev.ifn (by omega) (Ev.val (by rfl)))
  | succ d ih =>
    intro i hi
    rw [preO_succ]
    refine Ev.step (fun k => by rw [wigeonref05_IsPrefix.l0]) (Ev.ifp (by omega) ?_)
    exact rpre_in hC i (by omega) _ (ih (i + 1) (by omega)) C.length 0 (by omega)
theorem rpre_ev {C : List ByteArray} (hS : Sized C) : Ev (fun k => wigeonref05_IsPrefix.f k C) (preP C) := by
  unfold wigeonref05_IsPrefix.f preP
  refine Ev.bind (rval_ev C hS) ?_
  by_cases h : valP C = 0
  · rw [if_pos (show valP C = 0 from h)]
    have h0 : Ev (fun k => wigeonref05_IsPrefix.l0 k C 0) (preO C 0 C.length, 0) := rpre_at (valP_zero.1 h).few C.length 0 (by omega)
    exact Ev.ifp h h0
  · rw [if_neg (show ¬ valP C = 0 from h)]; exact Ev.ifn h (Ev.now _)
theorem preB_iff {C : List ByteArray} : preB C = true ↔ ∀ i j, i < C.length → j < C.length → i ≠ j → headB (gt C i) (gt C j) = false := by
  unfold preB preO preI
  rw [List.all_eq_true]
  constructor
  · intro h i j hi hj hij
    have h1 := h i (by rw [List.mem_range'_1]; omega)
    rw [List.all_eq_true] at h1
    have h2 := h1 j (by rw [List.mem_range'_1]; omega)
    rw [show (i == j) = false from beq_eq_false_iff_ne.2 hij, Bool.false_or, Bool.not_eq_true'] at h2
    exact h2
  · intro h i hi
    rw [List.all_eq_true]
    intro j hj
    rw [List.mem_range'_1] at hi hj
    by_cases e : i = j
    · rw [show (i == j) = true from beq_iff_eq.2 e, Bool.true_or]
    · rw [h i j (by omega) (by omega) e]; simp
end Go.Proofs.Ytpkafcoflgbnaaa.Pure
