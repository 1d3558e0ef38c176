import Derived.Test.YtpkafcoflgbnaaaQx2
import Derived.Test.YtpkafcoflgbnaaaLibJ
namespace Go.Proofs.Ytpkafcoflgbnaaa.Pure
open Go.RowKit Go.Proofs.Ytpkafcoflgbnaaa.Q Go.Proofs.YtpkafcoflgbnaaaW.PrintWords Go.Proofs.YtpkafcoflgbnaaaW.PrintLast Go.Proofs.YtpkafcoflgbnaaaW.PrintMore
set_option linter.unusedVariables false

/-! The code for lengths: its signals, that none begins with another one, and the reference's way to it. -/

theorem gt_set (out : List ByteArray) (i j : Nat) (s : ByteArray) (h : i < out.length) : gt (out.set i s) j = if i = j then s else gt out j := by
  unfold gt
  rw [List.getD_eq_getElem?_getD, List.getD_eq_getElem?_getD, List.getElem?_set]
  by_cases e : i = j
  · rw [if_pos e, if_pos e, if_pos h]; rfl
  · rw [if_neg e, if_neg e]
theorem canon_len (l : List Int) : ∀ (r : List Nat) (b : Nat) (out : List ByteArray), (canon l r b out).length = out.length
  | [], _, _ => rfl
  | i :: r, b, out => by
    show (canon l r _ (out.set i _)).length = _
    rw [canon_len l r, List.length_set]
theorem canon_other (l : List Int) : ∀ (r : List Nat) (b : Nat) (out : List ByteArray) (j : Nat), (∀ i ∈ r, i < out.length) → j ∉ r → gt (canon l r b out) j = gt out j
  | [], _, _, _, _, _ => rfl
  | i :: r, b, out, j, hr, hj => by
    show gt (canon l r _ (out.set i _)) j = _
    rw [canon_other l r _ _ j (fun x hx => by rw [List.length_set]; exact hr x (List.mem_cons_of_mem _ hx)) (fun e => hj (List.mem_cons_of_mem _ e)), gt_set _ _ _ _ (hr i (List.mem_cons_self ..)), if_neg (fun e => hj (by rw [e]; exact List.mem_cons_self ..))]
/-- The signal at the k-th place of the order: the sum of what stands ahead of it. -/
theorem canon_at (l : List Int) : ∀ (r : List Nat) (b : Nat) (out : List ByteArray), r.Nodup → (∀ i ∈ r, i < out.length) → ∀ (k : Nat) (hk : k < r.length), gt (canon l r b out) r[k] = sigB ((b + shareL l (r.take k)) / 2 ^ (12 - Ln l r[k])) (Ln l r[k])
  | i :: r, b, out, hn, hr, 0, _ => by
    show gt (canon l r _ (out.set i _)) i = _
    rw [canon_other l r _ _ i (fun x hx => by rw [List.length_set]; exact hr x (List.mem_cons_of_mem _ hx)) (List.nodup_cons.1 hn).1, gt_set _ _ _ _ (hr i (List.mem_cons_self ..)), if_pos rfl]
    rfl
  | i :: r, b, out, hn, hr, k + 1, hk => by
    show gt (canon l r _ (out.set i _)) (r[k]'(by simpa using hk)) = sigB ((b + shareL l (i :: r.take k)) / 2 ^ (12 - Ln l (r[k]'(by simpa using hk)))) (Ln l (r[k]'(by simpa using hk)))
    rw [canon_at l r _ _ (List.nodup_cons.1 hn).2 (fun x hx => by rw [List.length_set]; exact hr x (List.mem_cons_of_mem _ hx)) k (by simpa using hk), shareL_cons, Nat.add_assoc]
/-- What the notes of a signal say as a number. -/
def valK (x : List UInt8) : Nat := x.foldl (fun v b => 2 * v + (if b = 45 then 1 else 0)) 0
theorem val_snoc (x : List UInt8) (b : UInt8) : valK (x ++ [b]) = 2 * valK x + (if b = 45 then 1 else 0) := by
  unfold valK; rw [List.foldl_append]; rfl
theorem val_bit (num b : Nat) : (if bitB num b = 45 then 1 else 0) = num / 2 ^ b % 2 := by
  unfold bitB
  by_cases h : num / 2 ^ b % 2 = 1
  · rw [if_pos h, if_pos rfl, h]
  · rw [if_neg h, if_neg (by decide)]; omega
theorem val_sig (num long : Nat) : ∀ k, k ≤ long → valK (sigK num long k) = num / 2 ^ (long - k) % 2 ^ k
  | 0, _ => by rw [Nat.pow_zero, Nat.mod_one]; rfl
  | k + 1, h => by
    show valK (sigK num long k ++ [_]) = _
    rw [val_snoc, val_sig num long k (by omega), val_bit]
    have e1 : num / 2 ^ (long - k) = num / 2 ^ (long - (k + 1)) / 2 := by
      rw [Nat.div_div_eq_div_mul, ← Nat.pow_succ, show (long - (k + 1)).succ = long - k by omega]
    rw [show long - 1 - k = long - (k + 1) by omega, e1]
    generalize num / 2 ^ (long - (k + 1)) = q
    rw [Nat.pow_succ, Nat.mul_comm (2 ^ k) 2, Nat.mod_mul]
    omega
theorem sig_take (num long : Nat) : ∀ (m k : Nat), k ≤ m → (sigK num long m).take k = sigK num long k
  | 0, k, h => by obtain rfl : k = 0 := by omega
                  rfl
  | m + 1, k, h => by
    by_cases e : k = m + 1
    · subst e
      exact List.take_of_length_le (by rw [sigK_len]; exact Nat.le_refl _)
    · show (sigK num long m ++ [_]).take k = _
      rw [List.take_append_of_le_length (by rw [sigK_len]; omega), sig_take num long m k (by omega)]
theorem bs_sig (num long : Nat) : bs (sigB num long) = sigK num long long := bs_mk _
theorem sig_size (num long : Nat) : (sigB num long).size = long := by rw [← bs_len, bs_sig, sigK_len]
theorem sig_notes (num long : Nat) : notesP (sigB num long) = true := by
  rw [notesP_list]
  have : ∀ k, (sigK num long k).all noteB = true := fun k => by
    induction k with
    | zero => rfl
    | succ k ih =>
      show (sigK num long k ++ [_]).all noteB = true
      rw [List.all_append, ih]
      unfold bitB
      split <;> rfl
  have e : (sigB num long).data.toList = sigK num long long := bs_sig num long
  rw [e]; exact this long
/-- If one signal begins another one, so does its number. -/
theorem sig_begins {n1 l1 n2 l2 : Nat} (h1 : n1 < 2 ^ l1) (h2 : n2 < 2 ^ l2) (h : headB (sigB n2 l2) (sigB n1 l1) = true) : l1 ≤ l2 ∧ n2 / 2 ^ (l2 - l1) = n1 := by
  obtain ⟨t, e⟩ := headB_iff.1 h
  rw [bs_sig, bs_sig] at e
  have hlen := congrArg List.length e
  rw [List.length_append, sigK_len, sigK_len] at hlen
  refine ⟨by omega, ?_⟩
  have et := congrArg (List.take l1) e
  rw [sig_take _ _ _ _ (by omega), List.take_append_of_le_length (by rw [sigK_len]; exact Nat.le_refl _), sig_take _ _ _ _ (Nat.le_refl _)] at et
  have ev := congrArg valK et
  rw [val_sig _ _ _ (by omega), val_sig _ _ _ (Nat.le_refl _), Nat.sub_self, Nat.pow_zero, Nat.div_one, Nat.mod_eq_of_lt h1, Nat.mod_eq_of_lt] at ev
  · exact ev
  · rw [Nat.div_lt_iff_lt_mul (Nat.pow_pos (by decide)), ← Nat.pow_add, show l1 + (l2 - l1) = l2 by omega]; exact h2
theorem shareL_take {l : List Int} {o : List Nat} {k m : Nat} (h : k < m) (hm : m ≤ o.length) : shareL l (o.take k) + 2 ^ (12 - Ln l (o[k]'(by omega))) ≤ shareL l (o.take m) := by
  have e : o.take m = o.take (k + 1) ++ (o.take m).drop (k + 1) := by
    conv => lhs; rw [← List.take_append_drop (k + 1) (o.take m)]
    rw [List.take_take, Nat.min_eq_left (by omega)]
  rw [e, shareL_append, List.take_add_one, List.getElem?_eq_getElem (show k < o.length by omega), shareL_append]
  have : shareL l (some (o[k]'(by omega))).toList = 2 ^ (12 - Ln l (o[k]'(by omega))) := by
    show shareL l [_] = _
    rw [shareL_cons]; rfl
  rw [this]; omega
theorem sig_num {S L : Nat} (hL : L ≤ 12) (h : S + 2 ^ (12 - L) ≤ 4096) : S / 2 ^ (12 - L) < 2 ^ L := by
  have hp : 0 < 2 ^ (12 - L) := Nat.pow_pos (by decide)
  rw [Nat.div_lt_iff_lt_mul hp, ← Nat.pow_add, show L + (12 - L) = 12 by omega]
  have : (2 : Nat) ^ 12 = 4096 := rfl
  omega
/-- The order's k-th signal and a later one: neither begins the other one. -/
theorem sig_apart {l : List Int} {o : List Nat} (hL : ∀ i ∈ o, Ln l i ≤ 12) (hup : o.Pairwise fun i j => Ln l i ≤ Ln l j) (hf : shareL l o ≤ 4096) {k m : Nat} (hkm : k < m) (hm : m < o.length) :
    headB (sigB (shareL l (o.take m) / 2 ^ (12 - Ln l o[m])) (Ln l o[m])) (sigB (shareL l (o.take k) / 2 ^ (12 - Ln l (o[k]'(by omega)))) (Ln l (o[k]'(by omega)))) = false ∧
    headB (sigB (shareL l (o.take k) / 2 ^ (12 - Ln l (o[k]'(by omega)))) (Ln l (o[k]'(by omega)))) (sigB (shareL l (o.take m) / 2 ^ (12 - Ln l o[m])) (Ln l o[m])) = false := by
  have h1 := shareL_take (l := l) hkm (show m ≤ o.length by omega)
  have h2 := shareL_take (l := l) (show m < m + 1 by omega) (show m + 1 ≤ o.length by omega)
  have h3 : shareL l (o.take (m + 1)) ≤ shareL l o := by
    conv => rhs; rw [← List.take_append_drop (m + 1) o]
    rw [shareL_append]; omega
  have hLk := hL _ (List.getElem_mem (show k < o.length by omega))
  have hLm := hL _ (List.getElem_mem hm)
  have hle := List.pairwise_iff_getElem.1 hup k m (by omega) hm hkm
  generalize shareL l (o.take (m + 1)) = S3 at *
  generalize shareL l (o.take m) = S2 at *
  generalize shareL l (o.take k) = S1 at *
  generalize Ln l (o[k]'(by omega)) = L1 at *
  generalize Ln l o[m] = L2 at *
  have hp1 : 0 < 2 ^ (12 - L1) := Nat.pow_pos (by decide)
  have n1 := sig_num (S := S1) hLk (by have : 0 < 2 ^ (12 - L2) := Nat.pow_pos (by decide); omega)
  have n2 := sig_num (S := S2) hLm (by omega)
  have key : ∀ (h : L1 ≤ L2), S2 / 2 ^ (12 - L2) / 2 ^ (L2 - L1) ≠ S1 / 2 ^ (12 - L1) := fun h e => by
    rw [Nat.div_div_eq_div_mul, ← Nat.pow_add, show 12 - L2 + (L2 - L1) = 12 - L1 by omega] at e
    have h5 : (S1 + 2 ^ (12 - L1)) / 2 ^ (12 - L1) ≤ S2 / 2 ^ (12 - L1) := Nat.div_le_div_right h1
    rw [Nat.add_div_right _ hp1, e] at h5
    omega
  constructor
  · rw [Bool.eq_false_iff]
    intro e
    exact key hle (sig_begins n1 n2 e).2
  · rw [Bool.eq_false_iff]
    intro e
    obtain ⟨h6, h7⟩ := sig_begins n2 n1 e
    obtain rfl : L1 = L2 := by omega
    rw [Nat.sub_self, Nat.pow_zero, Nat.div_one] at h7
    refine key hle ?_
    rw [Nat.sub_self, Nat.pow_zero, Nat.div_one]; exact h7.symm
theorem canonP_len (l : List Int) : (canonP l).length = l.length := by unfold canonP; rw [canon_len, List.length_replicate]
theorem canonP_at {l : List Int} (hl : LenOk l) {i : Nat} (hi : i < l.length) : ∃ (k : Nat) (hk : k < (refO l 1 12).length), (refO l 1 12)[k] = i ∧ gt (canonP l) i = sigB (shareL l ((refO l 1 12).take k) / 2 ^ (12 - Ln l (refO l 1 12)[k])) (Ln l (refO l 1 12)[k]) := by
  obtain ⟨k, hk, e⟩ := List.mem_iff_getElem.1 ((mem_refO hl).2 hi)
  refine ⟨k, hk, e, ?_⟩
  have := canon_at l (refO l 1 12) 0 (List.replicate l.length ByteArray.empty) (refO_nodup l 1 12) (fun j hj => by rw [List.length_replicate]; exact (mem_refO hl).1 hj) k hk
  rw [Nat.zero_add] at this
  conv => lhs; rw [← e]
  exact this
theorem canonP_size {l : List Int} (hl : LenOk l) {i : Nat} (hi : i < l.length) : (gt (canonP l) i).size = Ln l i := by
  obtain ⟨k, hk, e, h⟩ := canonP_at hl hi
  rw [h, sig_size, e]
theorem canonP_pre {l : List Int} (hl : LenOk l) (hf : fillN l ≤ 4096) : preB (canonP l) = true := by
  refine preB_iff.2 fun i j hi hj hij => ?_
  rw [canonP_len] at hi hj
  obtain ⟨k, hk, e, h⟩ := canonP_at hl hi
  obtain ⟨m, hm, e2, h2⟩ := canonP_at hl hj
  rw [h, h2]
  have hL : ∀ x ∈ refO l 1 12, Ln l x ≤ 12 := fun x hx => (Ln_ok hl ((mem_refO hl).1 hx)).2.1
  have hs : shareL l (refO l 1 12) ≤ 4096 := by rw [shareL_fill hl]; exact hf
  have hne : k ≠ m := fun q => hij (by subst q; rw [← e, ← e2])
  by_cases q : k < m
  · exact (sig_apart hL (refO_up l) hs q hm).2
  · exact (sig_apart hL (refO_up l) hs (show m < k by omega) hk).1
theorem canonP_valid {l : List Int} (hl : LenOk l) (h0 : 0 < l.length) (hf : fillN l ≤ 4096) : Valid (canonP l) := by
  have hm : ∀ s ∈ canonP l, ∃ i, i < l.length ∧ s = gt (canonP l) i := fun s hs => by
    obtain ⟨i, hi, rfl⟩ := mem_gt hs
    rw [canonP_len] at hi
    exact ⟨i, hi, rfl⟩
  refine ⟨by rw [canonP_len]; exact h0, by rw [canonP_len]; exact hl.1, fun s hs => ?_, fun s hs => ?_, fun s hs => ?_, nodup_take.2 fun j hj hin => ?_⟩
  · obtain ⟨i, hi, rfl⟩ := hm s hs
    rw [canonP_size hl hi]; exact (Ln_ok hl hi).1
  · obtain ⟨i, hi, rfl⟩ := hm s hs
    rw [canonP_size hl hi]; exact (Ln_ok hl hi).2.1
  · obtain ⟨i, hi, rfl⟩ := hm s hs
    obtain ⟨k, hk, e, h⟩ := canonP_at hl hi
    rw [h]; exact sig_notes _ _
  · obtain ⟨i, hi, e⟩ := mem_getD (d := ByteArray.empty) hin
    rw [List.length_take] at hi
    have e2 : gt (canonP l) i = gt (canonP l) j := by
      rw [← e]
      unfold gt
      rw [List.getD_eq_getElem?_getD, List.getD_eq_getElem?_getD, List.getElem?_take_of_lt (by omega)]
    have := preB_iff.1 (canonP_pre hl hf) i j (by omega) hj (by omega)
    rw [e2, headB_iff.2 ⟨[], by rw [List.append_nil]⟩] at this
    cases this
theorem canonP_lens {l : List Int} (hl : LenOk l) : lensC (canonP l) = l := by
  unfold lensC
  refine List.ext_getElem (by rw [List.length_map, canonP_len]) fun i h1 h2 => ?_
  rw [List.getElem_map]
  have e : (canonP l)[i]'(by rw [canonP_len]; exact h2) = gt (canonP l) i := by
    unfold gt; rw [List.getD_eq_getElem?_getD, List.getElem?_eq_getElem (by rw [canonP_len]; exact h2)]; rfl
  rw [e, canonP_size hl h2, (Ln_ok hl h2).2.2, rd_nat, List.getD_eq_getElem?_getD, List.getElem?_eq_getElem h2]; rfl
end Go.Proofs.Ytpkafcoflgbnaaa.Pure
