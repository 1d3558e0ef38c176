import Derived.Test.YtpkafcoflgbnaaaQx10
import Derived.Test.YtpkafcoflgbnaaaQx20
import Derived.Test.YtpkafcoflgbnaaaLibL
namespace Go.Proofs.Ytpkafcoflgbnaaa.Pure
open Go.RowKit Go.Proofs.Ytpkafcoflgbnaaa.Q Go.Proofs.YtpkafcoflgbnaaaW.PrintWords Go.Proofs.YtpkafcoflgbnaaaW.PrintLast Go.Proofs.YtpkafcoflgbnaaaW.PrintMore
set_option linter.unusedVariables false

/-! The code for lengths, by both. -/

theorem outW_one {n : Int} : outW 1 12 n = false ↔ 1 ≤ n ∧ n ≤ 12 := by
  unfold outW; simp
def lenB (l : List Int) : Bool := oneTo 1 12 l
theorem lenB_iff {l : List Int} : lenB l = true ↔ 0 < l.length ∧ LenOk l := by
  unfold lenB oneTo LenOk
  rw [Bool.not_eq_true', Bool.or_eq_false_iff, Bool.or_eq_false_iff, decide_eq_false_iff_not, decide_eq_false_iff_not, List.any_eq_false]
  constructor
  · rintro ⟨⟨h1, h2⟩, h3⟩
    exact ⟨by omega, by omega, fun x hx => outW_one.1 (by simpa using h3 x hx)⟩
  · rintro ⟨h1, h2, h3⟩
    exact ⟨⟨by omega, by omega⟩, fun x hx => by simpa using outW_one.2 (h3 x hx)⟩
theorem rlen_at (l : List Int) (hl : l.length ≤ 12) (d : Nat) : ∀ i, i + d = l.length → Ev (fun k => wigeonref05_lengthsOK.l0 k l (i : Int)) (errB (!(l.drop i).any (outW 1 12))) := by
  induction d with
  | zero =>
    intro i hi
    rw [List.drop_eq_nil_of_le (by omega)]
    exact Ev.step (fun k => by rw [wigeonref05_lengthsOK.l0]) (Ev.ifn (by omega) (Ev.val (by rfl)))
  | succ d ih =>
    intro i hi
    rw [drop_rd (show i < l.length by omega), List.any_cons]
    refine Ev.step (fun k => by rw [wigeonref05_lengthsOK.l0, w64s (show i < 1000000000000000000 by omega)]) (Ev.ifp (by omega) (Ev.ifp (by omega) ?_))
    by_cases h1 : rd l (i : Int) < 1
    · have e : outW 1 12 (rd l (i : Int)) = true := by rw [← Bool.not_eq_false, outW_one]; omega
      rw [e]
      exact Ev.ifp h1 (Ev.val (by rfl))
    · refine Ev.ifn h1 ?_
      by_cases h2 : rd l (i : Int) > 12
      · have e : outW 1 12 (rd l (i : Int)) = true := by rw [← Bool.not_eq_false, outW_one]; omega
        rw [e]
        exact Ev.ifp h2 (Ev.val (by rfl))
      · have e : outW 1 12 (rd l (i : Int)) = false := outW_one.2 (by omega)
        rw [e, Bool.false_or]
        exact Ev.ifn h2 (ih (i + 1) (by omega))
theorem rlen_ev (l : List Int) : Ev (fun k => wigeonref05_lengthsOK.f k l) (errB (lenB l)) := by
  unfold wigeonref05_lengthsOK.f lenB oneTo
  by_cases h1 : l.length < 1
  · rw [decide_eq_true h1]
    exact Ev.ifp (by omega) (Ev.step (fun k => by rw [wigeonref05_lengthsOK.j0]) (Ev.ifp rfl (Ev.val (by rfl))))
  · rw [decide_eq_false h1]
    refine Ev.ifn (by omega) (Ev.step (fun k => by rw [wigeonref05_lengthsOK.j0]) ?_)
    by_cases h2 : 12 < l.length
    · rw [decide_eq_true h2]
      exact Ev.ifp (decide_eq_true (by omega)) (Ev.val (by rfl))
    · rw [decide_eq_false h2]
      have := rlen_at l (by omega) l.length 0 (by omega)
      rw [List.drop_zero] at this
      rw [Bool.false_or, Bool.false_or]
      exact Ev.ifn (by rw [decide_eq_true_eq]; omega) this
def fillP (l : List Int) : Int × Int × Int := if lenB l = true then ((redI (fillN l) 12).1, (redI (fillN l) 12).2, 0) else (0, 0, 1)
theorem fill_ev (l : List Int) : Ev (fun k => whistle_Fill.f k l) (fillP l) := by
  unfold whistle_Fill.f fillP whistle_isLengths.f
  rw [show oneTo 1 12 l = lenB l from rfl]
  by_cases h : lenB l = true
  · rw [h, if_pos rfl]
    exact Ev.some_bind (Ev.ifp rfl (Ev.bind (filled_ev (lenB_iff.1 h).2) (Ev.val (by rfl))))
  · rw [Bool.eq_false_iff.2 h]
    exact Ev.some_bind (Ev.ifn (by decide) (Ev.val (by rfl)))
theorem rfill_ev (l : List Int) : Ev (fun k => wigeonref05_Fill.f k l) (fillP l) := by
  unfold wigeonref05_Fill.f fillP
  refine Ev.bind (rlen_ev l) ?_
  by_cases h : lenB l = true
  · rw [h, if_pos rfl]
    exact Ev.ifp rfl (Ev.bind (halves_ev (lenB_iff.1 h).2) (Ev.val (by rfl)))
  · rw [Bool.eq_false_iff.2 h]
    exact Ev.ifn (by decide) (Ev.val (by rfl))
theorem red_gt {n : Nat} : (redI n 12).1 > (redI n 12).2 ↔ ¬ n ≤ 4096 := by
  have := red_le n 12
  rw [show (2 : Nat) ^ 12 = 4096 from rfl] at this
  unfold redI
  omega
def fromP (l : List Int) : List ByteArray × Int := if lenB l = true then (if fillN l ≤ 4096 then (canonP l, 0) else ([], 8)) else ([], 1)
theorem from_ev (l : List Int) : Ev (fun k => whistle_FromLengths.f k l) (fromP l) := by
  unfold whistle_FromLengths.f fromP
  rw [show oneTo 1 12 l = lenB l from rfl]
  by_cases h : lenB l = true
  · rw [h, if_pos rfl]
    obtain ⟨h0, hl⟩ := lenB_iff.1 h
    refine Ev.ifp rfl (Ev.bind (filled_ev hl) ?_)
    by_cases hf : fillN l ≤ 4096
    · rw [if_pos hf, fromL_canon hl h0 hf]
      exact Ev.ifn (by rw [red_gt]; omega) (Ev.val (by rfl))
    · rw [if_neg hf]
      exact Ev.ifp (red_gt.2 hf) (Ev.val (by rfl))
  · rw [if_neg h]
    exact Ev.ifn h (Ev.val (by rfl))
/-- The last t notes of a signal. -/
def lastK (num n t : Nat) : ByteArray := ⟨((sigK num n n).drop (n - t)).toArray⟩
theorem sig_get? (num long : Nat) : ∀ (k j : Nat), j < k → (sigK num long k)[j]? = some (bitB num (long - 1 - j))
  | k + 1, j, h => by
    show (sigK num long k ++ [bitB num (long - 1 - k)])[j]? = _
    by_cases e : j < k
    · rw [List.getElem?_append_left (by rw [sigK_len]; exact e)]; exact sig_get? num long k j e
    · obtain rfl : j = k := by omega
      rw [List.getElem?_append_right (by rw [sigK_len]; exact Nat.le_refl _), sigK_len, Nat.sub_self]; rfl
theorem sig_get (num long k j : Nat) (h : j < (sigK num long k).length) : (sigK num long k)[j] = bitB num (long - 1 - j) := by
  have := sig_get? num long k j (by rw [sigK_len] at h; exact h)
  rw [List.getElem?_eq_getElem h] at this
  exact Option.some.inj this
theorem last_succ (num n t : Nat) (h : t < n) : (⟨#[bitB num t]⟩ : ByteArray) ++ lastK num n t = lastK num n (t + 1) := by
  refine bs_inj ?_
  rw [bs_app, show bs (lastK num n t) = (sigK num n n).drop (n - t) from bs_mk _, show bs (lastK num n (t + 1)) = (sigK num n n).drop (n - (t + 1)) from bs_mk _]
  have hl : n - (t + 1) < (sigK num n n).length := by rw [sigK_len]; omega
  rw [List.drop_eq_getElem_cons hl, sig_get, show n - 1 - (n - (t + 1)) = t by omega, show n - (t + 1) + 1 = n - t by omega]
  rfl
theorem lastK_size (num n t : Nat) : (lastK num n t).size ≤ n := by
  rw [← bs_len, show bs (lastK num n t) = (sigK num n n).drop (n - t) from bs_mk _, List.length_drop, sigK_len]; omega
theorem binary_at (num n : Nat) (hn : n ≤ 12) (hm : num < 1000000) (d : Nat) : ∀ t, t + d = n → Ev (fun k => wigeonref05_binary.l0 k ((num / 2 ^ t : Nat) : Int) (n : Int) (lastK num n t) (t : Int)) (sigB num n) := by
  induction d with
  | zero =>
    intro t ht
    obtain rfl : t = n := by omega
    refine Ev.step (fun k => by rw [wigeonref05_binary.l0]) (Ev.ifn (by omega) (Ev.val ?_))
    unfold lastK sigB
    rw [Nat.sub_self, List.drop_zero]
  | succ d ih =>
    intro t ht
    have hq : num / 2 ^ t ≤ num := Nat.div_le_self _ _
    have hs := lastK_size num n t
    have hstep : Int.tdiv ((num / 2 ^ t : Nat) : Int) 2 = ((num / 2 ^ (t + 1) : Nat) : Int) := by rw [half_nat, Nat.div_div_eq_div_mul, ← Nat.pow_succ]
    have hb : num / 2 ^ (t + 1) ≤ num := Nat.div_le_self _ _
    have hw2 : wrap64 ((num / 2 ^ (t + 1) : Nat) : Int) = ((num / 2 ^ (t + 1) : Nat) : Int) := by
      generalize num / 2 ^ (t + 1) = y at hb
      exact w64 (by omega) (by omega)
    refine Ev.step (fun k => by rw [wigeonref05_binary.l0, tmod_nat, hstep, hw2, w64s (show t < 1000000000000000000 by omega)]) (Ev.ifp (by omega) ?_)
    by_cases h : num / 2 ^ t % 2 = 1
    · have e := last_succ num n t (by omega)
      unfold bitB at e
      rw [if_pos h] at e
      rw [e]
      exact Ev.ifp (by omega) (Ev.ifp (by omega) (ih (t + 1) (by omega)))
    · have e := last_succ num n t (by omega)
      unfold bitB at e
      rw [if_neg h] at e
      rw [e]
      exact Ev.ifn (by omega) (Ev.ifp (by omega) (ih (t + 1) (by omega)))
theorem binary_ev (num n : Nat) (hn : n ≤ 12) (hm : num < 1000000) : Ev (fun k => wigeonref05_binary.f k (num : Int) (n : Int)) (sigB num n) := by
  have := binary_at num n hn hm n 0 (by omega)
  rw [Nat.pow_zero, Nat.div_one] at this
  have e : lastK num n 0 = ⟨#[]⟩ := by
    unfold lastK; rw [Nat.sub_zero, List.drop_eq_nil_of_le (by rw [sigK_len]; exact Nat.le_refl _)]
  rw [e] at this
  exact this
theorem shr_nat (b a : Nat) (ha : a ≤ 12) (hb : b < 1000000) : shr .i64 (b : Int) (a : Int) = ((b / 2 ^ a : Nat) : Int) := by
  unfold shr
  rw [show min (a : Int).toNat IntKind.i64.bits = a by rw [Int.toNat_natCast]; exact Nat.min_eq_left (by show a ≤ 64; omega), Int.natCast_ediv, Int.natCast_pow]
  rfl
theorem rowO_cons {l : List Int} {n i d : Nat} : rowO l n i (d + 1) = if rd l (i : Int) = (n : Int) then i :: rowO l n (i + 1) d else rowO l n (i + 1) d := by
  unfold rowO
  rw [List.range'_succ, List.filter_cons]
  by_cases h : rd l (i : Int) = (n : Int)
  · rw [if_pos h, if_pos (by simpa using h)]
  · rw [if_neg h, if_neg (by simpa using h)]
theorem rfrom_in (l : List Int) (hl : LenOk l) (n : Nat) (hn : n ≤ 12) (r : List ByteArray × Int) (d : Nat) : ∀ (i b : Nat) (out : List ByteArray), i + d = l.length → out.length = l.length → b + shareL l (rowO l n i d) ≤ 4096 →
    Ev (fun k => wigeonref05_FromLengths.l0 k l (canon l (rowO l n i d) b out) ((b + shareL l (rowO l n i d) : Nat) : Int) ((n + 1 : Nat) : Int)) r → Ev (fun k => wigeonref05_FromLengths.l1 k l out (b : Int) (n : Int) (i : Int)) r := by
  have hlen := hl.1
  induction d with
  | zero =>
    intro i b out hi ho hs hr
    refine Ev.step (fun k => by rw [wigeonref05_FromLengths.l1]) (Ev.ifn (by omega) ?_)
    rw [w64s (show n < 1000000000000000000 by omega)]
    exact hr
  | succ d ih =>
    intro i b out hi ho hs hr
    have hw := w64s (show i < 1000000000000000000 by omega)
    by_cases h : rd l (i : Int) = (n : Int)
    · rw [rowO_cons, if_pos h] at hs hr
      rw [shareL_cons] at hs hr
      have hL : Ln l i = n := by unfold Ln; rw [h, Int.toNat_natCast]
      have hsub : wrap64 (12 - (n : Int)) = ((12 - n : Nat) : Int) := by rw [w64 (by omega) (by omega)]; omega
      have hp := pow_le12 (show 12 - n ≤ 12 by omega)
      have hq : b / 2 ^ (12 - n) ≤ b := Nat.div_le_self _ _
      rw [hL] at hs hr
      have hbb : b < 1000000 := Nat.lt_of_le_of_lt (Nat.le_trans (Nat.le_add_right b _) hs) (by decide)
      refine Ev.step (fun k => by rw [wigeonref05_FromLengths.l1, hsub, shr_nat b (12 - n) (by omega) (by omega), shl_one (show 12 - n ≤ 12 by omega)]) (Ev.ifp (by omega) (Ev.ifp (by omega) (Ev.ifp h (Ev.ifp (by omega) (Ev.bind (binary_ev _ n hn (by omega)) ?_)))))
      refine Ev.ifp (show (i : Int) < (out.length : Int) by omega) ?_
      rw [hw, Int.toNat_natCast]
      have hc : canon l (i :: rowO l n (i + 1) d) b out = canon l (rowO l n (i + 1) d) (b + 2 ^ (12 - n)) (out.set i (sigB (b / 2 ^ (12 - n)) n)) := by
        show canon l _ (b + 2 ^ (12 - Ln l i)) (out.set i (sigB (b / 2 ^ (12 - Ln l i)) (Ln l i))) = _
        rw [hL]
      rw [hc, ← Nat.add_assoc] at hr
      generalize 2 ^ (12 - n) = p at *
      rw [show ((b : Int) + (p : Int)) = ((b + p : Nat) : Int) by omega, w64 (by omega) (by omega)]
      exact ih (i + 1) _ _ (by omega) (by rw [List.length_set]; exact ho) (by omega) hr
    · rw [rowO_cons, if_neg h] at hs hr
      refine Ev.step (fun k => by rw [wigeonref05_FromLengths.l1, hw]) (Ev.ifp (by omega) (Ev.ifp (by omega) (Ev.ifn h ?_)))
      exact ih (i + 1) b out (by omega) ho hs hr
theorem refO_cons (l : List Int) (n d : Nat) : refO l n (d + 1) = rowO l n 0 l.length ++ refO l (n + 1) d := by
  unfold refO
  rw [List.range'_succ, List.flatMap_cons]
theorem rfrom_out (l : List Int) (hl : LenOk l) (d : Nat) : ∀ (n b : Nat) (out : List ByteArray), n + d = 13 → out.length = l.length → b + shareL l (refO l n d) ≤ 4096 →
    Ev (fun k => wigeonref05_FromLengths.l0 k l out (b : Int) (n : Int)) (canon l (refO l n d) b out, 0) := by
  induction d with
  | zero =>
    intro n b out hn ho hs
    exact Ev.step (fun k => by rw [wigeonref05_FromLengths.l0]) (Ev.ifn (by omega) (Ev.val (by rfl)))
  | succ d ih =>
    intro n b out hn ho hs
    rw [refO_cons, shareL_append] at hs
    rw [refO_cons, canon_append]
    refine Ev.step (fun k => by rw [wigeonref05_FromLengths.l0]) (Ev.ifp (by omega) ?_)
    refine rfrom_in l hl n (by omega) _ l.length 0 b out (by omega) ho (by omega) ?_
    exact ih (n + 1) _ _ (by omega) (by rw [canon_len]; exact ho) (by omega)
theorem rfrom_ev (l : List Int) : Ev (fun k => wigeonref05_FromLengths.f k l) (fromP l) := by
  unfold wigeonref05_FromLengths.f fromP
  refine Ev.bind (rfill_ev l) ?_
  unfold fillP
  by_cases h : lenB l = true
  · rw [if_pos h, if_pos h]
    obtain ⟨h0, hl⟩ := lenB_iff.1 h
    have hlen := hl.1
    refine Ev.ifp rfl ?_
    by_cases hf : fillN l ≤ 4096
    · rw [if_pos hf]
      refine Ev.ifn (by rw [red_gt]; omega) (Ev.ifp (by omega) (Ev.ifp (by rw [Int.toNat_natCast]; omega) ?_))
      have := rfrom_out l hl 12 1 0 (List.replicate l.length ByteArray.empty) (by omega) (by rw [List.length_replicate]) (by rw [shareL_fill hl]; omega)
      rw [Int.toNat_natCast]
      exact this
    · rw [if_neg hf]
      exact Ev.ifp (red_gt.2 hf) (Ev.val (by rfl))
  · rw [if_neg h, if_neg h]
    exact Ev.ifn (by decide) (Ev.val (by rfl))
end Go.Proofs.Ytpkafcoflgbnaaa.Pure
