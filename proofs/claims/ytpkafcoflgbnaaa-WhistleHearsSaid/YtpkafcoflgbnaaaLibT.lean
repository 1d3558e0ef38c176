import Derived.Test.YtpkafcoflgbnaaaQx31
import Derived.Test.YtpkafcoflgbnaaaQx32
import Derived.Test.YtpkafcoflgbnaaaLibQ
import Derived.Test.YtpkafcoflgbnaaaLibD
import Derived.Test.YtpkafcoflgbnaaaWh6
namespace Go.Proofs.Ytpkafcoflgbnaaa.Pure
open Go.RowKit Go.Proofs.Ytpkafcoflgbnaaa.Q Go.Proofs.YtpkafcoflgbnaaaW.PrintWords Go.Proofs.YtpkafcoflgbnaaaW.PrintLast
set_option linter.unusedVariables false

/-! Decode, by both: the first signal that leaves a rest with a way. -/

theorem ok_iff {C : List ByteArray} {t : ByteArray} {p : Nat} (hp : p ≤ t.size) (s : ByteArray) : okAt (fullW C t 0) t p s = true ↔ headB (t.extract p t.size) s = true ∧ wayT C t (p + s.size) ≠ 0 := by
  unfold okAt
  rw [Bool.and_eq_true]
  refine and_congr_right fun h => ?_
  have hf := hd_fits hp h
  rw [fullW_rd _ _ _ _ hf, if_neg (by omega), decide_eq_true_eq]
  omega
theorem sum_some {α : Type} {f : α → Nat} : ∀ {l : List α}, (l.map f).sum ≠ 0 → ∃ x, x ∈ l ∧ f x ≠ 0
  | [], h => absurd rfl h
  | x :: l, h => by
    by_cases e : f x = 0
    · rw [List.map_cons, List.sum_cons, e, Nat.zero_add] at h
      obtain ⟨y, hy, e2⟩ := sum_some h
      exact ⟨y, List.mem_cons_of_mem _ hy, e2⟩
    · exact ⟨x, List.mem_cons_self .., e⟩
theorem way_found {C : List ByteArray} (v : Valid C) {t : ByteArray} {p : Nat} (hp : p < t.size) (h : wayT C t p ≠ 0) : ∃ i, i < C.length ∧ okAt (fullW C t 0) t p (gt C i) = true := by
  have hw := partW_all v t hp
  unfold partW at hw
  rw [List.take_length] at hw
  rw [← hw] at h
  obtain ⟨s, hs, e⟩ := sum_some h
  obtain ⟨i, hi, rfl⟩ := mem_gt hs
  refine ⟨i, hi, (ok_iff (by omega) _).2 ?_⟩
  unfold term at e
  by_cases hh : (bs (gt C i)).isPrefixOf ((bs t).drop p) = true
  · rw [if_pos hh, List.drop_drop] at e
    exact ⟨by rw [hd_eq]; exact hh, e⟩
  · rw [if_neg hh] at e; exact absurd rfl e
theorem drop_word {t s : ByteArray} {p : Nat} (h : headB (t.extract p t.size) s = true) : bs s ++ (bs t).drop (p + s.size) = (bs t).drop p := by
  rw [hd_eq] at h
  obtain ⟨u, e⟩ := List.isPrefixOf_iff_prefix.1 h
  rw [← e, ← List.drop_drop, ← e, ← bs_len, List.drop_left]
theorem rdec_scan {C : List ByteArray} (hC : C.length ≤ 12) {t : ByteArray} (ht : t.size ≤ 60) (hs12 : ∀ i, (gt C i).size ≤ 140737488351232) {p : Nat} (hp : p ≤ t.size) (o : List Int) (r : List Int × Bool × Int) (m : Nat) (hm : m ≤ C.length) (hr : Ev (fun k => wigeonref05_Decode.l1 k C t (fullW C t 0) o (p : Int) (m : Int)) r) (d : Nat) : ∀ j, j + d = m → (∀ x, j ≤ x → x < m → okAt (fullW C t 0) t p (gt C x) = false) → Ev (fun k => wigeonref05_Decode.l1 k C t (fullW C t 0) o (p : Int) (j : Int)) r := by
  induction d with
  | zero => intro j hj _; obtain rfl : j = m := by omega
            exact hr
  | succ d ih =>
    intro j hj hn
    have hh := hn j (Nat.le_refl _) (by omega)
    have e1 : ((p : Int)).toNat = p := Int.toNat_natCast p
    have next := ih (j + 1) (by omega) fun x a b => hn x (by omega) b
    refine Ev.step (fun k => by rw [wigeonref05_Decode.l1, rdOf_gt, e1, begins_eq, w64s (show j < 1000000000000000000 by omega)]) (Ev.ifp (by omega) (Ev.ifp (by omega) (Ev.ifp (by omega) (Ev.ifp (by omega) (Ev.some_bind ?_)))))
    by_cases hb : headB (t.extract p t.size) (gt C j) = true
    · have hf := hd_fits hp hb
      have hq : wrap64 ((p : Int) + ((gt C j).size : Int)) = ((p + (gt C j).size : Nat) : Int) := by rw [w64 (by omega) (by omega)]; omega
      have hL := fullW_len C t 0
      have hz : wayT C t (p + (gt C j).size) = 0 := by
        by_cases e : wayT C t (p + (gt C j).size) = 0
        · exact e
        · rw [(ok_iff hp (gt C j)).2 ⟨hb, e⟩] at hh; cases hh
      rw [hq]
      refine Ev.ifp hb (Ev.ifp (by omega) (Ev.ifp (by omega) (Ev.ifp ?_ next)))
      rw [fullW_rd _ _ _ _ hf, if_neg (by omega), hz]; rfl
    · exact Ev.ifn hb next
theorem dec_run {C : List ByteArray} {t : ByteArray} (v : Valid C) (ht : t.size ≤ 60) (hs12 : ∀ i, (gt C i).size ≤ 140737488351232) : ∀ (n p : Nat) (o : List Int), t.size - p = n → p ≤ t.size → wayT C t p ≠ 0 → o.length + (t.size - p) ≤ 60 →
    ∃ m, Ev (fun k => decF C t (fullW C t 0) k p o) (o ++ m) ∧ Ev (fun k => wigeonref05_Decode.l0 k C t (fullW C t 0) o (p : Int)) (o ++ m, true, 0) ∧ m.all (inC C) = true ∧ (mws C m).flatten = (bs t).drop p ∧ m.length ≤ t.size - p := by
  have hC := v.few
  intro n
  induction n using Nat.strongRecOn with
  | _ n ih =>
    intro p o hn hp hw ho
    by_cases hlt : p < t.size
    · rcases firstI_cases C (okAt (fullW C t 0) t p) with ⟨e, hno⟩ | ⟨i, hi, e, hok, hno⟩
      · obtain ⟨i, hi, h⟩ := way_found v hlt hw
        have := hno i hi
        rw [show C.getD i ByteArray.empty = gt C i from rfl, h] at this; cases this
      · have hok : okAt (fullW C t 0) t p (gt C i) = true := hok
        obtain ⟨hb, hw2⟩ := (ok_iff hp _).1 hok
        have hf := hd_fits hp hb
        have h1 := v.size1 _ (gt_mem hi)
        obtain ⟨m, e1, e2, h3, h4, h5⟩ := ih (t.size - (p + (gt C i).size)) (by omega) (p + (gt C i).size) (o ++ [(i : Int)]) rfl hf hw2 (by rw [List.length_append]; simp; omega)
        have hass : o ++ ((i : Int) :: m) = o ++ [(i : Int)] ++ m := by simp
        have hL := fullW_len C t 0
        refine ⟨(i : Int) :: m, ?_, ?_, ?_, ?_, ?_⟩
        · rw [hass]
          refine Ev.step (fun k => by rw [decF]) (Ev.ifp hlt ?_)
          rw [e, Int.toNat_natCast]
          exact Ev.ifp (by omega) e1
        · rw [hass]
          refine Ev.step (fun k => by rw [wigeonref05_Decode.l0]) (Ev.ifp (by omega) ?_)
          refine rdec_scan hC ht hs12 hp o _ i (by omega) ?_ i 0 (by omega) fun x _ hx => hno x hx
          have e3 : ((p : Int)).toNat = p := Int.toNat_natCast p
          have hq : wrap64 ((p : Int) + ((gt C i).size : Int)) = ((p + (gt C i).size : Nat) : Int) := by rw [w64 (by omega) (by omega)]; omega
          refine Ev.step (fun k => by rw [wigeonref05_Decode.l1, rdOf_gt, e3, begins_eq, hq]) (Ev.ifp (by omega) (Ev.ifp (by omega) (Ev.ifp (by omega) (Ev.ifp (by omega) (Ev.some_bind ?_)))))
          clear hq e3
          refine Ev.ifp hb ?_
          refine Ev.ifp (Int.natCast_nonneg _) ?_
          refine Ev.ifp (Int.ofNat_lt.2 (show p + (gt C i).size < (fullW C t 0).length by rw [hL]; exact Nat.lt_succ_of_le hf)) ?_
          have hrd : ¬ rd (fullW C t 0) ((p + (gt C i).size : Nat) : Int) = 0 := by
            rw [fullW_rd _ _ _ _ hf, if_neg (Nat.not_lt_zero _)]
            exact fun e => hw2 (Int.ofNat_eq_zero.1 e)
          refine Ev.ifn hrd ?_
          exact Ev.ifp (Nat.lt_of_le_of_lt (show o.length ≤ 60 from Nat.le_trans (Nat.le_add_right _ _) ho) (by decide)) e2
        · rw [List.all_cons, h3, Bool.and_true]
          exact inC_iff.2 (by omega)
        · unfold mws at h4 ⊢
          rw [List.map_cons, List.flatten_cons, h4]
          have e4 : rdS C (i : Int) = gt C i := by unfold rdS; rw [Int.toNat_natCast]; rfl
          rw [e4]
          exact drop_word hb
        · rw [List.length_cons]; omega
    · obtain rfl : p = t.size := by omega
      refine ⟨[], ?_, ?_, rfl, ?_, Nat.zero_le _⟩
      · rw [List.append_nil]
        exact Ev.step (fun k => by rw [decF]) (Ev.ifn hlt (Ev.val (by rfl)))
      · rw [List.append_nil]
        exact Ev.step (fun k => by rw [wigeonref05_Decode.l0]) (Ev.ifn (by omega) (Ev.val (by rfl)))
      · rw [List.drop_eq_nil_of_le (by rw [bs_len]; exact Nat.le_refl _)]; rfl
/-- Decode of a text that can be told apart, by both. -/
theorem decode_both {C : List ByteArray} {t : ByteArray} (hS : Sized C) (o : TextOk C t) (hw : wayT C t 0 ≠ 0) : ∃ m, Ev (fun k => whistle_Decode.f k C t) (m, true, 0) ∧ Ev (fun k => wigeonref05_Decode.f k C t) (m, true, 0) ∧ m.all (inC C) = true ∧ soundB C m = t ∧ m.length ≤ t.size := by
  have hx := textP_zero.2 o
  have ht := o.few
  have hC := o.valid.few
  have hp := o.valid.pos
  obtain ⟨m, e1, e2, h3, h4, h5⟩ := dec_run o.valid ht hS.gt (t.size - 0) 0 [] rfl (Nat.zero_le _) hw (by simpa using ht)
  rw [List.nil_append] at e1 e2
  have hL := fullW_len C t 0
  have h0 : ¬ rd (fullW C t 0) 0 = 0 := by rw [full0]; omega
  refine ⟨m, ?_, ?_, h3, bs_inj (by rw [sound_words, h4, List.drop_zero]), by omega⟩
  · unfold whistle_Decode.f
    refine Ev.bind (heard_ev hS t (by omega)) ?_
    rw [hx]
    exact Ev.ifn (by decide) (Ev.bind (counts_ev o) (Ev.ifp (by omega) (Ev.ifn h0 (Ev.ifp (by omega) (Ev.bind e1 (Ev.val (by rfl)))))))
  · unfold wigeonref05_Decode.f
    refine Ev.bind (rtext_ev hS t (by omega)) ?_
    rw [hx]
    exact Ev.ifp rfl (Ev.bind (rcounts_ev o) (Ev.ifp (by omega) (Ev.ifn h0 e2)))
theorem decode_zero {C : List ByteArray} {t : ByteArray} (hS : Sized C) (o : TextOk C t) (hw : wayT C t 0 = 0) : Ev (fun k => whistle_Decode.f k C t) ([], false, 0) ∧ Ev (fun k => wigeonref05_Decode.f k C t) ([], false, 0) := by
  have hx := textP_zero.2 o
  have ht := o.few
  have hL := fullW_len C t 0
  have h0 : rd (fullW C t 0) 0 = 0 := by rw [full0, hw]; rfl
  constructor
  · unfold whistle_Decode.f
    refine Ev.bind (heard_ev hS t (by omega)) ?_
    rw [hx]
    exact Ev.ifn (by decide) (Ev.bind (counts_ev o) (Ev.ifp (by omega) (Ev.ifp h0 (Ev.val (by rfl)))))
  · unfold wigeonref05_Decode.f
    refine Ev.bind (rtext_ev hS t (by omega)) ?_
    rw [hx]
    exact Ev.ifp rfl (Ev.bind (rcounts_ev o) (Ev.ifp (by omega) (Ev.ifp h0 (Ev.val (by rfl)))))
theorem decode_none {C : List ByteArray} {t : ByteArray} (hS : Sized C) (ht : t.size ≤ 140737488351232) (h : textP C t ≠ 0) : Ev (fun k => whistle_Decode.f k C t) ([], false, textP C t) ∧ Ev (fun k => wigeonref05_Decode.f k C t) ([], false, textP C t) := by
  constructor
  · unfold whistle_Decode.f
    exact Ev.bind (heard_ev hS t ht) (Ev.ifp h (Ev.val (by rfl)))
  · unfold wigeonref05_Decode.f
    exact Ev.bind (rtext_ev hS t ht) (Ev.ifn h (Ev.val (by rfl)))
end Go.Proofs.Ytpkafcoflgbnaaa.Pure
