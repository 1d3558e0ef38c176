import Derived.Test.YtpkafcoflgbnaaaQx2
import Derived.Test.YtpkafcoflgbnaaaQx26
import Derived.Test.YtpkafcoflgbnaaaQx27
import Derived.Test.YtpkafcoflgbnaaaQx31
import Derived.Test.YtpkafcoflgbnaaaLibO
namespace Go.Proofs.Ytpkafcoflgbnaaa.Pure
open Go.RowKit Go.Proofs.Ytpkafcoflgbnaaa.Q Go.Proofs.YtpkafcoflgbnaaaW.PrintWords Go.Proofs.YtpkafcoflgbnaaaW.PrintLast
set_option linter.unusedVariables false

/-! Which texts may be heard, and their counts, by both. -/

def textP (C : List ByteArray) (t : ByteArray) : Int := if valP C = 0 then (if 60 < t.size then 3 else if notesP t = true then 0 else 1) else valP C
theorem textP_bad {C : List ByteArray} {t : ByteArray} (hv : valP C ≠ 0) : textP C t = valP C := if_neg hv
theorem textP_long {C : List ByteArray} {t : ByteArray} (hv : valP C = 0) (h : 60 < t.size) : textP C t = 3 := by unfold textP; rw [if_pos hv, if_pos h]
theorem textP_ok {C : List ByteArray} {t : ByteArray} (hv : valP C = 0) (h : ¬ 60 < t.size) (hn : notesP t = true) : textP C t = 0 := by unfold textP; rw [if_pos hv, if_neg h, if_pos hn]
theorem textP_no {C : List ByteArray} {t : ByteArray} (hv : valP C = 0) (h : ¬ 60 < t.size) (hn : ¬ notesP t = true) : textP C t = 1 := by unfold textP; rw [if_pos hv, if_neg h, if_neg hn]
theorem heard_ev {C : List ByteArray} (hS : Sized C) (t : ByteArray) (ht : t.size ≤ 140737488351232) : Ev (fun k => whistle_heard.f k C t) (textP C t) := by
  unfold whistle_heard.f
  refine Ev.bind (val_ev C hS) ?_
  by_cases hv : valP C = 0
  · refine Ev.ifp hv ?_
    by_cases h : 60 < t.size
    · rw [textP_long hv h]
      exact Ev.ifp (show (t.size : Int) > 60 by omega) (Ev.val (by rfl))
    · rw [notes_eq ht]
      refine Ev.ifn (show ¬ (t.size : Int) > 60 by omega) (Ev.some_bind ?_)
      by_cases hn : notesP t = true
      · rw [textP_ok hv h hn]; exact Ev.ifp hn (Ev.val (by rfl))
      · rw [textP_no hv h hn]; exact Ev.ifn hn (Ev.val (by rfl))
  · rw [textP_bad hv]
    exact Ev.ifn hv (Ev.val (by rfl))
theorem rtext_ev {C : List ByteArray} (hS : Sized C) (t : ByteArray) (ht : t.size ≤ 140737488351232) : Ev (fun k => wigeonref05_textOK.f k C t) (textP C t) := by
  unfold wigeonref05_textOK.f
  refine Ev.bind (rval_ev C hS) ?_
  by_cases hv : valP C = 0
  · refine Ev.ifp hv ?_
    by_cases h : 60 < t.size
    · rw [textP_long hv h]
      exact Ev.ifp (show (t.size : Int) > 60 by omega) (Ev.val (by rfl))
    · refine Ev.ifn (show ¬ (t.size : Int) > 60 by omega) (Ev.bind (isNotes_ev t (by unfold bigC; omega)) ?_)
      by_cases hn : notesP t = true
      · rw [textP_ok hv h hn]; exact Ev.ifp hn (Ev.val (by rfl))
      · rw [textP_no hv h hn]; exact Ev.ifn hn (Ev.val (by rfl))
  · rw [textP_bad hv]
    exact Ev.ifn hv (Ev.val (by rfl))
structure TextOk (C : List ByteArray) (t : ByteArray) : Prop where
  valid : Valid C
  few : t.size ≤ 60
  notes : notesP t = true
theorem textP_zero {C : List ByteArray} {t : ByteArray} : textP C t = 0 ↔ TextOk C t := by
  unfold textP
  by_cases hv : valP C = 0
  · rw [if_pos hv]
    by_cases h : 60 < t.size
    · rw [if_pos h]
      exact ⟨fun e => absurd e (by decide), fun x => absurd x.few (by omega)⟩
    · rw [if_neg h]
      by_cases hn : notesP t = true
      · rw [if_pos hn]; exact ⟨fun _ => ⟨valP_zero.1 hv, by omega, hn⟩, fun _ => rfl⟩
      · rw [if_neg hn]; exact ⟨fun e => absurd e (by decide), fun x => absurd x.notes hn⟩
  · rw [if_neg hv]
    exact ⟨fun e => absurd e hv, fun x => absurd (valP_zero.2 x.valid) hv⟩
theorem cell_step {C : List ByteArray} {t : ByteArray} (o : TextOk C t) {i j : Nat} (hi : i < t.size) (hj : j < C.length) (h : headB (t.extract i t.size) (gt C j) = true) :
    ((fullW C t (i + 1)).set i ((partW C t i j : Nat) : Int)).set i (wrap64 (rd ((fullW C t (i + 1)).set i ((partW C t i j : Nat) : Int)) (i : Int) + rd ((fullW C t (i + 1)).set i ((partW C t i j : Nat) : Int)) ((i + (gt C j).size : Nat) : Int))) = (fullW C t (i + 1)).set i ((partW C t i (j + 1) : Nat) : Int) := by
  have h1 := o.valid.size1 _ (gt_mem hj)
  have hf := hd_fits (by omega) h
  have hp := partW_le o.valid t o.few hi j
  have hp1 := partW_le o.valid t o.few hi (j + 1)
  have hs := partW_succ (C := C) t i hj
  rw [if_pos h] at hs
  have hL := fullW_len C t (i + 1)
  rw [rd_set _ _ _ _ (by omega), if_pos rfl, rd_set _ _ _ _ (by omega), if_neg (by omega), fullW_rd _ _ _ _ hf, if_neg (by omega), List.set_set, ← Int.natCast_add, ← hs, w64 (by omega) (by omega)]
theorem count_in {C : List ByteArray} {t : ByteArray} (o : TextOk C t) (i : Nat) (hi : i < t.size) (r : List Int) (hr : Ev (fun k => whistle_counts.l0 k C t (fullW C t i) ((i : Int) - 1)) r) (d : Nat) : ∀ j, j + d = C.length →
    Ev (fun k => whistle_counts.l1 k C t ((fullW C t (i + 1)).set i ((partW C t i j : Nat) : Int)) (i : Int) C (C.length : Int) (j : Int)) r := by
  have hC := o.valid.few
  have ht := o.few
  induction d with
  | zero =>
    intro j hj
    obtain rfl : j = C.length := by omega
    rw [partW_all o.valid t hi, fullW_set C t i (by omega)]
    exact Ev.step (fun k => by rw [whistle_counts.l1, w64 (a := (i : Int) - 1) (by omega) (by omega)]) (Ev.ifn (by omega) hr)
  | succ d ih =>
    intro j hj
    have hw := w64s (show j < 1000000000000000000 by omega)
    have e1 : ((i : Int)).toNat = i := Int.toNat_natCast i
    have hlen : ((fullW C t (i + 1)).set i ((partW C t i j : Nat) : Int)).length = t.size + 1 := by rw [List.length_set, fullW_len]
    refine Ev.step (fun k => by rw [whistle_counts.l1, rdOf_gt, hw, e1, hasPrefix_eq]) (Ev.ifp (by omega) (Ev.ifp (by omega) (Ev.ifp (by omega) (Ev.ifp (by omega) (Ev.ifp (by omega) (Ev.some_bind ?_))))))
    by_cases h : headB (t.extract i t.size) (gt C j) = true
    · have hf := hd_fits (by omega) h
      have hq : wrap64 ((i : Int) + ((gt C j).size : Int)) = ((i + (gt C j).size : Nat) : Int) := by rw [w64 (by omega) (by omega)]; omega
      rw [hq, cell_step o hi (by omega) h]
      refine Ev.ifp h ?_
      refine Ev.ifp (show (i : Int) < (((fullW C t (i + 1)).set i ((partW C t i j : Nat) : Int)).length : Int) by omega) (Ev.ifp (by omega) ?_)
      refine Ev.ifp (show ((i + (gt C j).size : Nat) : Int) < (((fullW C t (i + 1)).set i ((partW C t i j : Nat) : Int)).length : Int) by omega) ?_
      exact ih (j + 1) (by omega)
    · have hs := partW_succ (C := C) t i (show j < C.length by omega)
      rw [if_neg h, Nat.add_zero] at hs
      have := ih (j + 1) (by omega)
      rw [hs] at this
      exact Ev.ifn h this
theorem count_out {C : List ByteArray} {t : ByteArray} (o : TextOk C t) : ∀ i, i ≤ t.size → Ev (fun k => whistle_counts.l0 k C t (fullW C t i) ((i : Int) - 1)) (fullW C t 0)
  | 0, _ => Ev.step (fun k => by rw [whistle_counts.l0]) (Ev.ifn (by omega) (Ev.val (by rfl)))
  | i + 1, hi => by
    have := count_in o i (by omega) _ (count_out o i (by omega)) C.length 0 (by omega)
    have e0 : ((partW C t i 0 : Nat) : Int) = 0 := rfl
    rw [e0, fullW_zero C t i (by omega)] at this
    have e : ((i + 1 : Nat) : Int) - 1 = (i : Int) := by omega
    rw [e]
    refine Ev.step (fun k => by rw [whistle_counts.l0]) (Ev.ifp (show (i : Int) ≥ 0 by omega) ?_)
    exact this
theorem start_full (C : List ByteArray) (t : ByteArray) : (List.replicate (t.size + 1) (0 : Int)).set t.size 1 = fullW C t t.size := by
  refine List.ext_getElem (by rw [List.length_set, List.length_replicate, fullW_len]) fun j h1 h2 => ?_
  rw [List.getElem_set, fullW_get]
  by_cases e : t.size = j
  · subst e
    rw [if_pos rfl, if_neg (by omega)]
    have : wayT C t t.size = 1 := by
      unfold wayT
      rw [List.drop_eq_nil_of_le (by rw [bs_len]; exact Nat.le_refl _), ways_nil]
    rw [this]; rfl
  · have hj : j < t.size + 1 := by rw [fullW_len] at h2; exact h2
    rw [if_neg e, if_pos (by omega), List.getElem_replicate]
theorem counts_ev {C : List ByteArray} {t : ByteArray} (o : TextOk C t) : Ev (fun k => whistle_counts.f k C t) (fullW C t 0) := by
  have ht := o.few
  unfold whistle_counts.f
  have e : wrap64 ((t.size : Int) + 1) = ((t.size + 1 : Nat) : Int) := w64s (by omega)
  have e2 : ((t.size : Int)).toNat = t.size := Int.toNat_natCast _
  rw [e, Int.toNat_natCast, e2]
  refine Ev.ifp (by omega) (Ev.ifp (by omega) (Ev.some_bind (Ev.ifp (by omega) (Ev.ifp (by rw [List.length_replicate]; omega) ?_))))
  rw [start_full C t, w64 (by omega) (by omega)]
  exact count_out o t.size (Nat.le_refl _)
theorem rcount_in {C : List ByteArray} {t : ByteArray} (o : TextOk C t) (i : Nat) (hi : i < t.size) (r : List Int) (hr : Ev (fun k => wigeonref05_heard.l0 k C t (fullW C t i) ((i : Int) - 1)) r) (d : Nat) : ∀ j, j + d = C.length →
    Ev (fun k => wigeonref05_heard.l1 k C t ((fullW C t (i + 1)).set i ((partW C t i j : Nat) : Int)) (i : Int) (j : Int)) r := by
  have hC := o.valid.few
  have ht := o.few
  induction d with
  | zero =>
    intro j hj
    obtain rfl : j = C.length := by omega
    rw [partW_all o.valid t hi, fullW_set C t i (by omega)]
    exact Ev.step (fun k => by rw [wigeonref05_heard.l1, w64 (a := (i : Int) - 1) (by omega) (by omega)]) (Ev.ifn (by omega) hr)
  | succ d ih =>
    intro j hj
    have hw := w64s (show j < 1000000000000000000 by omega)
    have e1 : ((i : Int)).toNat = i := Int.toNat_natCast i
    have hlen : ((fullW C t (i + 1)).set i ((partW C t i j : Nat) : Int)).length = t.size + 1 := by rw [List.length_set, fullW_len]
    refine Ev.step (fun k => by rw [wigeonref05_heard.l1, rdOf_gt, hw, e1, begins_eq]) (Ev.ifp (by omega) (Ev.ifp (by omega) (Ev.ifp (by omega) (Ev.ifp (by omega) (Ev.some_bind ?_)))))
    by_cases h : headB (t.extract i t.size) (gt C j) = true
    · have hf := hd_fits (by omega) h
      have hq : wrap64 ((i : Int) + ((gt C j).size : Int)) = ((i + (gt C j).size : Nat) : Int) := by rw [w64 (by omega) (by omega)]; omega
      rw [hq, cell_step o hi (by omega) h]
      refine Ev.ifp h ?_
      refine Ev.ifp (show (i : Int) < (((fullW C t (i + 1)).set i ((partW C t i j : Nat) : Int)).length : Int) by omega) (Ev.ifp (by omega) ?_)
      refine Ev.ifp (show ((i + (gt C j).size : Nat) : Int) < (((fullW C t (i + 1)).set i ((partW C t i j : Nat) : Int)).length : Int) by omega) ?_
      exact ih (j + 1) (by omega)
    · have hs := partW_succ (C := C) t i (show j < C.length by omega)
      rw [if_neg h, Nat.add_zero] at hs
      have := ih (j + 1) (by omega)
      rw [hs] at this
      exact Ev.ifn h this
theorem rcount_out {C : List ByteArray} {t : ByteArray} (o : TextOk C t) : ∀ i, i ≤ t.size → Ev (fun k => wigeonref05_heard.l0 k C t (fullW C t i) ((i : Int) - 1)) (fullW C t 0)
  | 0, _ => Ev.step (fun k => by rw [wigeonref05_heard.l0]) (Ev.ifn (by omega) (Ev.val (by rfl)))
  | i + 1, hi => by
    have := rcount_in o i (by omega) _ (rcount_out o i (by omega)) C.length 0 (by omega)
    have e0 : ((partW C t i 0 : Nat) : Int) = 0 := rfl
    rw [e0, fullW_zero C t i (by omega)] at this
    have e : ((i + 1 : Nat) : Int) - 1 = (i : Int) := by omega
    rw [e]
    refine Ev.step (fun k => by rw [wigeonref05_heard.l0]) (Ev.ifp (show (i : Int) ≥ 0 by omega) ?_)
    exact this
theorem rcounts_ev {C : List ByteArray} {t : ByteArray} (o : TextOk C t) : Ev (fun k => wigeonref05_heard.f k C t) (fullW C t 0) := by
  have ht := o.few
  unfold wigeonref05_heard.f
  have e : wrap64 ((t.size : Int) + 1) = ((t.size + 1 : Nat) : Int) := w64s (by omega)
  have e2 : ((t.size : Int)).toNat = t.size := Int.toNat_natCast _
  rw [e, Int.toNat_natCast, e2]
  refine Ev.ifp (by omega) (Ev.ifp (by omega) (Ev.some_bind (Ev.ifp (by omega) (Ev.ifp (by rw [List.length_replicate]; omega) ?_))))
  rw [start_full C t, w64 (by omega) (by omega)]
  exact rcount_out o t.size (Nat.le_refl _)
def heardP (C : List ByteArray) (t : ByteArray) : Int × Int := if textP C t = 0 then (((wayT C t 0 : Nat) : Int), 0) else (0, textP C t)
theorem full0 (C : List ByteArray) (t : ByteArray) : rd (fullW C t 0) 0 = ((wayT C t 0 : Nat) : Int) := by
  have := fullW_rd C t 0 0 (Nat.zero_le _)
  rw [if_neg (by omega)] at this
  exact this
theorem heardP_ok {C : List ByteArray} {t : ByteArray} (h : textP C t = 0) : heardP C t = (((wayT C t 0 : Nat) : Int), 0) := if_pos h
theorem heardP_no {C : List ByteArray} {t : ByteArray} (h : textP C t ≠ 0) : heardP C t = (0, textP C t) := if_neg h
theorem Heard_ev {C : List ByteArray} (hS : Sized C) (t : ByteArray) (ht : t.size ≤ 140737488351232) : Ev (fun k => whistle_Heard.f k C t) (heardP C t) := by
  unfold whistle_Heard.f
  refine Ev.bind (heard_ev hS t ht) ?_
  by_cases h : textP C t = 0
  · rw [heardP_ok h]
    refine Ev.ifp h (Ev.bind (counts_ev (textP_zero.1 h)) (Ev.ifp ?_ (Ev.val ?_)))
    · rw [fullW_len]; omega
    · rw [full0]
  · rw [heardP_no h]
    exact Ev.ifn h (Ev.val (by rfl))
theorem rHeard_ev {C : List ByteArray} (hS : Sized C) (t : ByteArray) (ht : t.size ≤ 140737488351232) : Ev (fun k => wigeonref05_Heard.f k C t) (heardP C t) := by
  unfold wigeonref05_Heard.f
  refine Ev.bind (rtext_ev hS t ht) ?_
  by_cases h : textP C t = 0
  · rw [heardP_ok h]
    refine Ev.ifp h (Ev.bind (rcounts_ev (textP_zero.1 h)) (Ev.ifp ?_ (Ev.val ?_)))
    · rw [fullW_len]; omega
    · rw [full0]
  · rw [heardP_no h]
    exact Ev.ifn h (Ev.val (by rfl))
end Go.Proofs.Ytpkafcoflgbnaaa.Pure
