import Derived.Test.YtpkafcoflgbnaaaQx0
import Derived.Test.YtpkafcoflgbnaaaQx22
import Derived.Test.YtpkafcoflgbnaaaLibN
namespace Go.Proofs.Ytpkafcoflgbnaaa.Pure
open Go.RowKit Go.Proofs.Ytpkafcoflgbnaaa.Q Go.Proofs.YtpkafcoflgbnaaaW.PrintWords Go.Proofs.YtpkafcoflgbnaaaW.PrintLast
set_option linter.unusedVariables false

/-! Messages, and how they sound. -/

def inC (C : List ByteArray) (n : Int) : Bool := decide (0 ≤ n) && decide (n < (C.length : Int))
def msgP (C : List ByteArray) (m : List Int) : Int := if 400 < m.length then 3 else if m.all (inC C) = true then 0 else 4
theorem inC_iff {C : List ByteArray} {n : Int} : inC C n = true ↔ 0 ≤ n ∧ n < (C.length : Int) := by unfold inC; rw [Bool.and_eq_true, decide_eq_true_eq, decide_eq_true_eq]
theorem isMsg_at (C : List ByteArray) (m : List Int) (hm : m.length < bigC) (d : Nat) : ∀ i, i + d = m.length → Ev (fun k => whistle_isMessage.l0 k C m (m.length : Int) (i : Int)) (if (m.drop i).all (inC C) = true then 0 else 4) := by
  unfold bigC at hm
  induction d with
  | zero =>
    intro i hi
    rw [List.drop_eq_nil_of_le (by omega)]
    exact Ev.step (fun k => by rw [whistle_isMessage.l0]) (Ev.ifn (by omega) (Ev.val (by rfl)))
  | succ d ih =>
    intro i hi
    rw [drop_rd (show i < m.length by omega), List.all_cons]
    refine Ev.step (fun k => by rw [whistle_isMessage.l0]) (Ev.ifp (by omega) (Ev.ifp (by omega) (Ev.ifp (by omega) ?_)))
    by_cases h : inC C (rd m (i : Int)) = true
    · obtain ⟨h0, h1⟩ := inC_iff.1 h
      rw [h, Bool.true_and]
      refine Ev.ifn (by omega) (Ev.ifn (by omega) ?_)
      rw [w64s (by omega)]
      exact ih (i + 1) (by omega)
    · have h' : ¬ (0 ≤ rd m (i : Int) ∧ rd m (i : Int) < (C.length : Int)) := fun e => h (inC_iff.2 e)
      rw [Bool.eq_false_iff.2 h, Bool.false_and, if_neg (by decide)]
      by_cases h0 : rd m (i : Int) < 0
      · exact Ev.ifp h0 (Ev.now _)
      · exact Ev.ifn h0 (Ev.ifp (by omega) (Ev.now _))
theorem isMsg_ev (C : List ByteArray) (m : List Int) (hm : m.length < bigC) : Ev (fun k => whistle_isMessage.f k C m) (msgP C m) := by
  unfold whistle_isMessage.f msgP
  by_cases h : 400 < m.length
  · rw [if_pos h]; exact Ev.ifp (by omega) (Ev.now _)
  · rw [if_neg h]
    refine Ev.ifn (by omega) ?_
    have h0 : Ev (fun k => whistle_isMessage.l0 k C m (m.length : Int) 0) (if (m.drop 0).all (inC C) = true then 0 else 4) := isMsg_at C m hm m.length 0 (by omega)
    rwa [List.drop_zero] at h0
theorem rdL4_nat (L : List (List Int)) (i : Nat) : rd_L4 L (i : Int) = L.getD i [] := by unfold rd_L4; rw [Int.toNat_natCast]
theorem rmsg_in (C : List ByteArray) (L : List (List Int)) (t : Nat) (ht : t < L.length) (hL : L.length < bigC) (hm : (L.getD t []).length < bigC) (r0 : Int) (hr : Ev (fun k => wigeonref05_messageOK.l1 k C L ((t + 1 : Nat) : Int)) r0) (d : Nat) : ∀ i, i + d = (L.getD t []).length → Ev (fun k => wigeonref05_messageOK.l2 k C L (t : Int) (i : Int)) (if ((L.getD t []).drop i).all (inC C) = true then r0 else 4) := by
  unfold bigC at hm hL
  induction d with
  | zero =>
    intro i hi
    rw [List.drop_eq_nil_of_le (by omega), List.all_nil, if_pos rfl]
    refine Ev.step (fun k => by rw [wigeonref05_messageOK.l2, rdL4_nat]) (Ev.ifp (by omega) (Ev.ifp (by omega) (Ev.ifn (by omega) ?_)))
    rw [w64s (by omega)]
    exact hr
  | succ d ih =>
    intro i hi
    rw [drop_rd (show i < (L.getD t []).length by omega), List.all_cons]
    refine Ev.step (fun k => by rw [wigeonref05_messageOK.l2, rdL4_nat]) (Ev.ifp (by omega) (Ev.ifp (by omega) (Ev.ifp (by omega) (Ev.ifp (by omega) ?_))))
    by_cases h : inC C (rd (L.getD t []) (i : Int)) = true
    · obtain ⟨h0, h1⟩ := inC_iff.1 h
      rw [h, Bool.true_and]
      refine Ev.ifn (by omega) (Ev.ifn (by omega) ?_)
      rw [w64s (by omega)]
      exact ih (i + 1) (by omega)
    · have h' : ¬ (0 ≤ rd (L.getD t []) (i : Int) ∧ rd (L.getD t []) (i : Int) < (C.length : Int)) := fun e => h (inC_iff.2 e)
      rw [Bool.eq_false_iff.2 h, Bool.false_and, if_neg (by decide)]
      by_cases h0 : rd (L.getD t []) (i : Int) < 0
      · exact Ev.ifp h0 (Ev.now _)
      · exact Ev.ifn h0 (Ev.ifp (by omega) (Ev.now _))
theorem rmsg1_ev (C : List ByteArray) (m : List Int) (hm : m.length < bigC) : Ev (fun k => wigeonref05_messageOK.f k C [m]) (msgP C m) := by
  unfold wigeonref05_messageOK.f msgP
  have h1 : Ev (fun k => wigeonref05_messageOK.l1 k C [m] ((0 + 1 : Nat) : Int)) 0 := Ev.step (fun k => by rw [wigeonref05_messageOK.l1]) (Ev.ifn (by simp) (Ev.now _))
  have h2 : Ev (fun k => wigeonref05_messageOK.l2 k C [m] 0 0) (if ((m.drop 0).all (inC C)) = true then 0 else 4) := rmsg_in C [m] 0 (by simp) (by unfold bigC; simp) hm 0 h1 m.length 0 (by simp)
  rw [List.drop_zero] at h2
  have h3 : Ev (fun k => wigeonref05_messageOK.l1 k C [m] 0) (if m.all (inC C) = true then 0 else 4) := Ev.step (fun k => by rw [wigeonref05_messageOK.l1]) (Ev.ifp (by simp) h2)
  have e0 : rd_L4 [m] 0 = m := rfl
  have w0 : wrap64 ((0 : Int) + 1) = 1 := by unfold wrap64; omega
  by_cases h : 400 < m.length
  · rw [if_pos h]
    exact Ev.step (fun k => by rw [wigeonref05_messageOK.l0, e0]) (Ev.ifp (by simp) (Ev.ifp (by decide) (Ev.ifp (by omega) (Ev.now _))))
  · rw [if_neg h]
    refine Ev.step (fun k => by rw [wigeonref05_messageOK.l0, e0]) (Ev.ifp (by simp) (Ev.ifp (by decide) (Ev.ifn (by omega) ?_)))
    rw [w0]
    exact Ev.step (fun k => by rw [wigeonref05_messageOK.l0]) (Ev.ifn (by simp) h3)
def msg2P (C : List ByteArray) (a b : List Int) : Int := if 400 < a.length then 3 else if 400 < b.length then 3 else if a.all (inC C) = true then (if b.all (inC C) = true then 0 else 4) else 4
theorem rmsg2_ev (C : List ByteArray) (a b : List Int) (ha : a.length < bigC) (hb : b.length < bigC) : Ev (fun k => wigeonref05_messageOK.f k C [a, b]) (msg2P C a b) := by
  unfold wigeonref05_messageOK.f msg2P
  have h1 : Ev (fun k => wigeonref05_messageOK.l1 k C [a, b] ((1 + 1 : Nat) : Int)) 0 := Ev.step (fun k => by rw [wigeonref05_messageOK.l1]) (Ev.ifn (by simp) (Ev.now _))
  have h2 : Ev (fun k => wigeonref05_messageOK.l2 k C [a, b] 1 0) (if ((b.drop 0).all (inC C)) = true then 0 else 4) := rmsg_in C [a, b] 1 (by simp) (by unfold bigC; simp) hb 0 h1 b.length 0 (by simp)
  rw [List.drop_zero] at h2
  have h3 : Ev (fun k => wigeonref05_messageOK.l1 k C [a, b] 1) (if b.all (inC C) = true then 0 else 4) := Ev.step (fun k => by rw [wigeonref05_messageOK.l1]) (Ev.ifp (by simp) h2)
  have h3' : Ev (fun k => wigeonref05_messageOK.l1 k C [a, b] ((0 + 1 : Nat) : Int)) (if b.all (inC C) = true then 0 else 4) := h3
  have h4 : Ev (fun k => wigeonref05_messageOK.l2 k C [a, b] 0 0) (if ((a.drop 0).all (inC C)) = true then (if b.all (inC C) = true then 0 else 4) else 4) := rmsg_in C [a, b] 0 (by simp) (by unfold bigC; simp) ha _ h3' a.length 0 (by simp)
  rw [List.drop_zero] at h4
  have h5 : Ev (fun k => wigeonref05_messageOK.l1 k C [a, b] 0) (if a.all (inC C) = true then (if b.all (inC C) = true then 0 else 4) else 4) := Ev.step (fun k => by rw [wigeonref05_messageOK.l1]) (Ev.ifp (by simp) h4)
  have e0 : rd_L4 [a, b] 0 = a := rfl
  have e1 : rd_L4 [a, b] 1 = b := rfl
  have w0 : wrap64 ((0 : Int) + 1) = 1 := by unfold wrap64; omega
  have w1 : wrap64 ((1 : Int) + 1) = 2 := by unfold wrap64; omega
  by_cases h : 400 < a.length
  · rw [if_pos h]
    exact Ev.step (fun k => by rw [wigeonref05_messageOK.l0, e0]) (Ev.ifp (by simp) (Ev.ifp (by decide) (Ev.ifp (by omega) (Ev.now _))))
  · rw [if_neg h]
    refine Ev.step (fun k => by rw [wigeonref05_messageOK.l0, e0]) (Ev.ifp (by simp) (Ev.ifp (by decide) (Ev.ifn (by omega) ?_)))
    rw [w0]
    by_cases hb2 : 400 < b.length
    · rw [if_pos hb2]
      exact Ev.step (fun k => by rw [wigeonref05_messageOK.l0, e1]) (Ev.ifp (by simp) (Ev.ifp (by decide) (Ev.ifp (by omega) (Ev.now _))))
    · rw [if_neg hb2]
      refine Ev.step (fun k => by rw [wigeonref05_messageOK.l0, e1]) (Ev.ifp (by simp) (Ev.ifp (by decide) (Ev.ifn (by omega) ?_)))
      rw [w1]
      exact Ev.step (fun k => by rw [wigeonref05_messageOK.l0]) (Ev.ifn (by simp) h5)
theorem app_bytes (a : List UInt8) (s : ByteArray) : (⟨a.toArray⟩ : ByteArray) ++ s = ⟨(a ++ s.data.toList).toArray⟩ := by
  have h : ((⟨a.toArray⟩ : ByteArray) ++ s).data = a.toArray ++ s.data := ByteArray.data_append
  cases hx : ((⟨a.toArray⟩ : ByteArray) ++ s) with
  | mk d =>
    rw [hx] at h
    congr 1
    have h2 : d = a.toArray ++ s.data := h
    rw [h2]
    apply Array.toList_inj.1
    simp
theorem rsound_at (C : List ByteArray) (m : List Int) (hC : C.length < bigC) (hm : m.length ≤ 500) (hs : ∀ n : Int, (rdS C n).size ≤ 100) (hin : ∀ i, i < m.length → 0 ≤ rd m (i : Int) ∧ rd m (i : Int) < (C.length : Int)) (d : Nat) : ∀ i, i + d = m.length → (sndK C m i).length ≤ 100 * i → Ev (fun k => wigeonref05_sound.l0 k C m ⟨(sndK C m i).toArray⟩ (i : Int)) (soundB C m) := by
  induction d with
  | zero =>
    intro i hi _
    obtain rfl : i = m.length := by omega
    exact Ev.step (fun k => by rw [wigeonref05_sound.l0]) (Ev.ifn (by omega) (Ev.val (by rfl)))
  | succ d ih =>
    intro i hi hl
    obtain ⟨h0, h1⟩ := hin i (by omega)
    have hz := hs (rd m (i : Int))
    have hlen : (rdS C (rd m (i : Int))).data.toList.length = (rdS C (rd m (i : Int))).size := Array.length_toList
    have hbz : (⟨(sndK C m i).toArray⟩ : ByteArray).size = (sndK C m i).length := by simp [ByteArray.size]
    have hnext : (⟨(sndK C m i).toArray⟩ : ByteArray) ++ rdOf ByteArray.empty C (rd m (i : Int)) = ⟨(sndK C m (i + 1)).toArray⟩ := app_bytes _ _
    refine Ev.step (fun k => by rw [wigeonref05_sound.l0, hnext]) (Ev.ifp (by omega) (Ev.ifp (by omega) (Ev.ifp h0 (Ev.ifp h1 (Ev.ifp ?_ ?_)))))
    · rw [hbz]
      show _ + (rdS C (rd m (i : Int))).size ≤ _
      omega
    · rw [w64s (by omega)]
      refine ih (i + 1) (by omega) ?_
      show (sndK C m i ++ _).length ≤ _
      rw [List.length_append, hlen]
      omega
theorem rsound_ev (C : List ByteArray) (m : List Int) (hC : C.length < bigC) (hm : m.length ≤ 500) (hs : ∀ n : Int, (rdS C n).size ≤ 100) (hin : ∀ i, i < m.length → 0 ≤ rd m (i : Int) ∧ rd m (i : Int) < (C.length : Int)) : Ev (fun k => wigeonref05_sound.f k C m) (soundB C m) :=
  rsound_at C m hC hm hs hin m.length 0 (by omega) (Nat.le_refl _)
theorem msgP_zero {C : List ByteArray} {m : List Int} (h : msgP C m = 0) : m.length ≤ 400 ∧ m.all (inC C) = true := by
  unfold msgP at h
  split at h
  · omega
  · split at h
    · rename_i h1 h2; exact ⟨by omega, h2⟩
    · omega
theorem all_in {C : List ByteArray} {m : List Int} (h : m.all (inC C) = true) : ∀ i, i < m.length → 0 ≤ rd m (i : Int) ∧ rd m (i : Int) < (C.length : Int) := fun i hi => by
  rw [List.all_eq_true] at h
  have := h (rd m (i : Int)) (by rw [rd_nat, List.getD_eq_getElem?_getD, List.getElem?_eq_getElem hi]; exact List.getElem_mem hi)
  exact inC_iff.1 this
theorem Valid.rdS {C : List ByteArray} (v : Valid C) (n : Int) : (rdS C n).size ≤ 12 := by
  unfold Q.rdS
  by_cases hn : n.toNat < C.length
  · exact v.size12 _ (getD_mem hn)
  · rw [List.getD_eq_getElem?_getD, List.getElem?_eq_none (by omega)]
    decide
theorem okM_of {C : List ByteArray} {m : List Int} (v : Valid C) (h : msgP C m = 0) : okM C m = true := by
  obtain ⟨h1, h2⟩ := msgP_zero h
  unfold okM
  rw [decide_eq_true h1, Bool.true_and, Bool.and_eq_true]
  refine ⟨h2, ?_⟩
  rw [List.all_eq_true]
  intro s hs
  exact decide_eq_true (v.size12 s hs)
/-- Sound, both. -/
def sndP (C : List ByteArray) (m : List Int) : ByteArray × Int := if valP C ≠ 0 then (⟨#[]⟩, valP C) else if msgP C m ≠ 0 then (⟨#[]⟩, msgP C m) else (soundB C m, 0)
theorem sound_ev (C : List ByteArray) (m : List Int) (hS : Sized C) (hm : m.length < bigC) : Ev (fun k => whistle_Sound.f k C m) (sndP C m) := by
  unfold whistle_Sound.f sndP
  refine Ev.bind (val_ev C hS) ?_
  by_cases h : valP C = 0
  · rw [if_neg (show ¬ (valP C ≠ 0) by simpa using h)]
    refine Ev.ifp h (Ev.bind (isMsg_ev C m hm) ?_)
    by_cases h2 : msgP C m = 0
    · rw [if_neg (show ¬ (msgP C m ≠ 0) by simpa using h2)]
      refine Ev.ifp h2 (Ev.bindc ?_ (Ev.now _))
      unfold whistle_sound.f
      rw [if_pos (okM_of (valP_zero.1 h) h2)]
    · rw [if_pos (show msgP C m ≠ 0 from h2)]; exact Ev.ifn h2 (Ev.now _)
  · rw [if_pos (show valP C ≠ 0 from h)]; exact Ev.ifn h (Ev.now _)
theorem rSound_ev (C : List ByteArray) (m : List Int) (hS : Sized C) (hm : m.length < bigC) : Ev (fun k => wigeonref05_Sound.f k C m) (sndP C m) := by
  unfold wigeonref05_Sound.f sndP
  refine Ev.bind (rval_ev C hS) ?_
  by_cases h : valP C = 0
  · rw [if_neg (show ¬ (valP C ≠ 0) by simpa using h)]
    refine Ev.ifn (by simpa using h) (Ev.bind (rmsg1_ev C m hm) ?_)
    by_cases h2 : msgP C m = 0
    · rw [if_neg (show ¬ (msgP C m ≠ 0) by simpa using h2)]
      have v := valP_zero.1 h
      obtain ⟨h3, h4⟩ := msgP_zero h2
      exact Ev.ifn (by simpa using h2) (Ev.bind (rsound_ev C m (by have := v.few; unfold bigC; omega) (by omega) (fun n => by have := v.rdS n; omega) (all_in h4)) (Ev.now _))
    · rw [if_pos (show msgP C m ≠ 0 from h2)]; exact Ev.ifp h2 (Ev.now _)
  · rw [if_pos (show valP C ≠ 0 from h)]; exact Ev.ifp h (Ev.now _)
def mws (C : List ByteArray) (m : List Int) : List (List UInt8) := m.map fun n => bs (rdS C n)
theorem sndK_take (C : List ByteArray) (m : List Int) : ∀ k, k ≤ m.length → sndK C m k = (mws C (m.take k)).flatten
  | 0, _ => by simp [sndK, mws]
  | k + 1, h => by
    show sndK C m k ++ _ = _
    rw [sndK_take C m k (by omega)]
    have e : m.take (k + 1) = m.take k ++ [rd m (k : Int)] := by
      rw [List.take_succ_eq_append_getElem (by omega), rd_nat, List.getD_eq_getElem?_getD, List.getElem?_eq_getElem (by omega)]; rfl
    unfold mws
    rw [e, List.map_append, List.flatten_append]
    simp [bs]
theorem sound_words (C : List ByteArray) (m : List Int) : bs (soundB C m) = (mws C m).flatten := by
  unfold soundB
  rw [bs_mk, sndK_take C m m.length (Nat.le_refl _), List.take_length]
theorem rdS_in {C : List ByteArray} {n : Int} (h0 : 0 ≤ n) (h1 : n < (C.length : Int)) : ∃ h : n.toNat < C.length, rdS C n = C[n.toNat] := by
  have h : n.toNat < C.length := by omega
  refine ⟨h, ?_⟩
  unfold Q.rdS
  rw [List.getD_eq_getElem?_getD, List.getElem?_eq_getElem h]; rfl
end Go.Proofs.Ytpkafcoflgbnaaa.Pure
