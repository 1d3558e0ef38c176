import Derived.Test.YtpkafcoflgbnaaaQx24
import Derived.Test.YtpkafcoflgbnaaaLibD
import Derived.Test.YtpkafcoflgbnaaaLibF
namespace Go.Proofs.Ytpkafcoflgbnaaa.Pure
open Go.RowKit Go.Proofs.Ytpkafcoflgbnaaa.Q Go.Proofs.YtpkafcoflgbnaaaW.PrintWords Go.Proofs.YtpkafcoflgbnaaaW.PrintLast
set_option linter.unusedVariables false

/-! Messages that sound alike, by both; such a code is not safe. -/

theorem equal_at (a b : List Int) (hl : a.length = b.length) (ha : a.length < bigC) (d : Nat) : ∀ i, i + d = a.length → Ev (fun k => slices_Equal_int_int.l0 k a b (a.length : Int) (i : Int)) (decide (a.drop i = b.drop i)) := by
  unfold bigC at ha
  induction d with
  | zero =>
    intro i hi
    rw [List.drop_eq_nil_of_le (by omega), List.drop_eq_nil_of_le (by omega)]
    exact Ev.step (fun k => by rw [slices_Equal_int_int.l0]) (Ev.ifn (by omega) (Ev.val (by simp)))
  | succ d ih =>
    intro i hi
    rw [drop_rd (show i < a.length by omega), drop_rd (show i < b.length by omega)]
    refine Ev.step (fun k => by rw [slices_Equal_int_int.l0]) (Ev.ifp (by omega) (Ev.ifp (by omega) (Ev.ifp (by omega) (Ev.ifp (by omega) ?_))))
    by_cases h : rd a (i : Int) = rd b (i : Int)
    · refine Ev.ifp h ?_
      rw [w64s (by omega)]
      have := ih (i + 1) (by omega)
      rwa [show decide (rd a (i : Int) :: a.drop (i + 1) = rd b (i : Int) :: b.drop (i + 1)) = decide (a.drop (i + 1) = b.drop (i + 1)) from decide_eq_decide.2 (by rw [h]; simp)]
    · refine Ev.ifn h (Ev.val ?_)
      exact (decide_eq_false (by intro e; exact h (List.cons.inj e).1)).symm
theorem equal_ev (a b : List Int) (ha : a.length < bigC) : Ev (fun k => slices_Equal_int_int.f k a b) (decide (a = b)) := by
  unfold slices_Equal_int_int.f
  by_cases h : a.length = b.length
  · refine Ev.ifp (by omega) ?_
    have h0 : Ev (fun k => slices_Equal_int_int.l0 k a b (a.length : Int) 0) (decide (a.drop 0 = b.drop 0)) := equal_at a b h ha a.length 0 (by omega)
    rw [List.drop_zero, List.drop_zero] at h0
    exact h0
  · exact Ev.ifn (by omega) (Ev.val (decide_eq_false (fun e => h (by rw [e]))).symm)
def chkP (C : List ByteArray) (a b : List Int) : Int := if valP C ≠ 0 then valP C else if msg2P C a b ≠ 0 then msg2P C a b else if a = b then 7 else if soundB C a = soundB C b then 0 else 7
theorem msg2_cases (C : List ByteArray) (a b : List Int) : (400 < a.length ∧ msg2P C a b = 3) ∨ (a.length ≤ 400 ∧ 400 < b.length ∧ msg2P C a b = 3) ∨ (a.length ≤ 400 ∧ b.length ≤ 400 ∧ ((msgP C a ≠ 0 ∧ msg2P C a b = msgP C a) ∨ (msgP C a = 0 ∧ msg2P C a b = msgP C b))) := by
  unfold msg2P msgP
  by_cases h1 : 400 < a.length
  · exact .inl ⟨h1, by rw [if_pos h1]⟩
  · by_cases h2 : 400 < b.length
    · exact .inr (.inl ⟨by omega, h2, by rw [if_neg h1, if_pos h2]⟩)
    · refine .inr (.inr ⟨by omega, by omega, ?_⟩)
      rw [if_neg h1, if_neg h2, if_neg h1, if_neg h2]
      by_cases h3 : a.all (inC C) = true
      · rw [if_pos h3, if_pos h3]; exact .inr ⟨rfl, rfl⟩
      · rw [if_neg h3, if_neg h3]; exact .inl ⟨by decide, rfl⟩
theorem chk_ev (C : List ByteArray) (a b : List Int) (hS : Sized C) (ha : a.length < bigC) (hb : b.length < bigC) : Ev (fun k => whistle_CheckAlike.f k C a b) (chkP C a b) := by
  unfold whistle_CheckAlike.f chkP
  refine Ev.bind (val_ev C hS) ?_
  by_cases hv : valP C = 0
  · rw [if_neg (show ¬ (valP C ≠ 0) by simpa using hv)]
    refine Ev.ifn (by simpa using hv) ?_
    rcases msg2_cases C a b with ⟨h1, h2⟩ | ⟨h1, h2, h3⟩ | ⟨h1, h2, h3⟩
    · rw [h2, if_pos (show (3 : Int) ≠ 0 by decide)]
      exact Ev.ifp h1 (Ev.now _)
    · rw [h3, if_pos (show (3 : Int) ≠ 0 by decide)]
      exact Ev.ifn (by omega) (Ev.ifp h2 (Ev.now _))
    · refine Ev.ifn (by omega) (Ev.ifn (by omega) (Ev.bind (isMsg_ev C a ha) ?_))
      rcases h3 with ⟨h4, h5⟩ | ⟨h4, h5⟩
      · rw [h5, if_pos h4]
        exact Ev.ifp h4 (Ev.now _)
      · refine Ev.ifn (by simpa using h4) (Ev.bind (isMsg_ev C b hb) ?_)
        rw [h5]
        by_cases h6 : msgP C b = 0
        · rw [if_neg (show ¬ (msgP C b ≠ 0) by simpa using h6)]
          refine Ev.ifn (by simpa using h6) (Ev.bind (equal_ev a b ha) ?_)
          by_cases h7 : a = b
          · rw [if_pos (show a = b from h7)]
            exact Ev.ifp (decide_eq_true h7) (Ev.now _)
          · rw [if_neg (show ¬ a = b from h7)]
            have v := valP_zero.1 hv
            refine Ev.ifn (by simpa using h7) (Ev.ifp (by rw [okM_of v h4, okM_of v h6]; rfl) ?_)
            by_cases h8 : soundB C a = soundB C b
            · rw [if_pos (show soundB C a = soundB C b from h8)]; exact Ev.ifp (str_eq.2 h8) (Ev.now _)
            · rw [if_neg (show ¬ soundB C a = soundB C b from h8)]; exact Ev.ifn (fun e => h8 (str_eq.1 e)) (Ev.now _)
        · rw [if_pos (show msgP C b ≠ 0 from h6)]
          exact Ev.ifp h6 (Ev.now _)
  · rw [if_pos (show valP C ≠ 0 from hv)]; exact Ev.ifp hv (Ev.now _)
theorem rchk_ev (C : List ByteArray) (a b : List Int) (hS : Sized C) (ha : a.length < bigC) (hb : b.length < bigC) : Ev (fun k => wigeonref05_CheckAlike.f k C a b) (chkP C a b) := by
  unfold wigeonref05_CheckAlike.f chkP
  refine Ev.bind (rval_ev C hS) ?_
  by_cases hv : valP C = 0
  · rw [if_neg (show ¬ (valP C ≠ 0) by simpa using hv)]
    have v := valP_zero.1 hv
    refine Ev.ifn (by simpa using hv) (Ev.bind (rmsg2_ev C a b ha hb) ?_)
    by_cases hm : msg2P C a b = 0
    · rw [if_neg (show ¬ (msg2P C a b ≠ 0) by simpa using hm)]
      refine Ev.ifn (by simpa using hm) (Ev.bind (sameI_ev a b ha) ?_)
      by_cases h7 : a = b
      · rw [if_pos (show a = b from h7)]
        exact Ev.ifp (decide_eq_true h7) (Ev.now _)
      · rw [if_neg (show ¬ a = b from h7)]
        have hz : msgP C a = 0 ∧ msgP C b = 0 := by
          rcases msg2_cases C a b with ⟨h1, h2⟩ | ⟨h1, h2, h3⟩ | ⟨h1, h2, ⟨h4, h5⟩ | ⟨h4, h5⟩⟩
          · omega
          · omega
          · rw [h5] at hm; exact absurd hm h4
          · rw [h5] at hm; exact ⟨h4, hm⟩
        obtain ⟨a1, a2⟩ := msgP_zero hz.1
        obtain ⟨b1, b2⟩ := msgP_zero hz.2
        have hC := v.few
        refine Ev.ifn (by simpa using h7) (Ev.bind (rsound_ev C a (by unfold bigC; omega) (by omega) (fun n => by have := v.rdS n; omega) (all_in a2)) (Ev.bind (rsound_ev C b (by unfold bigC; omega) (by omega) (fun n => by have := v.rdS n; omega) (all_in b2)) ?_))
        by_cases h8 : soundB C a = soundB C b
        · rw [if_pos (show soundB C a = soundB C b from h8)]; exact Ev.ifp (str_eq.2 h8) (Ev.now _)
        · rw [if_neg (show ¬ soundB C a = soundB C b from h8)]; exact Ev.ifn (fun e => h8 (str_eq.1 e)) (Ev.now _)
    · rw [if_pos (show msg2P C a b ≠ 0 from hm)]; exact Ev.ifp hm (Ev.now _)
  · rw [if_pos (show valP C ≠ 0 from hv)]; exact Ev.ifp hv (Ev.now _)
theorem msg2_comm (C : List ByteArray) (a b : List Int) : msg2P C a b = msg2P C b a := by
  unfold msg2P
  by_cases h1 : 400 < a.length <;> by_cases h2 : 400 < b.length <;> by_cases h3 : a.all (inC C) = true <;> by_cases h4 : b.all (inC C) = true <;> simp [h1, h2, h3, h4]
theorem chk_comm (C : List ByteArray) (a b : List Int) : chkP C a b = chkP C b a := by
  unfold chkP
  rw [msg2_comm C b a]
  split
  · rfl
  · split
    · rfl
    · by_cases h : a = b
      · rw [if_pos h, if_pos (show b = a from h.symm)]
      · rw [if_neg h, if_neg (show ¬ b = a from fun e => h e.symm)]
        by_cases h2 : soundB C a = soundB C b
        · rw [if_pos h2, if_pos (show soundB C b = soundB C a from h2.symm)]
        · rw [if_neg h2, if_neg (show ¬ soundB C b = soundB C a from fun e => h2 e.symm)]

/-! Messages as words. -/
def mws (C : List ByteArray) (m : List Int) : List (List UInt8) := m.map fun n => bs (rdS C n)
theorem sndK_take (C : List ByteArray) (m : List Int) : ∀ k, k ≤ m.length → sndK C m k = (mws C (m.take k)).flatten
  | 0, _ => by simp [sndK, mws]
  | k + 1, h => by
    show sndK C m k ++ _ = _
    rw [sndK_take C m k (by omega)]
    have e : m.take (k + 1) = m.take k ++ [rd m (k : Int)] := by
      rw [List.take_succ_eq_append_getElem (by omega), rd_nat, List.getD_eq_getElem?_getD, List.getElem?_eq_getElem (by omega)]; rfl
    unfold mws
    rw [e, List.map_append, List.flatten_append]
    simp [bs]
theorem sound_words (C : List ByteArray) (m : List Int) : bs (soundB C m) = (mws C m).flatten := by
  unfold soundB
  rw [bs_mk, sndK_take C m m.length (Nat.le_refl _), List.take_length]
theorem rdS_in {C : List ByteArray} {n : Int} (h0 : 0 ≤ n) (h1 : n < (C.length : Int)) : ∃ h : n.toNat < C.length, rdS C n = C[n.toNat] := by
  have h : n.toNat < C.length := by omega
  refine ⟨h, ?_⟩
  unfold Q.rdS
  rw [List.getD_eq_getElem?_getD, List.getElem?_eq_getElem h]; rfl
theorem msg_words {C : List ByteArray} {m : List Int} (h : m.all (inC C) = true) : Msg (wds C) (mws C m) := fun x hx => by
  obtain ⟨n, hn, rfl⟩ := List.mem_map.1 hx
  obtain ⟨h0, h1⟩ := inC_iff.1 (List.all_eq_true.1 h n hn)
  obtain ⟨hl, e⟩ := rdS_in h0 h1
  exact mem_wds.2 ⟨_, by rw [e]; exact List.getElem_mem hl, rfl⟩
theorem mws_inj {C : List ByteArray} (hn : C.Nodup) : ∀ {a b : List Int}, a.all (inC C) = true → b.all (inC C) = true → mws C a = mws C b → a = b
  | [], [], _, _, _ => rfl
  | [], y :: b, _, _, h => by simp [mws] at h
  | x :: a, [], _, _, h => by simp [mws] at h
  | x :: a, y :: b, ha, hb, h => by
    rw [List.all_cons, Bool.and_eq_true] at ha hb
    unfold mws at h
    rw [List.map_cons, List.map_cons] at h
    obtain ⟨h1, h2⟩ := List.cons.inj h
    have ih := mws_inj hn ha.2 hb.2 h2
    obtain ⟨x0, x1⟩ := inC_iff.1 ha.1
    obtain ⟨y0, y1⟩ := inC_iff.1 hb.1
    obtain ⟨lx, ex⟩ := rdS_in x0 x1
    obtain ⟨ly, ey⟩ := rdS_in y0 y1
    have h3 := bs_inj h1
    rw [ex, ey] at h3
    have := (List.getElem_inj hn).1 h3
    rw [ih, show x = y by omega]
theorem wds_ne {C : List ByteArray} (v : Valid C) : ∀ x ∈ wds C, x ≠ [] := fun x hx e => by
  obtain ⟨s, hs, rfl⟩ := mem_wds.1 hx
  have h1 := v.size1 s hs
  have := bs_len s
  rw [e] at this
  simp at this; omega
theorem safe_iff {C : List ByteArray} (v : Valid C) : Safe C ↔ ¬ Amb (wds C) := by
  unfold Safe
  rw [amb_iff_left (wds_ne v)]
  refine not_congr ⟨fun ⟨s, h1, h2⟩ => ⟨bs s, mem_wds.2 ⟨s, h1, rfl⟩, h2⟩, fun ⟨x, h1, h2⟩ => ?_⟩
  obtain ⟨s, hs, rfl⟩ := mem_wds.1 h1
  exact ⟨s, hs, h2⟩
theorem alike_unsafe {C : List ByteArray} {a b : List Int} (h : chkP C a b = 0) : safeP C = (false, 0) := by
  unfold chkP at h
  by_cases hv : valP C = 0
  · rw [if_neg (show ¬ (valP C ≠ 0) by simpa using hv)] at h
    have v := valP_zero.1 hv
    by_cases hm : msg2P C a b = 0
    · rw [if_neg (show ¬ (msg2P C a b ≠ 0) by simpa using hm)] at h
      have hz : msgP C a = 0 ∧ msgP C b = 0 := by
        rcases msg2_cases C a b with ⟨h1, h2⟩ | ⟨h1, h2, h3⟩ | ⟨h1, h2, ⟨h4, h5⟩ | ⟨h4, h5⟩⟩
        · omega
        · omega
        · rw [h5] at hm; exact absurd hm h4
        · rw [h5] at hm; exact ⟨h4, hm⟩
      obtain ⟨a1, a2⟩ := msgP_zero hz.1
      obtain ⟨b1, b2⟩ := msgP_zero hz.2
      by_cases h7 : a = b
      · rw [if_pos h7] at h; omega
      · rw [if_neg h7] at h
        by_cases h8 : soundB C a = soundB C b
        · unfold safeP
          rw [if_pos hv]
          congr 1
          rw [Bool.eq_false_iff]
          intro hs
          refine (safe_iff v).1 (safeB_iff.1 hs) ⟨_, _, msg_words a2, msg_words b2, fun e => h7 (mws_inj v.nodup a2 b2 e), ?_⟩
          rw [← sound_words, ← sound_words, h8]
        · rw [if_neg h8] at h; omega
    · rw [if_pos (show msg2P C a b ≠ 0 from hm)] at h; exact absurd h hm
  · rw [if_pos (show valP C ≠ 0 from hv)] at h; exact absurd h hv
end Go.Proofs.Ytpkafcoflgbnaaa.Pure
