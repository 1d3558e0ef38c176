import Derived.Test.YtpkafcoflgbnaaaQx17
import Derived.Test.YtpkafcoflgbnaaaQx41
import Derived.Test.YtpkafcoflgbnaaaZSignals
/- The law TopSignals, as a statement on lists alone: all the parts of the code agree with one another. For all codes, messages and weights. -/
namespace Go.Proofs.Ytpkafcoflgbnaaa.Pure
open Go.RowKit Go.Proofs.Ytpkafcoflgbnaaa.Q Go.Proofs.YtpkafcoflgbnaaaW.PrintWords Go.Proofs.YtpkafcoflgbnaaaW.PrintLast
set_option linter.unusedVariables false

theorem top_j7 {C : List ByteArray} (hS : Sized C) (v : Valid C) (ws : List Int) : Ev (fun k => wigeontop_TopSignals.j7 k C ws (safeB C) false) true := by
  refine Ev.step (fun k => by rw [wigeontop_TopSignals.j7]) (Ev.ifn (by decide) ?_)
  by_cases hok : wOk ws = true
  · have h := wOk_iff hok
    refine Ev.bind (cheap_ev hok) (Ev.ifp rfl ?_)
    obtain ⟨c1, c2, c3⟩ := cheapL_ok h
    have hlen : lenB (natL (cheapL ws)) = true := lenB_iff.2 ⟨by rw [natL_len, c1]; exact h.pos, by rw [natL_len, c1]; exact h.le, fun x hx => by
      unfold natL at hx
      obtain ⟨y, hy, rfl⟩ := List.mem_map.1 hx
      have := c2 y hy
      omega⟩
    have hfrom : fromP (natL (cheapL ws)) = (canonP (natL (cheapL ws)), 0) := by unfold fromP; rw [if_pos hlen, if_pos c3]
    have hr := from_ev (natL (cheapL ws))
    rw [hfrom] at hr
    obtain ⟨h0, hlo⟩ := lenB_iff.1 hlen
    have v2 := canonP_valid hlo h0 c3
    have hS2 : Sized (canonP (natL (cheapL ws))) := fun s hs => Nat.le_trans (v2.size12 s hs) (by decide)
    have hc := pcost_ev ws hS2
    have he : costV ws (canonP (natL (cheapL ws))) = (cheapC ws, 0) := by
      rw [costV_pay (valP_zero.2 v2), if_pos ⟨hok, by rw [canonP_len, natL_len, c1]⟩, canonP_lens hlo]; rfl
    rw [he] at hc
    refine Ev.bind hr (Ev.bind hc (Ev.bind (pcost_ev ws hS) (Ev.ifp rfl (Ev.ifp rfl (Ev.ifp rfl ?_)))))
    rw [costV_pay (valP_zero.2 v)]
    by_cases hl : wOk ws = true ∧ ws.length = C.length
    · rw [if_pos hl]
      refine Ev.ifp rfl ?_
      by_cases hs : safeB C = true
      · exact Ev.ifp hs (Ev.val (decide_eq_true (cheap_least h v hl.2 (by have := safe_kraft v (safeB_iff.1 hs); omega))))
      · exact Ev.ifn hs (Ev.now _)
    · rw [if_neg hl]
      exact Ev.ifn (by decide) (Ev.now _)
  · exact Ev.bind (cheap_none (Bool.eq_false_iff.2 hok)) (Ev.ifn (by decide) (Ev.ifp rfl (Ev.now _)))
theorem lens_back (C : List ByteArray) : lensC (backP C) = lensC C := by
  unfold lensC backP
  rw [List.map_map]
  exact List.map_congr_left fun s _ => by show ((revB s).size : Int) = _; rw [rev_size]
theorem same_one {b : Bool} : ¬ ((b != b) = true) := by simp
theorem same_two {a b : Int} : ¬ ((!(a == a) || (!(b == b))) = true) := by simp
theorem top_j6 {C : List ByteArray} (hS : Sized C) (v : Valid C) (ws : List Int) : Ev (fun k => wigeontop_TopSignals.j6 k C ws (safeB C)) true := by
  have hv := valP_zero.2 v
  have v2 := backP_valid v
  have hb : backR C = (backP C, 0) := if_pos hv
  have s2 : safeP (backP C) = (safeB C, 0) := by unfold safeP; rw [if_pos (valP_zero.2 v2), back_safe v]
  have k1 : kraftP C = ((redI (fillN (lensC C)) 12).1, (redI (fillN (lensC C)) 12).2, 0) := if_pos hv
  have k2 : kraftP (backP C) = ((redI (fillN (lensC C)) 12).1, (redI (fillN (lensC C)) 12).2, 0) := by unfold kraftP; rw [if_pos (valP_zero.2 v2), lens_back]
  have b1 := back_ev hS
  rw [hb] at b1
  have b2 := safe_ev (backP_sized hS)
  rw [s2] at b2
  have b3 := kraft_ev hS
  rw [k1] at b3
  have b4 := kraft_ev (backP_sized hS)
  rw [k2] at b4
  refine Ev.step (fun k => by rw [wigeontop_TopSignals.j6]) (Ev.bind b1 (Ev.bind b2 (Ev.bind b3 (Ev.bind b4 (Ev.ifp rfl (Ev.ifp rfl ?_))))))
  refine Ev.ifn (same_one (b := safeB C)) (Ev.ifp rfl (Ev.ifp rfl (Ev.ifn same_two ?_)))
  by_cases hs : safeB C = true
  · refine Ev.ifp hs ?_
    have hk : ¬ (redI (fillN (lensC C)) 12).1 > (redI (fillN (lensC C)) 12).2 := by
      have := (red_le (fillN (lensC C)) 12).2 (safe_kraft v (safeB_iff.1 hs))
      unfold redI
      show ¬ (((red (fillN (lensC C)) 12).1 : Nat) : Int) > (((red (fillN (lensC C)) 12).2 : Nat) : Int)
      omega
    rw [decide_eq_false hk]
    exact top_j7 hS v ws
  · exact Ev.ifn hs (top_j7 hS v ws)
theorem top_j4 {C : List ByteArray} (hS : Sized C) (v : Valid C) (m0 ws : List Int) (hm0 : m0.length < bigC) : Ev (fun k => wigeontop_TopSignals.j4 k C m0 ws (safeB C)) true := by
  have hv := valP_zero.2 v
  have hend : ∀ s, Ev (fun k => wigeontop_TopSignals.j5 k C m0 ws (safeB C) s false) true := fun s => Ev.step (fun k => by rw [wigeontop_TopSignals.j5]) (Ev.ifn (by decide) (top_j6 hS v ws))
  refine Ev.step (fun k => by rw [wigeontop_TopSignals.j4]) (Ev.bind (sound_ev C m0 hS hm0) ?_)
  by_cases hz : msgP C m0 = 0
  · have e : sndP C m0 = (soundB C m0, 0) := by
      unfold sndP
      rw [if_neg (fun h => h hv), if_neg (fun h => h hz)]
    rw [e]
    refine Ev.ifp rfl ?_
    by_cases h60 : ((soundB C m0).size : Int) ≤ 60
    · rw [decide_eq_true h60]
      obtain ⟨_, hall⟩ := msgP_zero hz
      have o : TextOk C (soundB C m0) := ⟨v, by omega, top_text v hall⟩
      have hx := textP_zero.2 o
      have hww : wayT C (soundB C m0) 0 = ways C (mws C m0).flatten := by
        unfold wayT
        rw [List.drop_zero, sound_words]
      have hge : 1 ≤ wayT C (soundB C m0) 0 := by rw [hww]; exact ways_msg v _ (msg_words hall)
      obtain ⟨m, e1, _, h3, h4, h5⟩ := decode_both hS o (by omega)
      have hsz : (soundB C m0).size ≤ 140737488351232 := by have := o.few; omega
      have hh := Heard_ev hS _ hsz
      rw [heardP_ok hx] at hh
      refine Ev.step (fun k => by rw [wigeontop_TopSignals.j5]) (Ev.ifp rfl (Ev.bind hh (Ev.bind e1 (Ev.ifp rfl (Ev.ifp rfl (Ev.ifp rfl (Ev.ifn ?_ ?_)))))))
      · show ¬ ((wayT C (soundB C m0) 0 : Nat) : Int) < 1
        omega
      · by_cases hsafe : safeB C = true
        · have sf := safeB_iff.1 hsafe
          have h1 := safe_one v sf (mws C m0).flatten
          have hml : m.length < bigC := Nat.lt_of_le_of_lt (Nat.le_trans h5 o.few) (by decide)
          have hme : m = m0 := by
            refine mws_inj v.nodup h3 hall ?_
            by_cases q : mws C m = mws C m0
            · exact q
            · refine absurd ⟨_, _, msg_words h3, msg_words hall, q, ?_⟩ ((safe_iff v).1 sf)
              rw [← sound_words, ← sound_words, h4]
          refine Ev.ifp hsafe (Ev.ifp ?_ (Ev.bind (sameI_ev _ _ hml) (Ev.ifp ?_ (top_j6 hS v ws))))
          · show ((wayT C (soundB C m0) 0 : Nat) : Int) = 1
            rw [hww] at hge ⊢; omega
          · rw [hme]; simp
        · exact Ev.ifn hsafe (top_j6 hS v ws)
    · rw [decide_eq_false h60]; exact hend _
  · have e : sndP C m0 = (⟨#[]⟩, msgP C m0) := by
      unfold sndP
      rw [if_neg (fun h => h hv), if_pos hz]
    rw [e]
    exact Ev.ifn hz (hend _)
theorem top_found {C : List ByteArray} (hS : Sized C) {a b : List Int} (h : chkP C a b = 0) (la : a.length < bigC) (lb : b.length < bigC) (m0 ws : List Int) (hm0 : m0.length < bigC) : Ev (fun k => wigeontop_TopSignals.j2 k C m0 ws (safeB C) 0 a b true false) true := by
  obtain ⟨v, ha, hb, hne, hs⟩ := chk_parts h
  have hv := valP_zero.2 v
  obtain ⟨h2, hnil⟩ := heard_two h
  have ea : sndP C a = (soundB C a, 0) := by
    unfold sndP
    rw [if_neg (fun h => h hv), if_neg (fun h => h ha)]
  have eb : sndP C b = (soundB C b, 0) := by
    unfold sndP
    rw [if_neg (fun h => h hv), if_neg (fun h => h hb)]
  have e1 := sound_ev C a hS la
  rw [ea] at e1
  have e2 := sound_ev C b hS lb
  rw [eb] at e2
  refine Ev.step (fun k => by rw [wigeontop_TopSignals.j2]) (Ev.ifn (by decide) (Ev.ifp rfl (Ev.ifp rfl (Ev.bind e1 (Ev.bind e2 (Ev.ifp rfl (Ev.ifp rfl (Ev.ifp (by show (soundB C a).toList = (soundB C b).toList; rw [hs]) (Ev.ifn (by show ¬ (soundB C a).toList = []; rw [toList_bs]; exact hnil) (Ev.bind (sameI_ev _ _ la) ?_))))))))))
  rw [decide_eq_false hne]
  refine Ev.step (fun k => by rw [wigeontop_TopSignals.j3]) (Ev.ifn (by decide) ?_)
  have j4 := top_j4 hS v m0 ws hm0
  by_cases h60 : ((soundB C a).size : Int) ≤ 60
  · obtain ⟨_, hall⟩ := msgP_zero ha
    have o : TextOk C (soundB C a) := ⟨v, by omega, top_text v hall⟩
    have hh := Heard_ev hS (soundB C a) (by have := o.few; omega)
    rw [heardP_ok (textP_zero.2 o)] at hh
    refine Ev.ifp h60 (Ev.bind hh (Ev.ifp rfl (Ev.ifn ?_ j4)))
    show ¬ ((wayT C (soundB C a) 0 : Nat) : Int) < 2
    have : wayT C (soundB C a) 0 = ways C (bs (soundB C a)) := by unfold wayT; rw [List.drop_zero]
    omega
  · exact Ev.ifn h60 j4
theorem pref_known : whistle_IsPrefix.f 30 [⟨#[46]⟩, ⟨#[45]⟩] = some (true, 0) := by decide +kernel
theorem top_end (C : List ByteArray) (m0 ws : List Int) : Ev (fun k => wigeontop_TopSignals.j1 k C m0 ws true) true := Ev.step (fun k => by rw [wigeontop_TopSignals.j1]) (Ev.ifp rfl (Ev.now _))
theorem TopSignals (l0 : List ByteArray) (l1 : List Int) (l2 : List Int) (h0 : (l0.length ≤ maxLen ∧ l0.length * 16 ≤ 140737488351232 ∧ ∀ y ∈ l0, y.size ≤ 140737488351232)) (h1 : (l1.length ≤ maxLen ∧ l1.length * 8 ≤ 140737488351232 ∧ ∀ y ∈ l1, (Lit.int .i64 y).wf = true)) (h2 : (l2.length ≤ maxLen ∧ l2.length * 8 ≤ 140737488351232 ∧ ∀ y ∈ l2, (Lit.int .i64 y).wf = true)) : ∃ k, wigeontop_TopSignals.f k l0 l1 l2 = some true := by
  refine Ev.rounds ?_
  have hS : Sized l0 := h0.2.2
  unfold wigeontop_TopSignals.f
  have hp : Ev (fun k => whistle_IsPrefix.f k [⟨#[46]⟩, ⟨#[45]⟩]) (true, 0) := Ev.of (k := 30) (fun k => whistle_IsPrefix.mono _ k) pref_known
  refine Ev.bind hp (Ev.ifp rfl (Ev.step (fun k => by rw [wigeontop_TopSignals.j0]) (Ev.ifn (by decide) (Ev.bind (long_ev l0 (by unfold bigC; omega)) ?_))))
  cases longP l0
  · refine Ev.ifn (by decide) ?_
    by_cases h500 : (l1.length : Int) > 500
    · exact Ev.ifp h500 (top_end l0 l1 l2)
    refine Ev.ifn h500 ?_
    by_cases h60 : (l2.length : Int) > 60
    · rw [decide_eq_true h60]; exact top_end l0 l1 l2
    rw [decide_eq_false h60]
    have hm0 : l1.length < bigC := by unfold bigC; omega
    refine Ev.step (fun k => by rw [wigeontop_TopSignals.j1]) (Ev.ifn (by decide) ?_)
    by_cases hv : valP l0 = 0
    · have v := valP_zero.1 hv
      rcases follow_goes v 157 0 _ (PF.start v) (by omega) with ⟨g1, g2⟩ | ⟨a, b, g1, g2, g3, g4⟩
      · have hs : safeP l0 = (safeB l0, 0) := if_pos hv
        have hsb : safeB l0 = true := safeB_iff.2 g2
        have hse := safe_ev hS
        rw [hs] at hse
        refine Ev.bind hse (Ev.bind (alike_good hS hv g1) (Ev.ifp rfl ?_))
        show Ev (fun k => if (false == safeB l0) = true then _ else wigeontop_TopSignals.j2 k l0 l1 l2 (safeB l0) 0 [] [] false false) true
        refine Ev.ifn (by rw [hsb]; decide) ?_
        exact Ev.step (fun k => by rw [wigeontop_TopSignals.j2]) (Ev.ifn (by decide) (Ev.ifp rfl (Ev.ifn (by decide) (top_j4 hS v l1 l2 hm0))))
      · have hs : safeP l0 = (safeB l0, 0) := if_pos hv
        have hsb : safeB l0 = false := by
          have := alike_unsafe g4
          rw [hs] at this
          exact congrArg Prod.fst this
        have hse := safe_ev hS
        rw [hs] at hse
        refine Ev.bind hse (Ev.bind (alike_good hS hv g1) (Ev.ifp rfl ?_))
        show Ev (fun k => if (true == safeB l0) = true then _ else wigeontop_TopSignals.j2 k l0 l1 l2 (safeB l0) 0 (ints a) (ints b) true false) true
        refine Ev.ifn (by rw [hsb]; decide) (top_found hS g4 ?_ ?_ l1 l2 hm0)
        · unfold ints bigC; rw [List.length_map]; omega
        · unfold ints bigC; rw [List.length_map]; omega
    · have hs : safeP l0 = (false, valP l0) := if_neg hv
      have hse := safe_ev hS
      rw [hs] at hse
      refine Ev.bind hse (Ev.bind (alike_bad_ev hS hv) (Ev.ifp rfl (Ev.ifp rfl ?_)))
      have hb : (valP l0 == 0) = false := by simpa using hv
      show Ev (fun k => wigeontop_TopSignals.j2 k l0 l1 l2 false (valP l0) [] [] false (valP l0 == 0)) true
      rw [hb]
      refine Ev.step (fun k => by rw [wigeontop_TopSignals.j2]) ?_
      exact Ev.ifn (by decide) (Ev.ifn hv (Ev.ifn (by decide) (Ev.now _)))
  · exact Ev.ifp rfl (top_end l0 l1 l2)
end Go.Proofs.Ytpkafcoflgbnaaa.Pure
