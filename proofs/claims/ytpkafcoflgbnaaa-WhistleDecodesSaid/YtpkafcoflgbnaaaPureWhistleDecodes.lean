import Derived.Test.YtpkafcoflgbnaaaQx2
import Derived.Test.YtpkafcoflgbnaaaQx34
import Derived.Test.YtpkafcoflgbnaaaZDecodes
namespace Go.Proofs.Ytpkafcoflgbnaaa.Pure
open Go.RowKit Go.Proofs.Ytpkafcoflgbnaaa.Q Go.Proofs.YtpkafcoflgbnaaaW.PrintWords Go.Proofs.YtpkafcoflgbnaaaW.PrintLast
set_option linter.unusedVariables false

/-! WhistleDecodes, plainly. -/

theorem sound_text {C : List ByteArray} (v : Valid C) {m : List Int} (hm : m.all (inC C) = true) : notesP (soundB C m) = true := by
  rw [notesP_list]
  have e : (soundB C m).data.toList = (mws C m).flatten := sound_words C m
  rw [e, List.all_eq_true]
  intro b hb
  obtain ⟨x, hx, hbx⟩ := List.mem_flatten.1 hb
  obtain ⟨s, hs, rfl⟩ := mem_wds.1 (msg_words hm x hx)
  have := v.notes s hs
  rw [notesP_list, List.all_eq_true] at this
  exact this b hbx
theorem WhistleDecodes (l0 : List ByteArray) (l1 : List Int) (h0 : (l0.length ≤ maxLen ∧ l0.length * 16 ≤ 140737488351232 ∧ ∀ y ∈ l0, y.size ≤ 140737488351232)) (h1 : (l1.length ≤ maxLen ∧ l1.length * 8 ≤ 140737488351232 ∧ ∀ y ∈ l1, (Lit.int .i64 y).wf = true)) : ∃ k, wigeonlaw05_WhistleDecodes.f k l0 l1 = some true := by
  refine Ev.rounds ?_
  have hS : Sized l0 := h0.2.2
  unfold wigeonlaw05_WhistleDecodes.f
  refine Ev.bind (long_ev l0 (by unfold bigC; omega)) ?_
  cases longP l0
  · refine Ev.ifn (by decide) (Ev.some_bind (Ev.step (fun k => by rw [wigeonlaw05_WhistleDecodes.j0]) ?_))
    by_cases h500 : (l1.length : Int) > 500
    · exact Ev.ifp (decide_eq_true h500) (known_bind rfl)
    have hm1 : l1.length < bigC := by unfold bigC; omega
    refine Ev.ifn (by rw [decide_eq_true_eq]; exact h500) (Ev.bind (sound_ev l0 l1 hS hm1) ?_)
    have hend : ∀ s, Ev (fun k => wigeonlaw05_WhistleDecodes.j1 k l0 l1 s true) true := fun s => Ev.step (fun k => by rw [wigeonlaw05_WhistleDecodes.j1]) (Ev.ifp rfl (known_bind rfl))
    by_cases hv : valP l0 = 0
    · by_cases hz : msgP l0 l1 = 0
      · have e : sndP l0 l1 = (soundB l0 l1, 0) := by
          unfold sndP
          rw [if_neg (fun h => h hv), if_neg (fun h => h hz)]
        rw [e]
        refine Ev.ifp rfl ?_
        by_cases h60 : ((soundB l0 l1).size : Int) > 60
        · rw [decide_eq_true h60]; exact hend _
        · rw [decide_eq_false h60]
          have v := valP_zero.1 hv
          obtain ⟨_, hall⟩ := msgP_zero hz
          have o : TextOk l0 (soundB l0 l1) := ⟨v, by omega, sound_text v hall⟩
          have hx := textP_zero.2 o
          have hww : wayT l0 (soundB l0 l1) 0 = ways l0 (mws l0 l1).flatten := by
            unfold wayT
            rw [List.drop_zero, sound_words]
          have hge : 1 ≤ wayT l0 (soundB l0 l1) 0 := by rw [hww]; exact ways_msg v _ (msg_words hall)
          obtain ⟨m, e1, _, h3, h4, h5⟩ := decode_both hS o (by omega)
          have hsz : (soundB l0 l1).size ≤ 140737488351232 := by have := o.few; omega
          refine Ev.step (fun k => by rw [wigeonlaw05_WhistleDecodes.j1]) (Ev.ifn (by decide) (Ev.bind (Heard_ev hS _ hsz) (Ev.bind e1 (Ev.bind (safe_ev hS) ?_))))
          have es : safeP l0 = (safeB l0, 0) := if_pos hv
          rw [heardP_ok hx, es]
          refine Ev.ifp rfl (Ev.ifp rfl (Ev.ifp rfl (Ev.ifp rfl ?_)))
          have hlt : decide (((wayT l0 (soundB l0 l1) 0 : Nat) : Int) < 1) = false := decide_eq_false (by omega)
          show Ev (fun k => wigeonlaw05_WhistleDecodes.j2 k l1 ((wayT l0 (soundB l0 l1) 0 : Nat) : Int) m (safeB l0) (decide (((wayT l0 (soundB l0 l1) 0 : Nat) : Int) < 1))) true
          rw [hlt]
          refine Ev.step (fun k => by rw [wigeonlaw05_WhistleDecodes.j2]) (Ev.ifn (by decide) ?_)
          by_cases hsafe : safeB l0 = true
          · have sf := safeB_iff.1 hsafe
            have h1 := safe_one v sf (mws l0 l1).flatten
            have hml : m.length < bigC := Nat.lt_of_le_of_lt (Nat.le_trans h5 o.few) (by decide)
            have hme : m = l1 := by
              refine mws_inj v.nodup h3 hall ?_
              by_cases q : mws l0 m = mws l0 l1
              · exact q
              · refine absurd ⟨_, _, msg_words h3, msg_words hall, q, ?_⟩ ((safe_iff v).1 sf)
                rw [← sound_words, ← sound_words, h4]
            refine Ev.ifp hsafe (Ev.ifp (by rw [hww] at hge ⊢; omega) (Ev.bind (sameI_ev _ _ hml) (Ev.ifp ?_ (known_bind rfl))))
            rw [hme]; simp
          · exact Ev.ifn hsafe (known_bind rfl)
      · have e : sndP l0 l1 = (⟨#[]⟩, msgP l0 l1) := by
          unfold sndP
          rw [if_neg (fun h => h hv), if_pos hz]
        rw [e]
        exact Ev.ifn hz (hend _)
    · have e : sndP l0 l1 = (⟨#[]⟩, valP l0) := by
        unfold sndP
        rw [if_pos hv]
      rw [e]
      exact Ev.ifn hv (hend _)
  · exact Ev.ifp rfl (Ev.step (fun k => by rw [wigeonlaw05_WhistleDecodes.j0]) (Ev.ifp rfl (known_bind rfl)))
end Go.Proofs.Ytpkafcoflgbnaaa.Pure
