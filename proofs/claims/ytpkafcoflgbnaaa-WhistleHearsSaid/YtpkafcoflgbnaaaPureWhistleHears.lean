import Derived.Test.YtpkafcoflgbnaaaQx33
import Derived.Test.YtpkafcoflgbnaaaLibT
namespace Go.Proofs.Ytpkafcoflgbnaaa.Pure
open Go.RowKit Go.Proofs.Ytpkafcoflgbnaaa.Q Go.Proofs.YtpkafcoflgbnaaaW.PrintWords Go.Proofs.YtpkafcoflgbnaaaW.PrintLast
set_option linter.unusedVariables false

/-! WhistleHears, plainly. -/

theorem WhistleHears (l0 : List ByteArray) (a1 : ByteArray) (h0 : (l0.length ≤ maxLen ∧ l0.length * 16 ≤ 140737488351232 ∧ ∀ y ∈ l0, y.size ≤ 140737488351232)) (h1 : a1.size ≤ 140737488351232) : ∃ k, wigeonlaw05_WhistleHears.f k l0 a1 = some true := by
  refine Ev.rounds ?_
  have hS : Sized l0 := h0.2.2
  unfold wigeonlaw05_WhistleHears.f
  refine Ev.bind (long_ev l0 (by unfold bigC; omega)) ?_
  cases longP l0
  · refine Ev.ifn (by decide) (Ev.step (fun k => by rw [wigeonlaw05_WhistleHears.j0]) ?_)
    by_cases h200 : (a1.size : Int) > 200
    · exact Ev.ifp (decide_eq_true h200) (known_bind rfl)
    · refine Ev.ifn (by rw [decide_eq_true_eq]; exact h200) (Ev.bind (Heard_ev hS a1 h1) (Ev.bind (rHeard_ev hS a1 h1) ?_))
      by_cases hx : textP l0 a1 = 0
      · have o := textP_zero.1 hx
        have hf := o.few
        by_cases hw : wayT l0 a1 0 = 0
        · obtain ⟨e1, e2⟩ := decode_zero hS o hw
          refine Ev.bind e1 (Ev.bind e2 (Ev.ifp rfl (Ev.ifp rfl (Ev.bind (sameI_ev _ _ (show (0 : Nat) < bigC by decide)) (Ev.ifp (by simp) (Ev.ifn (by simp) ?_))))))
          refine Ev.step (fun k => by rw [wigeonlaw05_WhistleHears.j1]) (Ev.ifn (by simp) (Ev.bind (sound_ev l0 [] hS (show (0 : Nat) < bigC by decide)) ?_))
          exact Ev.ifn (by decide) (known_bind rfl)
        · obtain ⟨m, e1, e2, h3, h4, h5⟩ := decode_both hS o hw
          have hm : m.length < bigC := Nat.lt_of_le_of_lt (Nat.le_trans h5 hf) (by decide)
          refine Ev.bind e1 (Ev.bind e2 (Ev.ifp rfl (Ev.ifp rfl (Ev.bind (sameI_ev _ _ hm) (Ev.ifp (by simp) (Ev.ifn (by simp) ?_))))))
          refine Ev.step (fun k => by rw [wigeonlaw05_WhistleHears.j1]) (Ev.ifn (by simp) (Ev.bind (sound_ev l0 m hS hm) ?_))
          have hz : msgP l0 m = 0 := by unfold msgP; rw [if_neg (by omega), if_pos h3]
          have e : sndP l0 m = (a1, 0) := by
            unfold sndP
            rw [if_neg (fun h => h (valP_zero.2 o.valid)), if_neg (fun h => h hz), h4]
          rw [e, heardP_ok hx]
          refine Ev.ifp rfl (Ev.ifp rfl (Ev.ifp rfl (Ev.ifp ?_ (known_bind rfl))))
          show ((wayT l0 a1 0 : Nat) : Int) > 0
          omega
      · obtain ⟨e1, e2⟩ := decode_none hS h1 hx
        refine Ev.bind e1 (Ev.bind e2 (Ev.ifp rfl (Ev.ifp rfl (Ev.bind (sameI_ev _ _ (show (0 : Nat) < bigC by decide)) (Ev.ifp (by simp) (Ev.ifn (by simp) ?_))))))
        refine Ev.step (fun k => by rw [wigeonlaw05_WhistleHears.j1]) (Ev.ifn (by simp) (Ev.bind (sound_ev l0 [] hS (show (0 : Nat) < bigC by decide)) ?_))
        exact Ev.ifn (show ¬ (false = true) by decide) (known_bind rfl)
  · exact Ev.ifp rfl (Ev.step (fun k => by rw [wigeonlaw05_WhistleHears.j0]) (Ev.ifp rfl (known_bind rfl)))
end Go.Proofs.Ytpkafcoflgbnaaa.Pure
