/- The law WhistleSounds, as a statement on lists alone: which codes are valid and how a message sounds are the reference's answers. For all codes and messages. -/
import Derived.Test.YtpkafcoflgbnaaaQx13
import Derived.Test.YtpkafcoflgbnaaaLibD
namespace Go.Proofs.Ytpkafcoflgbnaaa.Pure
open Go.RowKit Go.Proofs.Ytpkafcoflgbnaaa.Q Go.Proofs.YtpkafcoflgbnaaaW.PrintWords Go.Proofs.YtpkafcoflgbnaaaW.PrintLast
set_option linter.unusedVariables false

theorem sounds_j0 (C : List ByteArray) (m : List Int) (b : Bool) (hS : Sized C) (hm : m.length < bigC) : Ev (fun k => wigeonlaw05_WhistleSounds.j0 k C m b) true := by
  cases b
  · refine Ev.step (fun k => by rw [wigeonlaw05_WhistleSounds.j0]) (Ev.ifn (by decide) ?_)
    refine Ev.bind (sound_ev C m hS hm) (Ev.bind (rSound_ev C m hS hm) (Ev.bind (val_ev C hS) (Ev.bind (rval_ev C hS) ?_)))
    exact Ev.ifp rfl (Ev.ifp rfl (Ev.ifp rfl (known_bind rfl)))
  · exact Ev.step (fun k => by rw [wigeonlaw05_WhistleSounds.j0]) (Ev.ifp rfl (known_bind rfl))
theorem WhistleSounds (l0 : List ByteArray) (l1 : List Int) (h0 : (l0.length ≤ maxLen ∧ l0.length * 16 ≤ 140737488351232 ∧ ∀ y ∈ l0, y.size ≤ 140737488351232)) (h1 : (l1.length ≤ maxLen ∧ l1.length * 8 ≤ 140737488351232 ∧ ∀ y ∈ l1, (Lit.int .i64 y).wf = true)) : ∃ k, wigeonlaw05_WhistleSounds.f k l0 l1 = some true := by
  refine Ev.rounds ?_
  have hS : Sized l0 := h0.2.2
  have hm : l1.length < bigC := by unfold bigC; omega
  unfold wigeonlaw05_WhistleSounds.f
  refine Ev.bind (long_ev l0 (by unfold bigC; omega)) ?_
  cases longP l0
  · exact Ev.ifn (by decide) (Ev.bindc rfl (sounds_j0 l0 l1 _ hS hm))
  · exact Ev.ifp rfl (sounds_j0 l0 l1 _ hS hm)
end Go.Proofs.Ytpkafcoflgbnaaa.Pure
