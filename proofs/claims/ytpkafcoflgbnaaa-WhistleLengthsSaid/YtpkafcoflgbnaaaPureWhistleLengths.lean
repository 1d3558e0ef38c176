import Derived.Test.YtpkafcoflgbnaaaQx21
import Derived.Test.YtpkafcoflgbnaaaLibM
namespace Go.Proofs.Ytpkafcoflgbnaaa.Pure
open Go.RowKit Go.Proofs.Ytpkafcoflgbnaaa.Q Go.Proofs.YtpkafcoflgbnaaaW.PrintWords Go.Proofs.YtpkafcoflgbnaaaW.PrintLast
set_option linter.unusedVariables false

/-! WhistleLengths, plainly. -/

theorem lengths_l0 {l : List Int} (h : lenB l = true) (hf : fillN l ≤ 4096) (d : Nat) : ∀ i, i + d = l.length → Ev (fun k => wigeonlaw05_WhistleLengths.l0 k l (canonP l) (i : Int) (redI (fillN l) 12).1 (redI (fillN l) 12).2) true := by
  obtain ⟨h0, hl⟩ := lenB_iff.1 h
  have hlen := hl.1
  have hcl := canonP_len l
  have v := canonP_valid hl h0 hf
  have hS : Sized (canonP l) := fun s hs => Nat.le_trans (v.size12 s hs) (by decide)
  induction d with
  | zero =>
    intro i hi
    refine Ev.step (fun k => by rw [wigeonlaw05_WhistleLengths.l0]) (Ev.ifn (by omega) (Ev.bind (pre_ev hS) (Ev.bind (kraft_ev hS) ?_)))
    have e1 : preP (canonP l) = (true, 0) := by unfold preP; rw [if_pos (valP_zero.2 v), canonP_pre hl hf]
    have e2 : kraftP (canonP l) = ((redI (fillN l) 12).1, (redI (fillN l) 12).2, 0) := by unfold kraftP; rw [if_pos (valP_zero.2 v), canonP_lens hl]
    rw [e1, e2]
    exact Ev.ifp rfl (Ev.ifp rfl (Ev.ifp rfl (Ev.ifp (by simp) (known_bind rfl))))
  | succ d ih =>
    intro i hi
    refine Ev.step (fun k => by rw [wigeonlaw05_WhistleLengths.l0, rdOf_gt, w64s (show i < 1000000000000000000 by omega)]) (Ev.ifp (by omega) (Ev.ifp (by omega) (Ev.ifp (by omega) (Ev.ifp ?_ (ih (i + 1) (by omega))))))
    rw [canonP_size hl (show i < l.length by omega)]
    exact (Ln_ok hl (by omega)).2.2
theorem WhistleLengths : wigeonlaw05_WhistleLengths.Pure := by
  intro l0 hm hx hw
  refine Ev.rounds ?_
  unfold wigeonlaw05_WhistleLengths.f
  by_cases h60 : (l0.length : Int) > 60
  · exact Ev.ifp h60 (known_bind rfl)
  refine Ev.ifn h60 (Ev.bind (from_ev l0) (Ev.bind (rfrom_ev l0) (Ev.bind (fill_ev l0) (Ev.bind (rfill_ev l0) ?_))))
  have hlen : (fromP l0).1.length < bigC := by
    have : (fromP l0).1.length ≤ l0.length := by
      unfold fromP
      split
      · split
        · exact Nat.le_of_eq (canonP_len l0)
        · exact Nat.zero_le _
      · exact Nat.zero_le _
    unfold bigC; omega
  refine Ev.bind (sameT_ev _ _ hlen) (Ev.ifp (by simp) (Ev.ifp rfl (Ev.ifn (by simp) ?_)))
  refine Ev.step (fun k => by rw [wigeonlaw05_WhistleLengths.j0]) (Ev.ifn (by simp) ?_)
  unfold fromP
  by_cases h : lenB l0 = true
  · rw [if_pos h]
    by_cases hf : fillN l0 ≤ 4096
    · rw [if_pos hf]
      have e : fillP l0 = ((redI (fillN l0) 12).1, (redI (fillN l0) 12).2, 0) := if_pos h
      rw [e]
      exact Ev.ifp rfl (lengths_l0 h hf l0.length 0 (by omega))
    · rw [if_neg hf]
      exact Ev.ifn (by decide) (known_bind rfl)
  · rw [if_neg h]
    exact Ev.ifn (by decide) (known_bind rfl)
end Go.Proofs.Ytpkafcoflgbnaaa.Pure
