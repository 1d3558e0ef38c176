/- The law WhistleEnds, as a statement on lists alone: what can be left over is the reference's answer, and a code is safe exactly if no signal is. For all codes. -/
import Derived.Test.YtpkafcoflgbnaaaQx17
import Derived.Test.YtpkafcoflgbnaaaLibF
namespace Go.Proofs.Ytpkafcoflgbnaaa.Pure
open Go.RowKit Go.Proofs.Ytpkafcoflgbnaaa.Q Go.Proofs.YtpkafcoflgbnaaaW.PrintWords Go.Proofs.YtpkafcoflgbnaaaW.PrintLast
set_option linter.unusedVariables false

theorem ends_l1 {C R : List ByteArray} (hC : C.length ≤ 12) (hR : R.length ≤ 156) (i : Nat) (hi : i < R.length) (d : Nat) : ∀ (j : Nat) (b : Bool), j + d = C.length → Ev (fun k => wigeonlaw05_WhistleEnds.l0 k C R (b || Go.Lib.containsS (C.drop j) (gt R i)) ((i + 1 : Nat) : Int)) true → Ev (fun k => wigeonlaw05_WhistleEnds.l1 k C R b (i : Int) (j : Int)) true := by
  induction d with
  | zero =>
    intro j b hj h
    rw [List.drop_eq_nil_of_le (by omega), inS_false (by simp), Bool.or_false] at h
    refine Ev.step (fun k => by rw [wigeonlaw05_WhistleEnds.l1]) (Ev.ifn (by omega) ?_)
    rw [w64s (by omega)]
    exact h
  | succ d ih =>
    intro j b hj h
    rw [drop_gt (show j < C.length by omega)] at h
    have hw := w64s (show j < 1000000000000000000 by omega)
    cases b
    · refine Ev.step (fun k => by rw [wigeonlaw05_WhistleEnds.l1, rdOf_gt, rdOf_gt, hw]) (Ev.ifp (by omega) (Ev.ifn (by decide) (Ev.ifp (by omega) (Ev.ifp (by omega) (Ev.ifp (by omega) ?_)))))
      by_cases e : gt R i = gt C j
      · rw [show ((gt R i).toList == (gt C j).toList) = true by rw [e]; simp]
        refine ih (j + 1) true (by omega) ?_
        rw [Bool.true_or]
        rwa [inS_true (show gt R i ∈ gt C j :: C.drop (j + 1) by rw [e]; simp), Bool.or_true] at h
      · rw [show ((gt R i).toList == (gt C j).toList) = false from beq_eq_false_iff_ne.2 (fun h => e (str_eq.1 h))]
        refine ih (j + 1) false (by omega) ?_
        rwa [inS_eq (l := gt C j :: C.drop (j + 1)) (m := C.drop (j + 1)) (x := gt R i) (y := gt R i) (by rw [List.mem_cons]; exact ⟨fun h => h.resolve_left e, .inr⟩)] at h
    · refine Ev.step (fun k => by rw [wigeonlaw05_WhistleEnds.l1, hw]) (Ev.ifp (by omega) (Ev.ifp rfl ?_))
      refine ih (j + 1) true (by omega) ?_
      rw [Bool.true_or] at h ⊢
      exact h
theorem ends_l0 {C R : List ByteArray} (v : Valid C) (hS : Sized C) (hR : R.length ≤ 156) (d : Nat) : ∀ (i : Nat) (b : Bool), i + d = R.length → safeB C = !(b || (R.drop i).any (Go.Lib.containsS C)) → Ev (fun k => wigeonlaw05_WhistleEnds.l0 k C R b (i : Int)) true := by
  have hC := v.few
  induction d with
  | zero =>
    intro i b hi h
    rw [List.drop_eq_nil_of_le (by omega), List.any_nil, Bool.or_false] at h
    refine Ev.step (fun k => by rw [wigeonlaw05_WhistleEnds.l0]) (Ev.ifn (by omega) (Ev.bind (safe_ev hS) ?_))
    have e : safeP C = (safeB C, 0) := if_pos (valP_zero.2 v)
    rw [e]
    refine Ev.ifp rfl (Ev.ifp ?_ (known_bind rfl))
    rw [h]; simp
  | succ d ih =>
    intro i b hi h
    rw [drop_gt (show i < R.length by omega), List.any_cons, ← Bool.or_assoc] at h
    refine Ev.step (fun k => by rw [wigeonlaw05_WhistleEnds.l0]) (Ev.ifp (by omega) ?_)
    have := ends_l1 hC hR i (by omega) C.length 0 b (by omega)
    rw [List.drop_zero] at this
    exact this (ih (i + 1) _ (by omega) h)
theorem WhistleEnds (l0 : List ByteArray) (h0 : (l0.length ≤ maxLen ∧ l0.length * 16 ≤ 140737488351232 ∧ ∀ y ∈ l0, y.size ≤ 140737488351232)) : ∃ k, wigeonlaw05_WhistleEnds.f k l0 = some true := by
  refine Ev.rounds ?_
  have hS : Sized l0 := h0.2.2
  unfold wigeonlaw05_WhistleEnds.f
  refine Ev.bind (long_ev l0 (by unfold bigC; omega)) ?_
  cases longP l0
  · refine Ev.ifn (by decide) ?_
    by_cases hv : valP l0 = 0
    · have v := valP_zero.1 hv
      obtain ⟨R, h1, h2, hm, hl⟩ := ends_both v hS
      refine Ev.bind h1 (Ev.bind h2 (Ev.bind (sameT_ev R R (by unfold bigC; omega)) (Ev.ifp (by simp) ?_)))
      refine Ev.step (fun k => by rw [wigeonlaw05_WhistleEnds.j0]) (Ev.ifn (by simp) (Ev.ifp rfl ?_))
      refine ends_l0 v hS hl R.length 0 false (by omega) ?_
      rw [List.drop_zero, Bool.false_or, Bool.eq_iff_iff, safeB_iff, Bool.not_eq_true', Bool.eq_false_iff]
      unfold Safe
      refine not_congr ?_
      rw [List.any_eq_true]
      exact ⟨fun ⟨s, h1, h2⟩ => ⟨s, (hm s).2 h2, inS_iff.2 h1⟩, fun ⟨s, h1, h2⟩ => ⟨s, inS_iff.1 h2, (hm s).1 h1⟩⟩
    · obtain ⟨h1, h2⟩ := ends_none hS hv
      refine Ev.bind h1 (Ev.bind h2 (Ev.bind (sameT_ev [] [] (by decide)) (Ev.ifp (by simp) ?_)))
      exact Ev.step (fun k => by rw [wigeonlaw05_WhistleEnds.j0]) (Ev.ifn (by simp) (Ev.ifn hv (known_bind rfl)))
  · exact Ev.ifp rfl (known_bind rfl)
end Go.Proofs.Ytpkafcoflgbnaaa.Pure
