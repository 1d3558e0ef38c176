import Derived.Test.YtpkafcoflgbnaaaQx28
import Derived.Test.YtpkafcoflgbnaaaZCommands
namespace Go.Proofs.Ytpkafcoflgbnaaa.Pure
open Go.RowKit Go.Proofs.Ytpkafcoflgbnaaa.Q Go.Proofs.YtpkafcoflgbnaaaW.PrintWords Go.Proofs.YtpkafcoflgbnaaaW.PrintLast
set_option linter.unusedVariables false

/-! WhistleCommands, plainly. -/

theorem cmds_l0 {C q : List ByteArray} {t r : ByteArray} (hS : Sized C) (o : TextOk C t) (w : Told C t q r) (d : Nat) : ∀ (i : Nat) (S : ByteArray), i + d = q.length → bs S ++ ((q.drop i).map bs).flatten ++ bs r = bs t → Ev (fun k => wigeonlaw05_WhistleCommands.l0 k C t q r S (i : Int)) true := by
  have ht := o.few
  have hx := textP_zero.2 o
  have hq := w.few
  induction d with
  | zero =>
    intro i S hi hs
    rw [List.drop_eq_nil_of_le (by omega), List.map_nil, List.flatten_nil, List.append_nil] at hs
    have hz : S.size + r.size = t.size := by
      have := congrArg List.length hs
      rw [List.length_append, bs_len, bs_len, bs_len] at this; exact this
    have he : S ++ r = t := bs_inj (by rw [bs_app]; exact hs)
    refine Ev.step (fun k => by rw [wigeonlaw05_WhistleCommands.l0]) (Ev.ifn (by omega) (Ev.bind (pre_ev hS) (Ev.bind (Heard_ev hS t (by omega)) ?_)))
    have e1 : preP C = (preB C, 0) := if_pos (valP_zero.2 o.valid)
    rw [e1, heardP_ok hx, he]
    refine Ev.ifp (by omega) (Ev.ifp rfl (Ev.ifp rfl (Ev.ifp rfl ?_)))
    by_cases hp : preB C = true
    · have hw : wayT C t 0 = if bs r = [] then 1 else 0 := by
        unfold wayT
        rw [List.drop_zero, w.ways hp, ways_stop o.valid w.stop]
      refine Ev.ifp hp (Ev.ifp ?_ (Ev.ifp ?_ (known_bind rfl)))
      · show ((wayT C t 0 : Nat) : Int) ≤ 1
        rw [hw]; split <;> decide
      · show ((((wayT C t 0 : Nat) : Int) == 1) == (r.toList == [])) = true
        rw [hw, toList_bs]
        by_cases e : bs r = []
        · rw [if_pos e, e]; rfl
        · rw [if_neg e]
          have : (bs r == []) = false := beq_eq_false_iff_ne.2 e
          rw [this]; rfl
    · exact Ev.ifn hp (known_bind rfl)
  | succ d ih =>
    intro i S hi hs
    rw [drop_gt (show i < q.length by omega), List.map_cons, List.flatten_cons] at hs
    have hz : S.size + (gt q i).size ≤ t.size := by
      have := congrArg List.length hs
      simp only [List.length_append, bs_len] at this; omega
    refine Ev.step (fun k => by rw [wigeonlaw05_WhistleCommands.l0, rdOf_gt, w64s (show i < 1000000000000000000 by omega)]) (Ev.ifp (by omega) (Ev.ifp (by omega) (Ev.ifp (by omega) ?_)))
    refine ih (i + 1) _ (by omega) ?_
    rw [bs_app, List.append_assoc (bs S)]
    exact hs
theorem WhistleCommands (l0 : List ByteArray) (a1 : ByteArray) (h0 : (l0.length ≤ maxLen ∧ l0.length * 16 ≤ 140737488351232 ∧ ∀ y ∈ l0, y.size ≤ 140737488351232)) (h1 : a1.size ≤ 140737488351232) : ∃ k, wigeonlaw05_WhistleCommands.f k l0 a1 = some true := by
  refine Ev.rounds ?_
  have hS : Sized l0 := h0.2.2
  unfold wigeonlaw05_WhistleCommands.f
  refine Ev.bind (long_ev l0 (by unfold bigC; omega)) ?_
  cases longP l0
  · refine Ev.ifn (by decide) (Ev.step (fun k => by rw [wigeonlaw05_WhistleCommands.j0]) ?_)
    by_cases h200 : (a1.size : Int) > 200
    · exact Ev.ifp (decide_eq_true h200) (known_bind rfl)
    · refine Ev.ifn (by rw [decide_eq_true_eq]; exact h200) ?_
      by_cases hx : textP l0 a1 = 0
      · have o := textP_zero.1 hx
        have hf := o.few
        obtain ⟨q, r, e1, e2, w⟩ := commands_both hS o
        have hq := w.few
        refine Ev.bind e1 (Ev.bind e2 (Ev.bind (sameT_ev _ _ (Nat.lt_of_le_of_lt (Nat.le_trans hq hf) (by decide))) (Ev.ifp (by simp) (Ev.ifp rfl ?_))))
        refine Ev.step (fun k => by rw [wigeonlaw05_WhistleCommands.j1]) (Ev.ifn (by simp) (Ev.ifp rfl ?_))
        exact cmds_l0 hS o w q.length 0 _ (by omega) (by rw [List.drop_zero]; exact w.whole)
      · obtain ⟨e1, e2⟩ := commands_none hS h1 hx
        refine Ev.bind e1 (Ev.bind e2 (Ev.bind (sameT_ev _ _ (show (0 : Nat) < bigC by decide)) (Ev.ifp (by simp) (Ev.ifp rfl ?_))))
        exact Ev.step (fun k => by rw [wigeonlaw05_WhistleCommands.j1]) (Ev.ifn (by simp) (Ev.ifn hx (known_bind rfl)))
  · exact Ev.ifp rfl (Ev.step (fun k => by rw [wigeonlaw05_WhistleCommands.j0]) (Ev.ifp rfl (known_bind rfl)))
end Go.Proofs.Ytpkafcoflgbnaaa.Pure
