/- The law RingSums, as a statement on lists alone: sums and check digits are the reference's, and a list with its check digit has the sum 0. For all lists. -/
import Derived.Test.YtlbhighbhchdmaaQx3
import Derived.Test.YtlbhighbhchdmaaLibC
namespace Go.Proofs.Ytlbhighbhchdmaa.Pure
open Go.RowKit Go.Proofs.Ytlbhighbhchdmaa.Q Go.Proofs.YtlbhighbhchdmaaW.PrintWords Go.Proofs.YtlbhighbhchdmaaW.PrintLast

theorem CheckP_ok {l : List Int} (h : (CheckP l).2 = 0) : ∃ m : List Nat, l = m.map (fun n : Nat => (n : Int)) ∧ Digs m ∧ m.length ≤ 11 ∧ CheckP l = (((ud (sum0 m 1) : Nat) : Int), 0) := by
  unfold CheckP at h ⊢
  split at h
  · rename_i h0
    obtain ⟨hl, hd⟩ := listedP_zero h0
    obtain ⟨m, rfl, hm⟩ := digs_of l hd
    rw [List.length_map] at hl
    exact ⟨m, rfl, hm, by omega, by rw [if_pos h0, map_toNat]⟩
  · rename_i h0
    exact absurd h h0
theorem SumP_digs {m : List Nat} (hm : Digs m) (hl : m.length ≤ 12) : SumP (m.map (fun n : Nat => (n : Int))) = (((sum0 m 0 : Nat) : Int), 0) := by
  unfold SumP
  rw [if_pos (listedP_of (by rw [List.length_map]; omega) fun x hx => ?_), map_toNat]
  obtain ⟨y, hy, rfl⟩ := List.mem_map.1 hx
  have := hm.mem hy
  omega
theorem RingSums : wigeonlaw01_RingSums.Pure := by
  intro l hmax _ _
  refine Ev.rounds (?_ : Ev (fun k => wigeonlaw01_RingSums.f k l) true)
  unfold wigeonlaw01_RingSums.f
  by_cases h60 : (l.length : Int) > 60
  · exact Ev.ifp h60 known_bind
  · refine Ev.ifn h60 (Ev.bind (Sum_ev l) (Ev.bind (rSum_ev l) (Ev.bind (check_ev l) (Ev.bind (rCheck_ev l) ?_))))
    refine Ev.ifp rfl (Ev.ifp rfl (Ev.ifp rfl ?_))
    refine Ev.step (fun k => by rw [wigeonlaw01_RingSums.j0]) (Ev.ifn (by simp) ?_)
    by_cases h : (CheckP l).2 = 0
    · refine Ev.ifp h ?_
      obtain ⟨m, rfl, hm, hl, e⟩ := CheckP_ok h
      rw [e]
      refine Ev.some_bind (Ev.ifp (by simp only [List.length_map, List.length_nil]; omega) (Ev.some_bind (Ev.ifp (by simp only [List.length_append, List.length_map, List.length_nil]; omega) ?_)))
      have e2 : ([] ++ m.map (fun n : Nat => (n : Int))) ++ [((ud (sum0 m 1) : Nat) : Int)] = (m ++ [ud (sum0 m 1)]).map (fun n : Nat => (n : Int)) := by simp
      rw [e2]
      refine Ev.bind (Sum_ev _) ?_
      rw [SumP_digs (hm.snoc (ud_lt (sum0_lt hm 1))) (by simp; omega), check_zero hm]
      exact Ev.ifp rfl (Ev.ifp rfl known_bind)
    · exact Ev.ifn h known_bind

end Go.Proofs.Ytlbhighbhchdmaa.Pure
