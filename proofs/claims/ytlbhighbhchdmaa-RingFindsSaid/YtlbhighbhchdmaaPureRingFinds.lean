/- The law RingFinds, as a statement on lists alone: behind a check digit no wrong digit, and no exchange of two different neighbors, leaves the sum 0. For all lists and numbers. -/
import Derived.Test.YtlbhighbhchdmaaQx4
import Derived.Test.YtlbhighbhchdmaaLibC
namespace Go.Proofs.Ytlbhighbhchdmaa.Pure
open Go.RowKit Go.Proofs.Ytlbhighbhchdmaa.Q Go.Proofs.YtlbhighbhchdmaaW.PrintWords Go.Proofs.YtlbhighbhchdmaaW.PrintLast

theorem CheckP_fine {l : List Int} (h : (CheckP l).2 = 0) : ∃ m : List Nat, l = m.map (fun n : Nat => (n : Int)) ∧ Digs m ∧ m.length ≤ 11 ∧ CheckP l = (((ud (sum0 m 1) : Nat) : Int), 0) := by
  unfold CheckP at h ⊢
  split at h
  · rename_i h0
    obtain ⟨hl, hd⟩ := listedP_zero h0
    obtain ⟨m, rfl, hm⟩ := digs_of l hd
    rw [List.length_map] at hl
    exact ⟨m, rfl, hm, by omega, by rw [if_pos h0, map_toNat]⟩
  · rename_i h0
    exact absurd h h0
theorem SumP_nat {m : List Nat} (hm : Digs m) (hl : m.length ≤ 12) : SumP (m.map (fun n : Nat => (n : Int))) = (((sum0 m 0 : Nat) : Int), 0) := by
  unfold SumP
  rw [if_pos (listedP_of (by rw [List.length_map]; omega) fun x hx => ?_), map_toNat]
  obtain ⟨y, hy, rfl⟩ := List.mem_map.1 hx
  have := hm.mem hy
  omega
theorem place_of (x : Int) (n : Nat) (h0 : 0 < n) (h1 : n < 1000) : ∃ j : Nat, j < n ∧ wrap64 (Int.tmod (IntKind.u64.wrap x) (IntKind.u64.wrap (n : Int))) = (j : Int) := by
  have e : ∀ y : Int, IntKind.u64.wrap y = y % 18446744073709551616 := fun y => by simp [IntKind.wrap, IntKind.signed, IntKind.bits]
  rw [e, e, Int.emod_eq_of_lt (a := (n : Int)) (by omega) (by omega)]
  have h2 : 0 ≤ x % 18446744073709551616 := Int.emod_nonneg _ (by decide)
  rw [Int.tmod_eq_emod_of_nonneg h2]
  have h3 : 0 ≤ (x % 18446744073709551616) % (n : Int) := Int.emod_nonneg _ (by omega)
  have h4 : (x % 18446744073709551616) % (n : Int) < n := Int.emod_lt_of_pos _ (by omega)
  refine ⟨((x % 18446744073709551616) % (n : Int)).toNat, by omega, ?_⟩
  rw [w64 (by omega) (by omega)]
  omega
theorem getD_set_ne (l : List Nat) (k i x : Nat) (h : i ≠ k) : (l.set k x).getD i 0 = l.getD i 0 := by
  rw [List.getD_eq_getElem?_getD, List.getD_eq_getElem?_getD, List.getElem?_set_ne (Ne.symm h)]
theorem getD_set_self (l : List Nat) (k x : Nat) (h : k < l.length) : (l.set k x).getD k 0 = x := by
  rw [List.getD_eq_getElem?_getD, List.getElem?_set_self h]; rfl
theorem Digs.set {l : List Nat} (hl : Digs l) {x : Nat} (hx : x < 10) (k : Nat) : Digs (l.set k x) := by
  refine Digs.of fun y hy => ?_
  rcases List.mem_or_eq_of_mem_set hy with h | h
  · exact hl.mem h
  · omega
theorem finds_wrong {m : List Nat} (hm : Digs m) (h0 : sum0 m 0 = 0) {k x : Nat} (hk : k < m.length) (hx : x < 10) (hne : m.getD k 0 ≠ x) : sum0 (m.set k x) 0 ≠ 0 := by
  intro h
  unfold sum0 at h h0
  rw [List.length_set] at h
  refine sumN_wrong (l := m) (m := m.set k x) hm (hm.set hx k) (by rw [List.length_set]) 0 k (fun i hi => (getD_set_ne m k i x hi).symm) ?_ m.length hk (c := 0) (by decide) (h0.trans h.symm)
  rw [getD_set_self m k x hk]
  exact hne
theorem finds_swap {m : List Nat} (hm : Digs m) (h0 : sum0 m 0 = 0) {k : Nat} (hk : k + 1 < m.length) (hne : m.getD (k + 1) 0 ≠ m.getD k 0) : sum0 ((m.set (k + 1) (m.getD k 0)).set k (m.getD (k + 1) 0)) 0 ≠ 0 := by
  intro h
  unfold sum0 at h h0
  rw [List.length_set, List.length_set] at h
  refine sumN_swap (l := m) (m := (m.set (k + 1) (m.getD k 0)).set k (m.getD (k + 1) 0)) hm ((hm.set (hm k) _).set (hm (k + 1)) _) (by rw [List.length_set, List.length_set]) 0 k (fun i hi hj => ?_) ?_ ?_ (Ne.symm hne) m.length hk (Nat.le_refl _) (c := 0) (by decide) (h0.trans h.symm)
  · rw [getD_set_ne _ k i _ hi, getD_set_ne _ (k + 1) i _ hj]
  · rw [getD_set_ne _ k (k + 1) _ (by omega), getD_set_self m (k + 1) _ hk]
  · rw [getD_set_self _ k _ (by rw [List.length_set]; omega)]
theorem map_set (m : List Nat) (k x : Nat) : (m.map (fun n : Nat => (n : Int))).set k (x : Int) = (m.set k x).map (fun n : Nat => (n : Int)) := by
  rw [List.map_set]
theorem finds_j2 {m : List Nat} (hm : Digs m) (h0 : sum0 m 0 = 0) (hl : m.length ≤ 12) (k : Nat) (hk : k < m.length) :
    Ev (fun n => wigeonlaw01_RingFinds.j2 n (m.map (fun n : Nat => (n : Int))) (k : Int)) true := by
  refine Ev.step (fun n => by rw [wigeonlaw01_RingFinds.j2]) ?_
  by_cases hz : k = 0
  · subst hz
    refine Ev.ifn (by decide) (Ev.step (fun n => by rw [wigeonlaw01_RingFinds.j3]) ?_)
    exact Ev.ifn (by decide) known_bind
  · obtain ⟨j, rfl⟩ : ∃ j, k = j + 1 := ⟨k - 1, by omega⟩
    have ew : wrap64 (((j + 1 : Nat) : Int) - 1) = (j : Int) := by rw [w64 (by omega) (by omega)]; omega
    rw [ew, List.length_map, rd_map, rd_map]
    refine Ev.ifp (by omega) (Ev.ifp (by omega) (Ev.ifp (by omega) (Ev.ifp (by omega) (Ev.ifp (by omega) ?_))))
    refine Ev.step (fun n => by rw [wigeonlaw01_RingFinds.j3]) ?_
    rw [ew, List.length_map, rd_map, rd_map]
    by_cases hne : m.getD (j + 1) 0 = m.getD j 0
    · exact Ev.ifn (by rw [hne]; simp) known_bind
    · refine Ev.ifp (by simp only [bne_iff_ne]; omega) (Ev.ifp (by omega) (Ev.ifp (by omega) (Ev.ifp (by omega) (Ev.ifp (by omega) ?_))))
      rw [Int.toNat_natCast, Int.toNat_natCast, map_set, map_set]
      refine Ev.bind (Sum_ev _) ?_
      rw [SumP_nat ((hm.set (hm j) _).set (hm (j + 1)) _) (by rw [List.length_set, List.length_set]; exact hl)]
      have := finds_swap hm h0 hk hne
      exact Ev.ifp rfl (Ev.ifn (by omega) known_bind)
theorem RingFinds : wigeonlaw01_RingFinds.Pure := by
  intro l x d hmax _ _ _ _
  refine Ev.rounds (?_ : Ev (fun k => wigeonlaw01_RingFinds.f k l x d) true)
  have hj : ∀ b : Bool, (b = false → (l.length : Int) ≤ 11 ∧ l.length ≠ 0) → Ev (fun k => wigeonlaw01_RingFinds.j0 k l x d b) true := by
    intro b hb
    refine Ev.step (fun k => by rw [wigeonlaw01_RingFinds.j0]) ?_
    cases b with
    | true => exact Ev.ifp rfl known_bind
    | false =>
      obtain ⟨h11, hne⟩ := hb rfl
      refine Ev.ifn (by decide) (Ev.bind (check_ev l) ?_)
      have hj1 : ∀ b : Bool, (b = false → (CheckP l).2 = 0 ∧ 0 ≤ d ∧ d ≤ 9) → Ev (fun k => wigeonlaw01_RingFinds.j1 k l x d (CheckP l).1 b) true := by
        intro b hb
        refine Ev.step (fun k => by rw [wigeonlaw01_RingFinds.j1]) ?_
        cases b with
        | true => exact Ev.ifp rfl known_bind
        | false =>
          obtain ⟨hc, hd0, hd9⟩ := hb rfl
          obtain ⟨m, rfl, hm, hl, e⟩ := CheckP_fine hc
          obtain ⟨q, rfl⟩ := Int.eq_ofNat_of_zero_le hd0
          rw [List.length_map] at hne
          refine Ev.ifn (by decide) (Ev.some_bind (Ev.ifp (by simp only [List.length_map, List.length_nil]; omega) (Ev.some_bind (Ev.ifp (by simp only [List.length_append, List.length_map, List.length_nil]; omega) (Ev.some_bind ?_)))))
          rw [e]
          have hcl := ud_lt (sum0_lt hm 1)
          have hz := check_zero hm
          generalize ud (sum0 m 1) = c at hcl hz ⊢
          have e2 : ([] ++ m.map (fun n : Nat => (n : Int))) ++ [(c : Int)] = (m ++ [c]).map (fun n : Nat => (n : Int)) := by simp
          simp only [e2]
          have hp := hm.snoc hcl
          have hpl : (m ++ [c]).length = m.length + 1 := by simp
          generalize m ++ [c] = p at hp hz hpl ⊢
          obtain ⟨j, hj, ej⟩ := place_of x p.length (by omega) (by omega)
          rw [List.length_map, ej, rd_map]
          refine Ev.ifn ?_ (Ev.ifp (by omega) (Ev.ifp (by omega) ?_))
          · have e : ∀ y : Int, IntKind.u64.wrap y = y % 18446744073709551616 := fun y => by simp [IntKind.wrap, IntKind.signed, IntKind.bits]
            rw [e]
            omega
          · by_cases hq : ((p.getD j 0 : Nat) : Int) = (q : Int)
            · exact Ev.ifp hq (finds_j2 hp hz (by omega) j hj)
            · refine Ev.ifn hq (Ev.some_bind (Ev.ifp (by simp only [List.length_nil]; omega) (Ev.some_bind (Ev.ifp (by simp only [List.length_append, List.length_map, List.length_nil]; omega) ?_))))
              rw [List.nil_append, Int.toNat_natCast, map_set]
              refine Ev.bind (Sum_ev _) ?_
              rw [SumP_nat (hp.set (by omega) _) (by rw [List.length_set]; omega)]
              have := finds_wrong hp hz hj (show q < 10 by omega) (by omega)
              exact Ev.ifp rfl (Ev.ifn (by omega) (finds_j2 hp hz (by omega) j hj))
      by_cases hc : (CheckP l).2 = 0
      · refine Ev.ifp hc ?_
        by_cases hd : d < 0
        · exact Ev.ifp hd (hj1 _ fun h => by simp at h)
        · exact Ev.ifn hd (hj1 _ fun h => by simp at h; omega)
      · exact Ev.ifn hc (hj1 _ fun h => by simp at h)
  unfold wigeonlaw01_RingFinds.f
  by_cases h : (l.length : Int) > 11
  · exact Ev.ifp h (hj _ fun h => by simp at h)
  · exact Ev.ifn h (hj _ fun h => by simp at h; exact ⟨by omega, by simp [h]⟩)

end Go.Proofs.Ytlbhighbhchdmaa.Pure
