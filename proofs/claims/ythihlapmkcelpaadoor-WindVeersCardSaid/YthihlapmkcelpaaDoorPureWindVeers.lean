/- The law WindVeers, as a statement on numbers and lists alone: how far the wind veers is the reference's, and a day that ends as it began has whole rounds. For all numbers and lists of 64 bits. -/
import Derived.Test.YthihlapmkcelpaaDoorQx1
import Derived.Test.YthihlapmkcelpaaDoorQx2
import Derived.Test.YthihlapmkcelpaaDoorQx3
import Derived.Test.YthihlapmkcelpaaDoorLibA
namespace Go.Proofs.YthihlapmkcelpaaDoor.Pure
open Go.RowKit Go.Proofs.YthihlapmkcelpaaDoor.Q Go.Proofs.YthihlapmkcelpaaDoorW.PrintWords Go.Proofs.YthihlapmkcelpaaDoorW.PrintLast

theorem ref_point (p : Int) : wigeonref03_isPoint.f p = some (decide (0 ≤ p ∧ p ≤ 31)) := by
  unfold wigeonref03_isPoint.f
  by_cases h : p ≥ 0
  · rw [if_pos h]
    congr 1
    rw [decide_eq_decide]
    omega
  · rw [if_neg h, decide_eq_false (by omega)]
theorem ref_across_same (a b : Int) : wigeonref03_across.f a b = wind_across.f a b := rfl
def acrossP (a b : Int) : Int × Int := if 0 ≤ a ∧ a ≤ 31 then (if 0 ≤ b ∧ b ≤ 31 then (acrossQ a b, 0) else (0, 1)) else (0, 1)
theorem across_at (a b : Int) : wind_Across.f a b = some (acrossP a b) := by
  unfold wind_Across.f acrossP
  rw [Q.isPoint_eq, Q.isPoint_eq]
  by_cases ha : 0 ≤ a ∧ a ≤ 31
  · by_cases hb : 0 ≤ b ∧ b ≤ 31
    · simp [ha, hb, across_eq ha hb]
    · simp [ha, hb]
  · simp [ha]
theorem ref_across_at (a b : Int) : wigeonref03_Across.f a b = some (acrossP a b) := by
  unfold wigeonref03_Across.f acrossP
  rw [ref_point, ref_point]
  by_cases ha : 0 ≤ a ∧ a ≤ 31
  · by_cases hb : 0 ≤ b ∧ b ≤ 31
    · simp [ha, hb, ref_across_same, across_eq ha hb]
    · simp [ha, hb]
  · simp [ha]
theorem idxF_some {h : Int → Bool} {l : List Int} (d : Nat) : ∀ i j, i ≤ j → j < i + d → h (rd l (j : Int)) = true → 0 ≤ idxF h l i d := by
  induction d with
  | zero => intro i j h1 h2; omega
  | succ d ih =>
    intro i j h1 h2 hj
    unfold idxF
    by_cases hq : h (rd l (i : Int)) = true
    · rw [if_pos hq]; omega
    · rw [if_neg hq]
      refine ih (i + 1) j ?_ (by omega) hj
      rcases Nat.lt_or_ge i j with hlt | hge
      · omega
      · have : i = j := by omega
        rw [this] at hq
        exact absurd hj hq
theorem idxF_neg {h : Int → Bool} {l : List Int} (d : Nat) : ∀ i, (∀ j, i ≤ j → j < i + d → h (rd l (j : Int)) = false) → ¬ 0 ≤ idxF h l i d := by
  induction d with
  | zero => intro i _; unfold idxF; omega
  | succ d ih =>
    intro i hj
    unfold idxF
    rw [if_neg (by rw [hj i (by omega) (by omega)]; decide)]
    exact ih (i + 1) fun j h1 h2 => hj j (by omega) (by omega)
theorem not_point_f {p : Int} (h : 0 ≤ p ∧ p ≤ 31) : notPoint p = false := by unfold notPoint; simp [h]
theorem not_point_t {p : Int} (h : ¬ (0 ≤ p ∧ p ≤ 31)) : notPoint p = true := by unfold notPoint; simp [h]
theorem ref_veer_loop (l : List Int) (hl : l.length ≤ 60) (d : Nat) : ∀ i : Nat, i + d = l.length → (∀ j, j < i → 0 ≤ rd l (j : Int) ∧ rd l (j : Int) ≤ 31) →
    Ev (fun k => wigeonref03_Veer.l0 k l (veerS l (i - 1)) (i : Int)) (if 0 ≤ idxF notPoint l 0 l.length then (0, 1) else (veerS l (l.length - 1), 0)) := by
  induction d with
  | zero =>
    intro i hi hp
    refine Ev.step (fun k => by rw [wigeonref03_Veer.l0]) ?_
    refine Ev.ifn (by omega) ?_
    rw [if_neg (idxF_neg _ 0 fun j _ h2 => not_point_f (hp j (by omega)))]
    exact Ev.val (by rw [show i = l.length by omega])
  | succ d ih =>
    intro i hi hp
    refine Ev.step (fun k => by rw [wigeonref03_Veer.l0]) ?_
    refine Ev.ifp (by omega) (Ev.ifp (by omega) (Ev.bindc (ref_point _) ?_))
    by_cases h : 0 ≤ rd l (i : Int) ∧ rd l (i : Int) ≤ 31
    · have e1 : wrap64 ((i : Int) + 1) = ((i + 1 : Nat) : Int) := by rw [w64 (by omega) (by omega)]; omega
      refine Ev.ifp (decide_eq_true h) ?_
      have hp' : ∀ j, j < i + 1 → 0 ≤ rd l (j : Int) ∧ rd l (j : Int) ≤ 31 := fun j hj => by
        by_cases e : j = i
        · rw [e]; exact h
        · exact hp j (by omega)
      have hn := ih (i + 1) (by omega) hp'
      rw [Nat.add_sub_cancel] at hn
      rw [e1]
      by_cases h0 : i = 0
      · subst h0
        exact Ev.ifn (by omega) hn
      · have e2 : wrap64 ((i : Int) - 1) = ((i - 1 : Nat) : Int) := by rw [w64 (by omega) (by omega)]; omega
        rw [e2]
        refine Ev.ifp (by omega) (Ev.ifp (by omega) (Ev.ifp (by omega) (Ev.bindc (ref_across_same _ _ ▸ across_eq (hp (i - 1) (by omega)) h) ?_)))
        have hs : veerS l i = veerS l (i - 1) + acrossQ (rd l ((i - 1 : Nat) : Int)) (rd l (i : Int)) := by
          obtain ⟨m, rfl⟩ : ∃ m, i = m + 1 := ⟨i - 1, by omega⟩
          rfl
        have hr := veerS_range l i
        rw [← hs, w64 (by omega) (by omega)]
        exact hn
    · refine Ev.ifn (by rw [decide_eq_false h]; decide) ?_
      rw [if_pos (idxF_some _ 0 i (by omega) (by omega) (not_point_t h))]
      exact Ev.now _
theorem ref_veer_ev (l : List Int) : Ev (fun k => wigeonref03_Veer.f k l) (veerP l) := by
  unfold wigeonref03_Veer.f veerP
  by_cases h : l.length > 60
  · rw [if_pos h]
    exact Ev.ifp (by omega) (Ev.now _)
  · rw [if_neg h]
    exact Ev.ifn (by omega) (ref_veer_loop l (by omega) l.length 0 (by omega) fun j hj => by omega)
theorem across_mod (a b : Int) : (acrossQ a b - (b - a)) % 32 = 0 := by
  unfold acrossQ
  split <;> omega
theorem veer_mod (l : List Int) (n : Nat) : (veerS l n - (rd l (n : Int) - rd l ((0 : Nat) : Int))) % 32 = 0 := by
  induction n with
  | zero => unfold veerS; omega
  | succ n ih =>
    have h := across_mod (rd l (n : Int)) (rd l ((n + 1 : Nat) : Int))
    unfold veerS
    omega
theorem veer_points {l : List Int} (h : (veerP l).2 = 0) : l.length ≤ 60 ∧ ∀ j, j < l.length → 0 ≤ rd l (j : Int) ∧ rd l (j : Int) ≤ 31 := by
  unfold veerP at h
  by_cases h1 : l.length > 60
  · rw [if_pos h1] at h; exact absurd h (by decide)
  · rw [if_neg h1] at h
    by_cases h2 : 0 ≤ idxF notPoint l 0 l.length
    · rw [if_pos h2] at h; exact absurd h (by decide)
    · refine ⟨by omega, fun j hj => ?_⟩
      by_cases hq : 0 ≤ rd l (j : Int) ∧ rd l (j : Int) ≤ 31
      · exact hq
      · exact absurd (idxF_some _ 0 j (by omega) (by omega) (not_point_t hq)) h2
/-- A day that ends as it began. -/
theorem veer_home {l : List Int} (h : (veerP l).2 = 0) (h0 : l.length ≠ 0) (h60 : l.length ≠ 60) :
    (veerP (l ++ [rd l 0])).2 = 0 ∧ Int.tmod (veerP (l ++ [rd l 0])).1 32 = 0 := by
  obtain ⟨hl, hp⟩ := veer_points h
  have hlen : (l ++ [rd l 0]).length = l.length + 1 := by simp
  have ha : ∀ j, j < l.length → rd (l ++ [rd l 0]) (j : Int) = rd l (j : Int) := fun j hj => by
    rw [rd_lt _ j (by omega), rd_lt l j hj, List.getElem_append_left hj]
  have hb : rd (l ++ [rd l 0]) (l.length : Int) = rd l ((0 : Nat) : Int) := by
    rw [rd_lt _ l.length (by omega), List.getElem_append_right (Nat.le_refl _)]
    simp
  have hn : ¬ 0 ≤ idxF notPoint (l ++ [rd l 0]) 0 (l ++ [rd l 0]).length := by
    refine idxF_neg _ 0 fun j _ hj => ?_
    by_cases e : j = l.length
    · rw [e, hb]
      exact not_point_f (hp 0 (by omega))
    · rw [ha j (by omega)]
      exact not_point_f (hp j (by omega))
  have hv : veerP (l ++ [rd l 0]) = (veerS (l ++ [rd l 0]) l.length, 0) := by
    unfold veerP
    rw [if_neg (by omega), if_neg hn, hlen, Nat.add_sub_cancel]
  rw [hv]
  refine ⟨rfl, ?_⟩
  have hm := veer_mod (l ++ [rd l 0]) l.length
  rw [hb, ha 0 (by omega), Int.sub_self, Int.sub_zero] at hm
  exact Int.tmod_eq_zero_of_dvd (Int.dvd_of_emod_eq_zero hm)

theorem WindVeers : wigeonlaw03_WindVeers.Pure := by
  intro a b l _ _ _ _ _
  refine Ev.rounds (?_ : Ev (fun k => wigeonlaw03_WindVeers.f k a b l) true)
  unfold wigeonlaw03_WindVeers.f
  by_cases h200 : (l.length : Int) > 200
  · exact Ev.ifp h200 known_bind
  refine Ev.ifn h200 (Ev.bindc (across_at a b) (Ev.bindc (ref_across_at a b) (Ev.bindc (show wind_Veer.f l = some (veerP l) from rfl) (Ev.bind (ref_veer_ev l) ?_))))
  refine Ev.ifp rfl (Ev.ifp rfl (Ev.ifp rfl ?_))
  rw [show ((veerP l).2 != (veerP l).2) = false by simp]
  refine Ev.step (fun k => by rw [wigeonlaw03_WindVeers.j0]) ?_
  refine Ev.ifn (by decide) ?_
  have known : Ev (fun k => wigeonlaw03_WindVeers.j1 k l true) true := Ev.step (fun k => by rw [wigeonlaw03_WindVeers.j1]) (Ev.ifp rfl known_bind)
  by_cases hg : (veerP l).2 = 0
  · refine Ev.ifp hg ?_
    by_cases h0 : (l.length : Int) = 0
    · exact Ev.ifp h0 known
    refine Ev.ifn h0 ?_
    by_cases h60 : (l.length : Int) = 60
    · rw [show ((l.length : Int) == 60) = true by simp [h60]]
      exact known
    rw [show ((l.length : Int) == 60) = false by simp [h60]]
    refine Ev.step (fun k => by rw [wigeonlaw03_WindVeers.j1]) ?_
    refine Ev.ifn (by decide) ?_
    refine Ev.bindc rfl (Ev.ifp (by simp; omega) (Ev.bindc rfl (Ev.ifp (by omega) (Ev.bindc rfl (Ev.ifp (by simp; omega) (Ev.bindc rfl ?_))))))
    obtain ⟨e1, e2⟩ := veer_home hg (by omega) (by omega)
    rw [List.nil_append]
    exact Ev.ifp e1 (Ev.ifp e2 known_bind)
  · exact Ev.ifn hg known

end Go.Proofs.YthihlapmkcelpaaDoor.Pure
