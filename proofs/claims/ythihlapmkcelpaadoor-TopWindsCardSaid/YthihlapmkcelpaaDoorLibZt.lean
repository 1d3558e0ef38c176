/- Pipes turned with the compass: points, lee and winds that are apart turn with them; and how the wind veers round a day. For all lists. -/
import Derived.Test.YthihlapmkcelpaaDoorQx0
import Derived.Test.YthihlapmkcelpaaDoorQx2
import Derived.Test.YthihlapmkcelpaaDoorQx5
import Derived.Test.YthihlapmkcelpaaDoorQx19
import Derived.Test.YthihlapmkcelpaaDoorLibYt
import Derived.Test.YthihlapmkcelpaaDoorLibB
namespace Go.Proofs.YthihlapmkcelpaaDoor.Pure
open Go.RowKit Go.Proofs.YthihlapmkcelpaaDoor.Q Go.Proofs.YthihlapmkcelpaaDoorW.PrintWords Go.Proofs.YthihlapmkcelpaaDoorW.PrintLast Go.Proofs.YthihlapmkcelpaaDoorW.PrintMore

/-- The pipes m are the pipes l, turned by y. -/
structure Rel (l m : List S33) (y : Nat) : Prop where
  len : m.length = l.length
  at_ : ∀ i, i < l.length → ∀ p, p < 32 → inA (atA m i) p = inA (atA l i) (backS y p)
theorem back_back {y p : Nat} (hy : y < 32) (hp : p < 32) : backS ((32 - y) % 32) (backS y p) = p := by unfold backS; omega
theorem back_back2 {y p : Nat} (hy : y < 32) (hp : p < 32) : backS y (backS ((32 - y) % 32) p) = p := by unfold backS; omega
theorem Rel.symm {l m : List S33} {y : Nat} (hy : y < 32) (h : Rel l m y) : Rel m l ((32 - y) % 32) :=
  ⟨h.len.symm, fun i hi p hp => by rw [h.at_ i (by rw [← h.len]; exact hi) _ (backS_lt _ p), back_back2 hy hp]⟩
/-- Winds that are apart, turned, as many. -/
theorem apart_turn {l m : List S33} {y : Nat} (hy : y < 32) (h : Rel l m y) : (apartL l).length ≤ (apartL m).length := by
  obtain ⟨u, hg⟩ := apart_good l
  obtain ⟨W, hW⟩ : ∃ W, apartL l = W := ⟨_, rfl⟩
  rw [hW] at hg ⊢
  have hasc := good_asc hg
  have hpt : ∀ k : Nat, k < W.length → (rd W (k : Int)).toNat < 32 := fun k hk => by have := hg.at_ k hk; omega
  -- the set of the turned winds
  obtain ⟨s, hs⟩ : ∃ s, s = maskN (fun p => decide (∃ k, k < W.length ∧ (rd W (k : Int)).toNat = backS y p)) 32 := ⟨_, rfl⟩
  have hbit : ∀ p, p < 32 → (s.testBit p = true ↔ ∃ k, k < W.length ∧ (rd W (k : Int)).toNat = backS y p) := fun p hp => by
    rw [hs, mask_bit _ p hp, decide_eq_true_eq]
  obtain ⟨h1, h2, h3⟩ := bitsTo_mem s 32
  have hV : ∀ j : Nat, j < (bitsTo s 32).length → ∃ p k, p < 32 ∧ rd (bitsTo s 32) (j : Int) = ((p : Nat) : Int) ∧ k < W.length ∧ (rd W (k : Int)).toNat = backS y p := fun j hj => by
    obtain ⟨p, hp, hb, he⟩ := h1 j hj
    obtain ⟨k, hk, e⟩ := (hbit p hp).1 hb
    exact ⟨p, k, hp, he, hk, e⟩
  have hwho : ∀ p, p < 32 → whoL m p = whoL l (backS y p) := fun p hp => by
    apply Nat.eq_of_testBit_eq
    intro i
    unfold whoL
    rw [who_bit, who_bit, h.len]
    by_cases hi : i < l.length
    · rw [h.at_ i hi p hp]
    · rw [decide_eq_false hi, Bool.false_and, Bool.false_and]
  have hasc2 : ∀ j, j < (bitsTo s 32).length → ∀ k, k < j → rd (bitsTo s 32) (k : Int) < rd (bitsTo s 32) (j : Int) := by
    intro j
    induction j with
    | zero => intro _ k hk; omega
    | succ j ih =>
      intro hj k hk
      have g := h2 (j + 1) (by omega) hj
      rw [Nat.add_sub_cancel] at g
      by_cases e : k = j
      · subst e; exact g
      · have := ih (by omega) k (by omega); omega
  have hgood : GoodL m 32 (bitsTo s 32) (usedTo m (bitsTo s 32) (bitsTo s 32).length) := by
    refine ⟨fun j hj => ?_, fun j hj k hk i hi => ?_, rfl⟩
    · obtain ⟨p, k, hp, he, hk, e⟩ := hV j hj
      refine ⟨by omega, by omega, ?_, fun h0 => ?_⟩
      · rw [he, Int.toNat_natCast, hwho p hp, ← e]
        exact (hg.at_ k hk).2.2.1
      · exact h2 j h0 hj
    · rintro ⟨a1, a2⟩
      obtain ⟨p, n, hp, he, hn, e⟩ := hV j hj
      obtain ⟨p2, n2, hp2, he2, hn2, e2⟩ := hV k (by omega)
      have hi2 : i < l.length := by rw [← h.len]; exact hi
      unfold onW at a1 a2
      rw [he, Int.toNat_natCast, h.at_ i hi2 p hp, ← e] at a1
      rw [he2, Int.toNat_natCast, h.at_ i hi2 p2 hp2, ← e2] at a2
      have hlt := hasc2 j hj k hk
      have hne : n ≠ n2 := fun e3 => by
        subst e3
        rw [e] at e2
        have e4 : p = p2 := by rw [← back_back hy hp, e2, back_back hy hp2]
        omega
      rcases Nat.lt_or_gt_of_ne hne with hh | hh
      · exact hg.apart n2 hn2 n hh i hi2 ⟨a2, a1⟩
      · exact hg.apart n hn n2 hh i hi2 ⟨a1, a2⟩
  refine Nat.le_trans ?_ (apart_best hgood)
  have hex : ∀ k : Nat, k < W.length → ∃ j, j < (bitsTo s 32).length ∧ rd (bitsTo s 32) (j : Int) = ((backS ((32 - y) % 32) (rd W (k : Int)).toNat : Nat) : Int) := fun k hk => by
    have hb : s.testBit (backS ((32 - y) % 32) (rd W (k : Int)).toNat) = true := (hbit _ (backS_lt _ _)).2 ⟨k, hk, (back_back2 hy (hpt k hk)).symm⟩
    exact h3 _ (backS_lt _ _) hb
  refine pigeon _ W.length (fun k => @dite Nat (k < W.length) (Classical.propDecidable _) (fun h => Classical.choose (hex k h)) fun _ => 0) (fun k hk => ?_) (fun j hj k hk he => ?_)
  · show (@dite Nat (k < W.length) (Classical.propDecidable _) (fun h => Classical.choose (hex k h)) fun _ => 0) < _
    rw [dif_pos hk]
    exact (Classical.choose_spec (hex k hk)).1
  · have he2 : (@dite Nat (j < W.length) (Classical.propDecidable _) (fun h => Classical.choose (hex j h)) fun _ => 0) = (@dite Nat (k < W.length) (Classical.propDecidable _) (fun h => Classical.choose (hex k h)) fun _ => 0) := he
    rw [dif_pos hj, dif_pos (show k < W.length by omega)] at he2
    have e1 := (Classical.choose_spec (hex j hj)).2
    have e2 := (Classical.choose_spec (hex k (by omega))).2
    rw [he2, e2] at e1
    have e3 : backS ((32 - y) % 32) (rd W (k : Int)).toNat = backS ((32 - y) % 32) (rd W (j : Int)).toNat := by omega
    have e4 : (rd W (k : Int)).toNat = (rd W (j : Int)).toNat := by rw [← back_back2 hy (hpt k (by omega)), e3, back_back2 hy (hpt j hj)]
    have g1 := hasc j hj k hk
    have g2 := hg.at_ k (by omega)
    have g3 := hg.at_ j hj
    omega
theorem apart_same {l m : List S33} {y : Nat} (hy : y < 32) (h : Rel l m y) : (apartL m).length = (apartL l).length :=
  Nat.le_antisymm (apart_turn (Nat.mod_lt _ (by decide)) (h.symm hy)) (apart_turn hy h)
def turnA1 (y : Nat) (x : S33) : S33 := ⟨(x.f0 + (y : Int)) % 32, x.f1⟩
def turnL (l : List S33) (y n : Nat) : List S33 := (l.take n).map (turnA1 y)
theorem turnL_len (l : List S33) (y n : Nat) (h : n ≤ l.length) : (turnL l y n).length = n := by unfold turnL; rw [List.length_map, List.length_take]; omega
theorem turnL_succ (l : List S33) (y n : Nat) (h : n < l.length) : turnL l y (n + 1) = turnL l y n ++ [turnA1 y (atA l n)] := by
  unfold turnL
  rw [List.take_add_one, List.map_append, List.getElem?_eq_getElem h, atA_eq l n h]
  rfl
theorem turnL_at (l : List S33) (y i : Nat) (h : i < l.length) : atA (turnL l y l.length) i = turnA1 y (atA l i) := by
  rw [atA_eq _ i (by rw [turnL_len l y _ (Nat.le_refl _)]; exact h)]
  unfold turnL
  rw [List.getElem_map]
  congr 1
  rw [List.getElem_take, atA_eq l i h]
theorem turn_ok {x : S33} (h : okA x = true) (y : Nat) : okA (turnA1 y x) = true := by
  obtain ⟨h1, h2, h3, h4⟩ := okA_pos h
  unfold okA arcOk turnA1
  refine decide_eq_true ?_
  show (0 ≤ (x.f0 + (y : Int)) % 32 ∧ (x.f0 + (y : Int)) % 32 ≤ 31) ∧ 1 ≤ x.f1 ∧ x.f1 ≤ 32
  omega
theorem turn_in {x : S33} (h : okA x = true) {y p : Nat} (hy : y < 32) (hp : p < 32) : inA (turnA1 y x) p = inA x (backS y p) := by
  obtain ⟨h1, h2, h3, h4⟩ := okA_pos h
  unfold inA inArc turnA1 backS
  show decide (((p : Int) - ((((x.f0 + (y : Int)) % 32).toNat : Nat) : Int)) % 32 < x.f1) = _
  rw [decide_eq_decide]
  have e : ((((x.f0 + (y : Int)) % 32).toNat : Nat) : Int) = (x.f0 + (y : Int)) % 32 := by omega
  have e2 : ((x.f0.toNat : Nat) : Int) = x.f0 := by omega
  rw [e, e2]
  have e3 : ((p : Int) - (x.f0 + (y : Int)) % 32) % 32 = ((((p + 32 - y) % 32 : Nat) : Int) - x.f0) % 32 := by omega
  rw [e3]
theorem turn_rel {l : List S33} (h : PipesOk l) {y : Nat} (hy : y < 32) : Rel l (turnL l y l.length) y :=
  ⟨turnL_len l y _ (Nat.le_refl _), fun i hi p hp => by rw [turnL_at l y i hi, turn_in (h.at hi) hy hp]⟩
theorem turn_pipes {l : List S33} (h0 : pipesErr l = 0) (y : Nat) : pipesErr (turnL l y l.length) = 0 := by
  have h : PipesOk l := pipes_ok h0
  have hl := turnL_len l y l.length (Nat.le_refl _)
  unfold pipesErr
  rw [hl, if_neg (by have := h.1; omega), if_pos]
  rw [List.all_eq_true]
  intro x hx
  obtain ⟨i, hi, e⟩ := List.mem_iff_getElem.1 hx
  have hi2 : i < l.length := by omega
  have g := turnL_at l y i hi2
  rw [atA_eq _ i hi] at g
  rw [← e, g]
  exact turn_ok (h.at hi2) y
theorem rot_mask (h : Nat → Bool) (y : Nat) : rotN (maskN h 32) y = maskN (fun p => h (backS y p)) 32 := mask_congr fun p _ => mask_bit h _ (backS_lt y p)
theorem turn_mask (h : Nat → Bool) {y : Nat} (hy : y < 32) : wind_Turn.f ((maskN h 32 : Nat) : Int) (y : Int) = some (((maskN (fun p => h (backS y p)) 32 : Nat) : Int), 0) := by
  have hm := mask32_lt h
  have ht : turnA (y : Int) = y := by unfold turnA; omega
  have e : turnP ((maskN h 32 : Nat) : Int) (y : Int) = (((rotN (maskN h 32) y : Nat) : Int), 0) := by
    unfold turnP
    rw [if_pos (show setOk ((maskN h 32 : Nat) : Int) = true from decide_eq_true (by omega)), Int.toNat_natCast, ht]
  rw [turn_at, e, rot_mask]
theorem points_mask {x : S33} (h : okA x = true) : wind_Points.f x.f0 x.f1 = some (((maskN (inA x) 32 : Nat) : Int), 0) := by
  have e : pointsP x.f0 x.f1 = (((maskN (inA x) 32 : Nat) : Int), 0) := if_pos h
  exact congrArg some e
theorem lee_turn {l : List S33} (h : PipesOk l) {y : Nat} (hy : y < 32) : leeN (turnL l y l.length) = maskN (fun p => leeF l (backS y p)) 32 := by
  have hr := turn_rel h hy
  refine mask_congr fun p hp => ?_
  have key : (workTo (turnL l y l.length) p (turnL l y l.length).length).length = 0 ↔ (workTo l (backS y p) l.length).length = 0 := by
    rw [workTo_nil, workTo_nil, hr.len]
    exact ⟨fun g i hi => by rw [← hr.at_ i hi p hp]; exact g i hi, fun g i hi => by rw [hr.at_ i hi p hp]; exact g i hi⟩
  unfold leeF
  rw [Bool.eq_iff_iff, beq_iff_eq, beq_iff_eq]
  omega
theorem fold_none (l : List S33) (N : Nat) (h : ¬ (foldB l N).2 = true) : (foldB l N).1 = [] := by
  induction N with
  | zero => rfl
  | succ N ih =>
    have hs : foldB l (N + 1) = stepB l (foldB l N) N := rfl
    have h1 : ¬ covQ l (bitsTo N l.length) = true := fun hc => h ((foldB_found l (N + 1)).2 ⟨N, by omega, (cov_bits l N).1 hc⟩)
    have e : foldB l (N + 1) = foldB l N := by rw [hs]; unfold stepB; rw [if_neg h1]
    rw [e] at h ⊢
    exact ih h
theorem few_covers (l : List S33) : ascQ (foldB l (2 ^ l.length)).1 (l.length : Int) = true ∧ covQ l (foldB l (2 ^ l.length)).1 = (foldB l (2 ^ l.length)).2 := by
  by_cases hf : (foldB l (2 ^ l.length)).2 = true
  · obtain ⟨n, hn, hc, hb⟩ := fold_some l _ hf
    rw [hb, hf]
    exact ⟨bitsTo_asc n l.length, (cov_bits l n).2 hc⟩
  · rw [fold_none l _ hf, Bool.eq_false_iff.mpr hf]
    refine ⟨cd_t fun i hi => absurd hi (Nat.not_lt_zero _), cd_f fun hh => ?_⟩
    obtain ⟨i, hi, _⟩ := hh 0 (by decide)
    exact absurd hi (Nat.not_lt_zero _)
/-! How far the wind veers. -/
def acrossR (a b : Int) : Int × Int := if 0 ≤ a ∧ a ≤ 31 then (if 0 ≤ b ∧ b ≤ 31 then (acrossQ a b, 0) else (0, 1)) else (0, 1)
theorem across_val (a b : Int) : wind_Across.f a b = some (acrossR a b) := by
  unfold wind_Across.f acrossR
  rw [Q.isPoint_eq, Q.isPoint_eq]
  by_cases ha : 0 ≤ a ∧ a ≤ 31
  · by_cases hb : 0 ≤ b ∧ b ≤ 31
    · simp [ha, hb, across_eq ha hb]
    · simp [ha, hb]
  · simp [ha]
theorem across_mod32 (a b : Int) : (acrossQ a b - (b - a)) % 32 = 0 := by
  unfold acrossQ
  split <;> omega
theorem veer_mod32 (l : List Int) (n : Nat) : (veerS l n - (rd l (n : Int) - rd l ((0 : Nat) : Int))) % 32 = 0 := by
  induction n with
  | zero => unfold veerS; omega
  | succ n ih =>
    have h := across_mod32 (rd l (n : Int)) (rd l ((n + 1 : Nat) : Int))
    unfold veerS
    omega
theorem veer_ok {l : List Int} (h : (veerP l).2 = 0) : l.length ≤ 60 ∧ (∀ j : Nat, j < l.length → 0 ≤ rd l (j : Int) ∧ rd l (j : Int) ≤ 31) ∧ veerP l = (veerS l (l.length - 1), 0) := by
  unfold veerP at h ⊢
  by_cases h1 : l.length > 60
  · rw [if_pos h1] at h; exact absurd h (by decide)
  · rw [if_neg h1] at h ⊢
    by_cases h2 : 0 ≤ idxF notPoint l 0 l.length
    · rw [if_pos h2] at h; exact absurd h (by decide)
    · rw [if_neg h2]
      refine ⟨by omega, fun j hj => ?_, rfl⟩
      have h3 := idxF_none (h := notPoint) (l := l) l.length 0 (by omega) j (by omega) (by omega)
      unfold notPoint at h3
      simpa using h3
/-- A day, and home again. -/
theorem veer_round {l : List Int} (h : (veerP l).2 = 0) (h0 : l.length ≠ 0) : ∃ n c : Int, veerP l = (n, 0) ∧ acrossR (rd l ((l.length - 1 : Nat) : Int)) (rd l ((0 : Nat) : Int)) = (c, 0) ∧ Int.tmod (wrap64 (n + c)) 32 = 0 := by
  obtain ⟨h1, h2, h3⟩ := veer_ok h
  refine ⟨_, acrossQ (rd l ((l.length - 1 : Nat) : Int)) (rd l ((0 : Nat) : Int)), h3, ?_, ?_⟩
  · unfold acrossR
    rw [if_pos (h2 _ (by omega)), if_pos (h2 _ (by omega))]
  · have g1 := veer_mod32 l (l.length - 1)
    have g2 := across_mod32 (rd l ((l.length - 1 : Nat) : Int)) (rd l ((0 : Nat) : Int))
    have g3 := veerS_range l (l.length - 1)
    have g4 := acrossQ_range (rd l ((l.length - 1 : Nat) : Int)) (rd l ((0 : Nat) : Int))
    rw [w64 (by omega) (by omega)]
    exact Int.tmod_eq_zero_of_dvd (Int.dvd_of_emod_eq_zero (by omega))

end Go.Proofs.YthihlapmkcelpaaDoor.Pure
