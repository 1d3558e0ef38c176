/- Winds that are apart and pipes that cover: never more of the first than of the second; what is returned is best. For all lists of pipes. -/
import Derived.Test.YthihlapmkcelpaaDoorQx0
import Derived.Test.YthihlapmkcelpaaDoorQx19
import Derived.Test.YthihlapmkcelpaaDoorLibXt
import Derived.Test.YthihlapmkcelpaaDoorLibTt
namespace Go.Proofs.YthihlapmkcelpaaDoor.Pure
open Go.RowKit Go.Proofs.YthihlapmkcelpaaDoor.Q Go.Proofs.YthihlapmkcelpaaDoorW.PrintWords Go.Proofs.YthihlapmkcelpaaDoorW.PrintLast Go.Proofs.YthihlapmkcelpaaDoorW.PrintMore

theorem pigeon (b : Nat) : ∀ (a : Nat) (f : Nat → Nat), (∀ k, k < a → f k < b) → (∀ j, j < a → ∀ k, k < j → f j ≠ f k) → a ≤ b := by
  induction b with
  | zero =>
    intro a f h1 _
    rcases Nat.eq_zero_or_pos a with h | h
    · omega
    · exact absurd (h1 0 h) (Nat.not_lt_zero _)
  | succ b ih =>
    intro a f h1 h2
    by_cases hk : ∃ k, k < a ∧ f k = b
    · obtain ⟨k, hk, hf⟩ := hk
      have h3 := ih (a - 1) (fun j => if j = k then f (a - 1) else f j) (fun j hj => ?_) (fun j hj i hi => ?_)
      · omega
      · show (if j = k then f (a - 1) else f j) < b
        by_cases e : j = k
        · rw [if_pos e]
          have := h1 (a - 1) (by omega)
          have := h2 (a - 1) (by omega) k (by omega)
          omega
        · rw [if_neg e]
          have := h1 j (by omega)
          have : f j ≠ f k := by
            rcases Nat.lt_or_gt_of_ne e with hh | hh
            · exact fun e2 => h2 k hk j hh e2.symm
            · exact h2 j (by omega) k hh
          omega
      · show (if j = k then f (a - 1) else f j) ≠ (if i = k then f (a - 1) else f i)
        by_cases e : j = k
        · rw [if_pos e, if_neg (by omega)]
          exact h2 (a - 1) (by omega) i (by omega)
        · rw [if_neg e]
          by_cases e2 : i = k
          · rw [if_pos e2]
            exact fun e3 => h2 (a - 1) (by omega) j (by omega) e3.symm
          · rw [if_neg e2]
            exact h2 j (by omega) i hi
    · have h3 := ih a f (fun k hk2 => ?_) h2
      · omega
      · have := h1 k hk2
        have : f k ≠ b := fun e => hk ⟨k, hk2, e⟩
        omega
/-- Winds that are apart are no more than pipes that cover. -/
theorem dual {l : List S33} {ch W : List Int} (hc : ascQ ch (l.length : Int) = true) (hcov : covQ l ch = true) (hw : ascQ W 32 = true) (hap : apartP l W) : W.length ≤ ch.length := by
  have hat := ascQ_at hc
  have hpt := asc_points hw
  have hex : ∀ k : Nat, k < W.length → ∃ i, i < ch.length ∧ inA (atA l (rd ch (i : Int)).toNat) (rd W (k : Int)).toNat = true := fun k hk => cd_of hcov _ (by have := hpt k hk; omega)
  refine pigeon ch.length W.length (fun k => @dite Nat (k < W.length) (Classical.propDecidable _) (fun h => Classical.choose (hex k h)) fun _ => 0) (fun k hk => ?_) (fun j hj k hk he => ?_)
  · show (@dite Nat (k < W.length) (Classical.propDecidable _) (fun h => Classical.choose (hex k h)) fun _ => 0) < ch.length
    rw [dif_pos hk]
    exact (Classical.choose_spec (hex k hk)).1
  · have he2 : (@dite Nat (j < W.length) (Classical.propDecidable _) (fun h => Classical.choose (hex j h)) fun _ => 0) = (@dite Nat (k < W.length) (Classical.propDecidable _) (fun h => Classical.choose (hex k h)) fun _ => 0) := he
    rw [dif_pos hj, dif_pos (show k < W.length by omega)] at he2
    have h1 := Classical.choose_spec (hex j hj)
    have h2 := Classical.choose_spec (hex k (by omega))
    rw [he2] at h1
    have hi := hat _ h2.1
    exact hap j hj k hk (rd ch ((Classical.choose (hex k (by omega)) : Nat) : Int)).toNat (by omega) ⟨h1.2, h2.2⟩
theorem fold_some (l : List S33) (N : Nat) (h : (foldB l N).2 = true) : ∃ n, n < N ∧ CovP l n ∧ (foldB l N).1 = bitsTo n l.length := by
  induction N with
  | zero => exact absurd (show false = true from h) (by decide)
  | succ N ih =>
    have hs : foldB l (N + 1) = stepB l (foldB l N) N := rfl
    have up : (foldB l N).2 = true → foldB l (N + 1) = foldB l N → ∃ n, n < N + 1 ∧ CovP l n ∧ (foldB l (N + 1)).1 = bitsTo n l.length := fun h2 e => by
      obtain ⟨n, h3, h4, h5⟩ := ih h2
      exact ⟨n, by omega, h4, by rw [e]; exact h5⟩
    by_cases h1 : covQ l (bitsTo N l.length) = true
    · have hc := (cov_bits l N).1 h1
      have new : foldB l (N + 1) = (bitsTo N l.length, true) → ∃ n, n < N + 1 ∧ CovP l n ∧ (foldB l (N + 1)).1 = bitsTo n l.length := fun e => ⟨N, by omega, hc, by rw [e]⟩
      by_cases h2 : (foldB l N).2 = true
      · by_cases h3 : better (bitsTo N l.length) (foldB l N).1 = true
        · exact new (by rw [hs]; unfold stepB; rw [if_pos h1, if_pos h2, if_pos h3])
        · exact up h2 (by rw [hs]; unfold stepB; rw [if_pos h1, if_pos h2, if_neg h3])
      · exact new (by rw [hs]; unfold stepB; rw [if_pos h1, if_neg h2])
    · have e : foldB l (N + 1) = foldB l N := by rw [hs]; unfold stepB; rw [if_neg h1]
      exact up (by rw [e] at h; exact h) e
theorem better_len {a b : List Int} (h : better a b = true) : a.length ≤ b.length := by
  unfold better at h
  by_cases e : a.length = b.length
  · omega
  · rw [if_neg e] at h
    have := of_decide_eq_true h
    omega
theorem worse_len {a b : List Int} (h : ¬ better a b = true) : b.length ≤ a.length := by
  unfold better at h
  by_cases e : a.length = b.length
  · omega
  · rw [if_neg e] at h
    have : ¬ a.length < b.length := fun hh => h (decide_eq_true hh)
    omega
theorem fold_best (l : List S33) (N : Nat) : ∀ n, n < N → CovP l n → (foldB l N).1.length ≤ (bitsTo n l.length).length := by
  induction N with
  | zero => intro n hn; omega
  | succ N ih =>
    intro n hn hc
    have hs : foldB l (N + 1) = stepB l (foldB l N) N := rfl
    by_cases h1 : covQ l (bitsTo N l.length) = true
    · by_cases h2 : (foldB l N).2 = true
      · by_cases h3 : better (bitsTo N l.length) (foldB l N).1 = true
        · rw [show foldB l (N + 1) = (bitsTo N l.length, true) by rw [hs]; unfold stepB; rw [if_pos h1, if_pos h2, if_pos h3]]
          show (bitsTo N l.length).length ≤ _
          by_cases e : n = N
          · subst e; exact Nat.le_refl _
          · have := ih n (by omega) hc
            have := better_len h3
            omega
        · rw [show foldB l (N + 1) = foldB l N by rw [hs]; unfold stepB; rw [if_pos h1, if_pos h2, if_neg h3]]
          by_cases e : n = N
          · subst e; exact worse_len h3
          · exact ih n (by omega) hc
      · rw [show foldB l (N + 1) = (bitsTo N l.length, true) by rw [hs]; unfold stepB; rw [if_pos h1, if_neg h2]]
        by_cases e : n = N
        · subst e; exact Nat.le_refl _
        · exact absurd ((foldB_found l N).2 ⟨n, by omega, hc⟩) h2
    · rw [show foldB l (N + 1) = foldB l N by rw [hs]; unfold stepB; rw [if_neg h1]]
      by_cases e : n = N
      · subst e; exact absurd ((cov_bits l n).2 hc) h1
      · exact ih n (by omega) hc
/-- A set of pipes by its list, and by its bits. -/
theorem cov_set {l : List S33} {ch : List Int} (hc : ascQ ch (l.length : Int) = true) (hcov : covQ l ch = true) : CovP l (setTo ch ch.length) := fun p hp => by
  obtain ⟨i, hi, hin⟩ := cd_of hcov p hp
  have hat := ascQ_at hc i hi
  exact ⟨(rd ch (i : Int)).toNat, by omega, (setTo_bit ch _ _).2 ⟨i, hi, rfl⟩, hin⟩
theorem set_len (ch : List Int) (m : Nat) : (bitsTo (setTo ch ch.length) m).length ≤ ch.length := by
  obtain ⟨h1, h2, _⟩ := bitsTo_mem (setTo ch ch.length) m
  have hex : ∀ k : Nat, k < (bitsTo (setTo ch ch.length) m).length → ∃ j, j < ch.length ∧ (rd ch (j : Int)).toNat = (rd (bitsTo (setTo ch ch.length) m) (k : Int)).toNat := fun k hk => by
    obtain ⟨i, hi, hb, he⟩ := h1 k hk
    obtain ⟨j, hj, e⟩ := (setTo_bit ch ch.length i).1 hb
    exact ⟨j, hj, by rw [he, Int.toNat_natCast]; exact e⟩
  have hasc : ∀ j, j < (bitsTo (setTo ch ch.length) m).length → ∀ k, k < j → rd (bitsTo (setTo ch ch.length) m) (k : Int) < rd (bitsTo (setTo ch ch.length) m) (j : Int) := by
    intro j
    induction j with
    | zero => intro _ k hk; omega
    | succ j ih =>
      intro hj k hk
      have h3 := h2 (j + 1) (by omega) hj
      rw [Nat.add_sub_cancel] at h3
      by_cases e : k = j
      · subst e; exact h3
      · have := ih (by omega) k (by omega); omega
  refine pigeon ch.length _ (fun k => @dite Nat (k < (bitsTo (setTo ch ch.length) m).length) (Classical.propDecidable _) (fun h => Classical.choose (hex k h)) fun _ => 0) (fun k hk => ?_) (fun j hj k hk he => ?_)
  · show (@dite Nat (k < (bitsTo (setTo ch ch.length) m).length) (Classical.propDecidable _) (fun h => Classical.choose (hex k h)) fun _ => 0) < ch.length
    rw [dif_pos hk]
    exact (Classical.choose_spec (hex k hk)).1
  · have he2 : (@dite Nat (j < (bitsTo (setTo ch ch.length) m).length) (Classical.propDecidable _) (fun h => Classical.choose (hex j h)) fun _ => 0) = (@dite Nat (k < (bitsTo (setTo ch ch.length) m).length) (Classical.propDecidable _) (fun h => Classical.choose (hex k h)) fun _ => 0) := he
    rw [dif_pos hj, dif_pos (show k < _ by omega)] at he2
    have e1 := (Classical.choose_spec (hex j hj)).2
    have e2 := (Classical.choose_spec (hex k (by omega))).2
    rw [he2, e2] at e1
    have h3 := hasc j hj k hk
    obtain ⟨i1, _, _, g1⟩ := h1 k (by omega)
    obtain ⟨i2, _, _, g2⟩ := h1 j hj
    omega
theorem used_all (l : List S33) (W : List Int) (j : Nat) : usedTo l W j < allN l := by
  induction j with
  | zero => exact Nat.two_pow_pos _
  | succ j ih => exact Nat.or_lt_two_pow ih (whoL_lt l _)
theorem longTo_ge (B : Nat → List Int) (n : Nat) : ∀ u, u < n → (B u).length ≤ (longTo B n).length := by
  induction n with
  | zero => intro u hu; omega
  | succ n ih =>
    intro u hu
    unfold longTo
    by_cases h : (longTo B n).length < (B n).length
    · rw [if_pos h]
      by_cases e : u = n
      · subst e; exact Nat.le_refl _
      · have := ih u (by omega); omega
    · rw [if_neg h]
      by_cases e : u = n
      · subst e; omega
      · exact ih u (by omega)
theorem good_asc {l : List S33} {p : Nat} {W : List Int} {u : Nat} (h : GoodL l p W u) : ∀ j, j < W.length → ∀ k, k < j → rd W (k : Int) < rd W (j : Int) := by
  intro j
  induction j with
  | zero => intro _ k hk; omega
  | succ j ih =>
    intro hj k hk
    have h3 := (h.at_ (j + 1) hj).2.2.2 (by omega)
    rw [Nat.add_sub_cancel] at h3
    by_cases e : k = j
    · subst e; exact h3
    · have := ih (by omega) k (by omega); omega
/-- The table's list of a set is as long as any winds that are apart with just these pipes. -/
theorem dp_best (l : List S33) (p : Nat) : ∀ (W : List Int) (u : Nat), GoodL l p W u → okL (dpTo (whoL l) (allN l) p) u ∧ W.length ≤ (dpTo (whoL l) (allN l) p u).length := by
  induction p with
  | zero =>
    intro W u h
    rcases Nat.eq_zero_or_pos W.length with e | e
    · have hW : W = [] := List.eq_nil_of_length_eq_zero e
      subst hW
      exact ⟨.inl h.used.symm, Nat.zero_le _⟩
    · have := h.at_ 0 e
      omega
  | succ p ih =>
    intro W u h
    have keep : (okL (dpTo (whoL l) (allN l) p) u ∧ W.length ≤ (dpTo (whoL l) (allN l) p u).length) → okL (dpTo (whoL l) (allN l) (p + 1)) u ∧ W.length ≤ (dpTo (whoL l) (allN l) (p + 1) u).length := by
      rintro ⟨g1, g2⟩
      by_cases h0 : whoL l p = 0
      · rw [dp_skip h0]; exact ⟨g1, g2⟩
      · rw [dp_step h0]
        have hs := step_at (B := dpTo (whoL l) (allN l) p) (p := p) h0 (allN l) u
        by_cases hc : (u ^^^ whoL l p) &&& whoL l p = 0 ∧ okL (dpTo (whoL l) (allN l) p) (u ^^^ whoL l p) ∧ (u ^^^ whoL l p) < allN l ∧ (dpTo (whoL l) (allN l) p u).length < (dpTo (whoL l) (allN l) p (u ^^^ whoL l p)).length + 1
        · have e := hs.1 hc
          have hlen : (stepTo (dpTo (whoL l) (allN l) p) p (whoL l p) (allN l) u).length = (dpTo (whoL l) (allN l) p (u ^^^ whoL l p)).length + 1 := by rw [e, List.length_append]; rfl
          exact ⟨.inr (by omega), by omega⟩
        · have e := hs.2 hc
          refine ⟨?_, by rw [e]; exact g2⟩
          rcases g1 with g | g
          · exact .inl g
          · exact .inr (by rw [e]; exact g)
    by_cases hlast : ∃ L, W = L ++ [(p : Int)]
    · obtain ⟨L, rfl⟩ := hlast
      have hl : (L ++ [(p : Int)]).length = L.length + 1 := by simp
      have hx : rd (L ++ [(p : Int)]) (L.length : Int) = (p : Int) := rdR L _
      have h0 : whoL l p ≠ 0 := by
        have := (h.at_ L.length (by omega)).2.2.1
        rwa [hx, Int.toNat_natCast] at this
      have hasc := good_asc h
      have hL : GoodL l p L (usedTo l L L.length) := by
        refine ⟨fun k hk => ?_, fun j hj k hk i hi => ?_, rfl⟩
        · have h1 := h.at_ k (by omega)
          have h2 := hasc L.length (by omega) k hk
          rw [hx] at h2
          rw [rdL L _ k hk] at h1 h2
          refine ⟨h1.1, by omega, h1.2.2.1, fun hk0 => ?_⟩
          have h3 := h1.2.2.2 hk0
          rwa [rdL L _ (k - 1) (by omega)] at h3
        · have h1 := h.apart j (by omega) k hk i hi
          unfold onW at h1 ⊢
          rwa [rdL L _ j hj, rdL L _ k (by omega)] at h1
      have hu : usedTo l L L.length ||| whoL l p = u := by
        have h1 := h.used
        rw [hl] at h1
        have h2 : usedTo l (L ++ [(p : Int)]) L.length ||| whoTo l l.length (rd (L ++ [(p : Int)]) (L.length : Int)).toNat = u := h1
        rw [used_left l L _ _ (Nat.le_refl _), hx, Int.toNat_natCast] at h2
        exact h2
      have hv : usedTo l L L.length &&& whoL l p = 0 := by
        have h1 := (clash_iff l (L ++ [(p : Int)]) L.length).2 (fun k hk i hi => h.apart L.length (by omega) k hk i hi)
        rw [used_left l L _ _ (Nat.le_refl _), hx, Int.toNat_natCast] at h1
        exact h1
      obtain ⟨g1, g2⟩ := ih L _ hL
      rw [dp_step h0]
      have hs := step_at (B := dpTo (whoL l) (allN l) p) (p := p) h0 (allN l) u
      have hxor : u ^^^ whoL l p = usedTo l L L.length := by rw [← hu]; exact xor_or hv
      have hlt : usedTo l L L.length < allN l := used_all l L _
      rw [hxor] at hs
      by_cases hc : (dpTo (whoL l) (allN l) p u).length < (dpTo (whoL l) (allN l) p (usedTo l L L.length)).length + 1
      · have e := hs.1 ⟨hv, g1, hlt, hc⟩
        have hlen : (stepTo (dpTo (whoL l) (allN l) p) p (whoL l p) (allN l) u).length = (dpTo (whoL l) (allN l) p (usedTo l L L.length)).length + 1 := by rw [e, List.length_append]; rfl
        exact ⟨.inr (by omega), by omega⟩
      · have e := hs.2 (fun hh => hc hh.2.2.2)
        exact ⟨.inr (by rw [e]; omega), by rw [e]; omega⟩
    · refine keep (ih W u ⟨fun k hk => ?_, h.apart, h.used⟩)
      have h1 := h.at_ k hk
      refine ⟨h1.1, ?_, h1.2.2⟩
      have h2 : rd W ((W.length - 1 : Nat) : Int) ≠ (p : Int) := fun e => by
        have hne : W ≠ [] := fun e2 => by rw [e2] at hk; exact absurd hk (Nat.not_lt_zero _)
        apply hlast
        refine ⟨W.dropLast, ?_⟩
        have h4 : rd W ((W.length - 1 : Nat) : Int) = W.getLast hne := by
          rw [rd_lt W (W.length - 1) (by omega), List.getLast_eq_getElem]
        rw [← e, h4]
        exact (List.dropLast_concat_getLast hne).symm
      have h5 := h.at_ (W.length - 1) (by omega)
      by_cases e : k = W.length - 1
      · rw [e] at h1 ⊢; omega
      · have := good_asc h (W.length - 1) (by omega) k (by omega)
        omega
theorem apart_best {l : List S33} {W : List Int} {u : Nat} (h : GoodL l 32 W u) : W.length ≤ (apartL l).length := by
  obtain ⟨_, h2⟩ := dp_best l 32 W u h
  have h3 := longTo_ge (dpTo (whoL l) (allN l) 32) (allN l) u (h.used ▸ used_all l W _)
  show W.length ≤ (longTo (dpTo (whoL l) (allN l) 32) (allN l)).length
  omega

end Go.Proofs.YthihlapmkcelpaaDoor.Pure
