/- The law RingRestores, as a statement on texts and numbers alone: one worn digit of a ring can always be restored. For all series and numbers. -/
import Derived.Test.YtlbhighbhchdmaaQx8
import Derived.Test.YtlbhighbhchdmaaQx20
import Derived.Test.YtlbhighbhchdmaaQx21
import Derived.Test.YtlbhighbhchdmaaQx24
import Derived.Test.YtlbhighbhchdmaaLibH
namespace Go.Proofs.Ytlbhighbhchdmaa.Pure
open Go.RowKit Go.Proofs.Ytlbhighbhchdmaa.Q Go.Proofs.YtlbhighbhchdmaaW.PrintWords Go.Proofs.YtlbhighbhchdmaaW.PrintLast

theorem place6 (x : Int) : ∃ j : Nat, j < 6 ∧ wrap64 (Int.tmod (IntKind.u64.wrap x) 6) = (j : Int) := by
  have h0 : 0 ≤ IntKind.u64.wrap x := by
    unfold IntKind.wrap
    simp [IntKind.signed, IntKind.bits]
    omega
  have h1 : 0 ≤ Int.tmod (IntKind.u64.wrap x) 6 ∧ Int.tmod (IntKind.u64.wrap x) 6 < 6 := by
    rw [Int.tmod_eq_emod_of_nonneg h0]
    omega
  refine ⟨(Int.tmod (IntKind.u64.wrap x) 6).toNat, by omega, ?_⟩
  rw [w64 (by omega) (by omega)]
  omega
theorem worn_bytes (t : ByteArray) (p : Nat) (hp : p < t.size) : (t.extract 0 p ++ (⟨#[63]⟩ : ByteArray)) ++ t.extract (p + 1) t.size = putB t p 63 := by
  have h1 : (t.extract 0 p).size = p := by rw [ByteArray.size_extract]; omega
  have h2 : (t.extract 0 p ++ (⟨#[63]⟩ : ByteArray)).size = p + 1 := by rw [ByteArray.size_append, h1]; rfl
  have h3 : (t.extract (p + 1) t.size).size = t.size - (p + 1) := by rw [ByteArray.size_extract]; omega
  refine bytes_ext (by rw [ByteArray.size_append, h2, h3, putB_size]; omega) (fun i hi => ?_)
  rw [ByteArray.size_append, h2, h3] at hi
  by_cases e1 : i < p + 1
  · rw [bt_of (p := i) (by rw [ByteArray.size_append]; omega), ByteArray.getElem_append_left (by omega)]
    by_cases e2 : i < p
    · rw [ByteArray.getElem_append_left (by omega), putB_other _ _ _ _ (by omega) (by omega), bt_of (s := t) (p := i) (by omega)]
      congr 2
      simp [ByteArray.getElem_extract]
    · have e : i = p := by omega
      subst e
      rw [putB_same _ _ _ hp, ByteArray.getElem_append_right (by omega)]
      congr 2
      simp only [h1, Nat.sub_self]
      rfl
  · rw [bt_of (p := i) (by rw [ByteArray.size_append]; omega), ByteArray.getElem_append_right (by omega), putB_other _ _ _ _ (by omega) (by omega), bt_of (s := t) (p := i) (by omega)]
    congr 2
    simp only [h2, ByteArray.getElem_extract]
    congr 1
    omega
theorem mulQ_plain (s : ByteArray) (m n : Nat) (h : ∀ i, i < n → bt s (i : Int) ≠ 63) : mulQ s m n = m := by
  induction n with
  | zero => rfl
  | succ n ih =>
    unfold mulQ
    rw [if_neg (h n (by omega))]
    exact ih (fun i hi => h i (by omega))
/-- A ring with one digit that can't be read: one ring fits. -/
theorem hole_count {t : ByteArray} (h6 : 6 ≤ t.size) (hd : ∀ m, m < 6 → 48 ≤ bt t ((t.size - 6 + m : Nat) : Int) ∧ bt t ((t.size - 6 + m : Nat) : Int) ≤ 57) (q : Nat) (hq : q < 6) : gN (waysT (putB t (t.size - 6 + q) 63) 6) 0 = 1 := by
  rw [waysT_get _ 6 0 (by rw [putB_size]; exact h6) (by decide)]
  refine wT_hole (x := fun j => (bt t ((t.size - 1 - j : Nat) : Int) - 48).toNat) (j0 := 5 - q) (Nat.le_refl 6) (by omega) (fun j hj => ?_) (fun d _ => ?_) (fun j d hj hne hd10 => ?_) 0 (by decide)
  · have := hd (5 - j) (by omega)
    rw [show t.size - 6 + (5 - j) = t.size - 1 - j by omega] at this
    show (bt t ((t.size - 1 - j : Nat) : Int) - 48).toNat < 10
    omega
  · unfold oS okQ
    rw [putB_size, show t.size - 1 - (5 - q) = t.size - 6 + q by omega, putB_same _ _ _ (by omega)]
    rfl
  · have h1 := hd (5 - j) (by omega)
    rw [show t.size - 6 + (5 - j) = t.size - 1 - j by omega] at h1
    unfold oS okQ
    rw [putB_size, putB_other _ _ _ _ (by omega) (by omega)]
    generalize bt t ((t.size - 1 - j : Nat) : Int) = x at *
    rw [show (x == 63) = false from beq_eq_false_iff_ne.mpr (by omega), Bool.false_or, Bool.eq_iff_iff, beq_iff_eq, decide_eq_true_eq]
    omega
theorem hole_first {t : ByteArray} (hv : ValidP t = 0) (q : Nat) (hq : q < 6) : (formP (putB t (t.size - 6 + q) 63) true).2 = true ∧ countP (putB t (t.size - 6 + q) 63) = (1, 0) ∧ firstP (putB t (t.size - 6 + q) 63) = (t, true, 0) := by
  obtain ⟨hf, hsum⟩ := ValidP_ok hv
  obtain ⟨h7, h8, _, hok⟩ := formP_true hf
  have hdg : ∀ m, m < 6 → 48 ≤ bt t ((t.size - 6 + m : Nat) : Int) ∧ bt t ((t.size - 6 + m : Nat) : Int) ≤ 57 := fun m hm => formed_digit h7 hok m hm
  have hlt : ∀ i, i < t.size - 6 → 65 ≤ bt t (i : Int) ∧ bt t (i : Int) ≤ 90 := fun i hi => formed_letter h7 hok i hi
  have hone := hole_count (t := t) (by omega) hdg q hq
  have hsz := putB_size t (t.size - 6 + q) 63
  have hwo : ∀ i, i < t.size → i ≠ t.size - 6 + q → bt (putB t (t.size - 6 + q) 63) (i : Int) = bt t (i : Int) := fun i hi hne => putB_other t _ i 63 hi hne
  have hws : bt (putB t (t.size - 6 + q) 63) ((t.size - 6 + q : Nat) : Int) = 63 := putB_same t _ 63 (by omega)
  generalize hw : putB t (t.size - 6 + q) 63 = w at *
  have hokw : ∀ i, i < w.size → okb true (w.size - 6) i (bt w i) = true := by
    intro i hi
    rw [hsz] at hi ⊢
    have h1 := hok i hi
    by_cases e : i = t.size - 6 + q
    · rw [e, hws]
      unfold okb
      simp
    · rw [hwo i hi e]
      unfold okb at h1 ⊢
      rw [Bool.false_and, Bool.or_false] at h1
      rw [h1, Bool.true_or]
  have hfw := formP_good (worn := true) (show 7 ≤ w.size by omega) (show w.size ≤ 8 by omega) hokw
  have hfw2 : (formP w true).2 = true := by rw [hfw]
  have hg : goodB w = true := by unfold goodB; rw [hone]; rfl
  refine ⟨hfw2, ?_, ?_⟩
  · unfold countP
    rw [if_pos hfw2, hone, mulQ_plain]
    · rfl
    · intro i hi
      rw [hsz] at hi
      have := hlt i hi
      rw [hwo i (by omega) (by omega)]
      omega
  · unfold firstP
    rw [if_pos hfw2, if_neg (by rw [hone]; decide)]
    have hs : w.size = (w.size - 6) + 6 := by omega
    have hval := First_valid (by omega) (by omega) hokw hg
    have hkeep : ∀ i, i < t.size → i ≠ t.size - 6 + q → bt (fstB (w.size - 6) w w.size) (i : Int) = bt t (i : Int) := by
      intro i hi hne
      have hb := hok i hi
      have h63 : bt t (i : Int) ≠ 63 := by
        by_cases hl : i < t.size - 6
        · have := hlt i hl; omega
        · have := hdg (i - (t.size - 6)) (by omega)
          rw [show t.size - 6 + (i - (t.size - 6)) = i by omega] at this
          omega
      rw [fst_keep i (by omega) (by rw [hwo i hi hne]; exact h63), hwo i hi hne]
    have hcd := fun m hm => fst_digit hs (DF_of (by omega) hokw) hg m hm
    have hcz := fstB_size (w.size - 6) w w.size
    generalize fstB (w.size - 6) w w.size = c at *
    obtain ⟨_, hsumc⟩ := ValidP_ok hval
    have hct : c.size = t.size := by omega
    have hat : bt c ((t.size - 6 + q : Nat) : Int) = bt t ((t.size - 6 + q : Nat) : Int) := by
      have hd1 := hdg q hq
      have hd2 := hcd q hq
      rw [hsz] at hd2
      apply Classical.byContradiction
      intro hne
      have hDt : Digs (tailN t) := Digs.of (fun x hx => by
        obtain ⟨y, hy, rfl⟩ := List.mem_map.1 hx
        obtain ⟨m, hm, rfl⟩ := List.mem_map.1 hy
        have := hdg m (List.mem_range.1 hm)
        omega)
      have hDc : Digs (tailN c) := Digs.of (fun x hx => by
        obtain ⟨y, hy, rfl⟩ := List.mem_map.1 hx
        obtain ⟨m, hm, rfl⟩ := List.mem_map.1 hy
        have := hcd m (List.mem_range.1 hm)
        rw [hsz] at this
        rw [hct]
        omega)
      refine sumN_wrong hDc hDt (by rw [tailN_length, tailN_length]) 0 q (fun i hi => ?_) ?_ 6 hq (c := 0) (by decide) ?_
      · by_cases hi6 : i < 6
        · rw [tailN_at i hi6, tailN_at i hi6, hct, hkeep _ (by omega) (by omega)]
        · rw [List.getD_eq_getElem?_getD, List.getD_eq_getElem?_getD, List.getElem?_eq_none (by rw [tailN_length]; omega), List.getElem?_eq_none (by rw [tailN_length]; omega)]
      · rw [tailN_at q hq, tailN_at q hq, hct]
        omega
      · unfold sum0 at hsum hsumc
        rw [tailN_length] at hsum hsumc
        rw [hsum, hsumc]
    have hc : c = t := bytes_ext hct (fun i hi => by
      by_cases e : i = t.size - 6 + q
      · rw [e]; exact hat
      · exact hkeep i (by omega) e)
    rw [hc]
theorem cut_facts (t : ByteArray) (h7 : 7 ≤ t.size) (h8 : t.size ≤ 8) (q : Nat) (hq : q < 6) :
    ((t.extract 0 (t.size - 6 + q) ++ (⟨#[63]⟩ : ByteArray)) ++ t.extract (t.size - 6 + q + 1) t.size = putB t (t.size - 6 + q) 63) ∧ (((t.size - 6 + q : Nat) : Int) ≤ (t.size : Int)) ∧ ((t.extract 0 (t.size - 6 + q)).size + 1 ≤ 9223372036854775807) ∧
    (((t.size - 6 + q + 1 : Nat) : Int) ≤ (t.size : Int)) ∧ ((t.extract 0 (t.size - 6 + q) ++ (⟨#[63]⟩ : ByteArray)).size + (t.extract (t.size - 6 + q + 1) t.size).size ≤ 9223372036854775807) ∧ ((putB t (t.size - 6 + q) 63).size ≤ 140737488351232) ∧ t.size - 6 + q ≤ 7 := by
  have hz1 : (t.extract 0 (t.size - 6 + q)).size = t.size - 6 + q := by rw [ByteArray.size_extract]; omega
  have hz2 : (t.extract 0 (t.size - 6 + q) ++ (⟨#[63]⟩ : ByteArray)).size = t.size - 6 + q + 1 := by rw [ByteArray.size_append, hz1]; rfl
  have hz3 : (t.extract (t.size - 6 + q + 1) t.size).size = t.size - (t.size - 6 + q + 1) := by rw [ByteArray.size_extract]; omega
  refine ⟨worn_bytes t (t.size - 6 + q) (by omega), by omega, by rw [hz1]; omega, by omega, by rw [hz2, hz3]; omega, by rw [putB_size]; omega, by omega⟩
theorem place_sum (t : ByteArray) (h7 : 7 ≤ t.size) (h8 : t.size ≤ 8) (q : Nat) (hq : q < 6) (y : Int) (h : y = (q : Int)) : wrap64 (wrap64 ((t.size : Int) - 6) + y) = ((t.size - 6 + q : Nat) : Int) := by
  subst h
  rw [w64 (n := (t.size : Int) - 6) (by omega) (by omega), w64 (by omega) (by omega)]
  omega
theorem place_next (p : Nat) (h : p ≤ 7) : wrap64 ((p : Int) + 1) = ((p + 1 : Nat) : Int) := by
  rw [w64 (by omega) (by omega)]
  omega
theorem RingRestores : wigeonlaw01_RingRestores.Pure := by
  intro s n x hs _ _
  refine Ev.rounds (?_ : Ev (fun k => wigeonlaw01_RingRestores.f k s n x) true)
  unfold wigeonlaw01_RingRestores.f wigeonlaw01_long.f
  refine Ev.some_bind ?_
  by_cases h : decide ((s.size : Int) > 200) = true
  · exact Ev.ifp h known_bind
  · have hs2 : s.size ≤ 200 := by simp at h; omega
    refine Ev.ifn h (Ev.bind (Make_ev s n (by omega)) ?_)
    by_cases he : (MakeP s n).2 = 0
    · have hm : serP s = true ∧ 0 ≤ n ∧ n ≤ 99999 ∧ MakeP s n = (makeP s n, 0) := by
        unfold MakeP at he ⊢
        by_cases h1 : serP s = true
        · rw [if_pos h1] at he ⊢
          by_cases h2 : n < 0
          · rw [if_pos h2] at he; exact absurd he (by decide)
          · rw [if_neg h2] at he ⊢
            by_cases h3 : n > 99999
            · rw [if_pos h3] at he; exact absurd he (by decide)
            · rw [if_neg h3]
              exact ⟨h1, by omega, by omega, rfl⟩
        · rw [if_neg h1] at he; exact absurd he (by decide)
      obtain ⟨h1, h2, h3, e⟩ := hm
      rw [e]
      have hv := make_valid s n h1
      have hts := make_size s n
      generalize makeP s n = t at *
      obtain ⟨hf, _⟩ := ValidP_ok hv
      obtain ⟨h7, h8, _, _⟩ := formP_true hf
      refine Ev.ifp rfl (Ev.step (fun k => by rw [wigeonlaw01_RingRestores.j0]) (Ev.ifn (by simp; omega) ?_))
      have hsz : 7 ≤ t.size ∧ t.size ≤ 8 := ⟨h7, h8⟩
      clear hf he h h1 h2 h3 hts hs2
      obtain ⟨q, hq, eq⟩ := place6 x
      obtain ⟨c1, c2, c3, c4, c5, c6, c7⟩ := cut_facts t hsz.1 hsz.2 q hq
      obtain ⟨_, hc, hfi⟩ := hole_first hv q hq
      have ep := place_sum t hsz.1 hsz.2 q hq _ eq
      have ep1 := place_next (t.size - 6 + q) c7
      clear eq
      rw [ep, ep1, Int.toNat_natCast, Int.toNat_natCast, c1]
      clear ep ep1
      refine Ev.ifp (Int.natCast_nonneg _) ?_
      refine Ev.ifp c2 ?_
      refine Ev.ifp c3 ?_
      refine Ev.ifp (Int.natCast_nonneg _) ?_
      refine Ev.ifp c4 ?_
      refine Ev.ifp c5 ?_
      generalize putB t (t.size - 6 + q) 63 = w at *
      refine Ev.bindc (Count_eq c6) ?_
      refine Ev.bindc (First_eq c6) ?_
      rw [hc, hfi]
      refine Ev.ifp rfl ?_
      refine Ev.ifp rfl ?_
      refine Ev.ifp rfl ?_
      refine Ev.ifp rfl ?_
      exact Ev.ifp rfl known_bind
    · refine Ev.ifn he (Ev.step (fun k => by rw [wigeonlaw01_RingRestores.j0]) (Ev.ifp rfl (Ev.ifn he known_bind)))

end Go.Proofs.Ytlbhighbhchdmaa.Pure
