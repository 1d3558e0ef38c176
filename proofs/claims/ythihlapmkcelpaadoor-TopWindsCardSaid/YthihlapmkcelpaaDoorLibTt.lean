import Derived.Test.YthihlapmkcelpaaDoorQx0
import Derived.Test.YthihlapmkcelpaaDoorQx2
import Derived.Test.YthihlapmkcelpaaDoorQx5
import Derived.Test.YthihlapmkcelpaaDoorQx16
import Derived.Test.YthihlapmkcelpaaDoorLibR
namespace Go.Proofs.YthihlapmkcelpaaDoor.Pure
open Go.RowKit Go.Proofs.YthihlapmkcelpaaDoor.Q Go.Proofs.YthihlapmkcelpaaDoorW.PrintWords Go.Proofs.YthihlapmkcelpaaDoorW.PrintLast Go.Proofs.YthihlapmkcelpaaDoorW.PrintMore

/-! The fewest pipes that cover all points. -/
def bitsTo (n : Nat) : Nat → List Int
  | 0 => []
  | i + 1 => if n.testBit i = true then bitsTo n i ++ [(i : Int)] else bitsTo n i
theorem bitsTo_length (n m : Nat) : (bitsTo n m).length ≤ m := by
  induction m with
  | zero => exact Nat.le_refl _
  | succ m ih =>
    unfold bitsTo
    split
    · rw [List.length_append, List.length_singleton]; omega
    · omega
theorem rd_left (l : List Int) (x : Int) (i : Nat) (h : i < l.length) : rd (l ++ [x]) (i : Int) = rd l (i : Int) := by
  unfold rd
  rw [Int.toNat_natCast, List.getD_eq_getElem?_getD, List.getD_eq_getElem?_getD, List.getElem?_append_left h]
theorem rd_last (l : List Int) (x : Int) : rd (l ++ [x]) (l.length : Int) = x := by
  unfold rd
  rw [Int.toNat_natCast, List.getD_eq_getElem?_getD, List.getElem?_append_right (Nat.le_refl _), Nat.sub_self]
  rfl
theorem bitsTo_mem (n m : Nat) : (∀ j, j < (bitsTo n m).length → ∃ i, i < m ∧ n.testBit i = true ∧ rd (bitsTo n m) (j : Int) = (i : Int)) ∧
    (∀ j, 0 < j → j < (bitsTo n m).length → rd (bitsTo n m) ((j - 1 : Nat) : Int) < rd (bitsTo n m) (j : Int)) ∧
    (∀ i, i < m → n.testBit i = true → ∃ j, j < (bitsTo n m).length ∧ rd (bitsTo n m) (j : Int) = (i : Int)) := by
  induction m with
  | zero => exact ⟨fun j hj => absurd hj (Nat.not_lt_zero j), fun j _ hj => absurd hj (Nat.not_lt_zero j), fun i hi => absurd hi (Nat.not_lt_zero i)⟩
  | succ m ih =>
    obtain ⟨ih1, ih2, ih3⟩ := ih
    by_cases hb : n.testBit m = true
    · rw [show bitsTo n (m + 1) = bitsTo n m ++ [(m : Int)] from if_pos hb]
      generalize bitsTo n m = l at *
      rw [List.length_append, List.length_singleton]
      refine ⟨fun j hj => ?_, fun j h0 hj => ?_, fun i hi hbi => ?_⟩
      · by_cases e : j = l.length
        · subst e
          exact ⟨m, by omega, hb, rd_last l _⟩
        · obtain ⟨i, h1, h2, h3⟩ := ih1 j (by omega)
          exact ⟨i, by omega, h2, by rw [rd_left l _ j (by omega)]; exact h3⟩
      · rw [rd_left l _ (j - 1) (by omega)]
        by_cases e : j = l.length
        · subst e
          obtain ⟨i, h1, h2, h3⟩ := ih1 (l.length - 1) (by omega)
          rw [rd_last, h3]
          omega
        · rw [rd_left l _ j (by omega)]
          exact ih2 j h0 (by omega)
      · by_cases e : i = m
        · subst e
          exact ⟨l.length, by omega, rd_last l _⟩
        · obtain ⟨j, h1, h2⟩ := ih3 i (by omega) hbi
          exact ⟨j, by omega, by rw [rd_left l _ j h1]; exact h2⟩
    · rw [show bitsTo n (m + 1) = bitsTo n m from if_neg hb]
      refine ⟨fun j hj => ?_, ih2, fun i hi hbi => ?_⟩
      · obtain ⟨i, h1, h2, h3⟩ := ih1 j hj
        exact ⟨i, by omega, h2, h3⟩
      · by_cases e : i = m
        · subst e; exact absurd hbi hb
        · exact ih3 i (by omega) hbi
theorem bitsTo_stop {n m : Nat} (h : n < 2 ^ m) (d : Nat) : bitsTo n (m + d) = bitsTo n m := by
  induction d with
  | zero => rfl
  | succ d ih =>
    have : n.testBit (m + d) = false := by
      apply Nat.testBit_lt_two_pow
      have := Nat.pow_le_pow_right (n := 2) (by decide) (show m ≤ m + d by omega)
      omega
    rw [← Nat.add_assoc, show bitsTo n (m + d + 1) = bitsTo n (m + d) from if_neg (by rw [this]; decide), ih]
set_option maxRecDepth 100000 in
theorem list_all : ∀ x : Fin 1024, wind_list.f 11 (x.val : Int) = some (bitsTo x.val 10) := by decide +kernel
theorem list_ev (n m : Nat) (hm : m ≤ 10) (hn : n < 2 ^ m) : Ev (fun k => wind_list.f k (n : Int)) (bitsTo n m) := by
  have h1 := Nat.pow_le_pow_right (n := 2) (by decide) hm
  have h := list_all ⟨n, by omega⟩
  have e : bitsTo n 10 = bitsTo n m := by
    have hs := bitsTo_stop hn (10 - m)
    rwa [show m + (10 - m) = 10 by omega] at hs
  rw [← e]
  exact Ev.of (fun k => wind_list.mono _ k) h
theorem bitsTo_asc (n m : Nat) : ascQ (bitsTo n m) (m : Int) = true := by
  obtain ⟨h1, h2, _⟩ := bitsTo_mem n m
  refine cd_t fun j hj => ?_
  obtain ⟨i, hi, _, he⟩ := h1 j hj
  rw [he]
  exact ⟨by omega, by omega, fun h0 => by have := h2 j h0 hj; rwa [he] at this⟩
def CovP (l : List S33) (n : Nat) : Prop := ∀ p, p < 32 → ∃ i, i < l.length ∧ n.testBit i = true ∧ inA (atA l i) p = true
theorem cov_bits (l : List S33) (n : Nat) : covQ l (bitsTo n l.length) = true ↔ CovP l n := by
  obtain ⟨h1, _, h3⟩ := bitsTo_mem n l.length
  constructor
  · intro h p hp
    obtain ⟨j, hj, hin⟩ := cd_of h p hp
    obtain ⟨i, hi, hb, he⟩ := h1 j hj
    rw [he, Int.toNat_natCast] at hin
    exact ⟨i, hi, hb, hin⟩
  · intro h
    refine cd_t fun p hp => ?_
    obtain ⟨i, hi, hb, hin⟩ := h p hp
    obtain ⟨j, hj, he⟩ := h3 i hi hb
    exact ⟨j, hj, by rw [he, Int.toNat_natCast]; exact hin⟩
theorem full_bits (l : List S33) (n : Nat) : ((unTo l n l.length : Nat) : Int) = 4294967295 ↔ CovP l n := by
  have hlt := unTo_lt l n l.length
  constructor
  · intro h p hp
    have e : unTo l n l.length = 4294967295 := by omega
    exact (unTo_bit l n _ p hp).1 (by rw [e, full_mask, mask_bit _ p hp])
  · intro h
    have e : unTo l n l.length = maskN (fun _ => true) 32 := mask_eq hlt fun p hp => (unTo_bit l n _ p hp).2 (h p hp)
    rw [e, ← full_mask]
    rfl
/-! Which of two sets is before the other one. -/
def lexF (a b : List Int) : Nat → Nat → Bool
  | _, 0 => false
  | i, d + 1 => if rd a (i : Int) = rd b (i : Int) then lexF a b (i + 1) d else decide (rd a (i : Int) < rd b (i : Int))
def cmpF (a b : List Int) : Nat → Nat → Int
  | _, 0 => 0
  | i, d + 1 => if rd a (i : Int) = rd b (i : Int) then cmpF a b (i + 1) d else if rd a (i : Int) < rd b (i : Int) then -1 else 1
theorem cmp_lex (a b : List Int) (d : Nat) : ∀ i, (cmpF a b i d < 0) ↔ lexF a b i d = true := by
  induction d with
  | zero => intro i; simp [cmpF, lexF]
  | succ d ih =>
    intro i
    unfold cmpF lexF
    by_cases h : rd a (i : Int) = rd b (i : Int)
    · rw [if_pos h, if_pos h]; exact ih (i + 1)
    · rw [if_neg h, if_neg h, decide_eq_true_eq]
      by_cases h2 : rd a (i : Int) < rd b (i : Int)
      · rw [if_pos h2]; exact ⟨fun _ => h2, fun _ => by decide⟩
      · rw [if_neg h2]; exact ⟨fun h => absurd h (by decide), fun h => absurd h h2⟩
theorem cmp_int (x y : Int) : cmp_Compare_int.f x y = some (if x = y then 0 else if x < y then -1 else 1) := by
  unfold cmp_Compare_int.f cmp_isNaN_int.f
  have e (z : Int) : (z != z) = false := by simp
  simp only [e, Option.bind_some, Bool.false_eq_true, if_false]
  by_cases h : x = y
  · subst h
    simp
  · rw [if_neg h]
    by_cases h2 : x < y
    · rw [if_pos h2, if_pos h2]
    · rw [if_neg h2, if_neg h2, if_pos (by omega)]
theorem compare_loop (a b : List Int) (hab : a.length = b.length) (ha : a.length ≤ 1000) (d : Nat) : ∀ i : Nat, i + d = a.length →
    Ev (fun k => slices_Compare_int_int.l0 k a b a (a.length : Int) (i : Int)) (cmpF a b i d) := by
  induction d with
  | zero =>
    intro i hi
    refine Ev.step (fun k => by rw [slices_Compare_int_int.l0]) ?_
    exact Ev.ifn (by omega) (Ev.ifn (by omega) (Ev.now _))
  | succ d ih =>
    intro i hi
    refine Ev.step (fun k => by rw [slices_Compare_int_int.l0]) ?_
    refine Ev.ifp (by omega) (Ev.ifp (by omega) (Ev.ifp (by omega) (Ev.ifn (by omega) (Ev.ifp (by omega) (Ev.bindc (cmp_int _ _) ?_)))))
    unfold cmpF
    by_cases h : rd a (i : Int) = rd b (i : Int)
    · rw [if_pos h, if_pos h]
      refine Ev.ifp rfl ?_
      rw [w64 (by omega) (by omega), show ((i : Int) + 1) = ((i + 1 : Nat) : Int) by omega]
      exact ih (i + 1) (by omega)
    · rw [if_neg h, if_neg h]
      by_cases h2 : rd a (i : Int) < rd b (i : Int)
      · rw [if_pos h2]; exact Ev.ifn (by decide) (Ev.now _)
      · rw [if_neg h2]; exact Ev.ifn (by decide) (Ev.now _)
theorem compare_ev (a b : List Int) (hab : a.length = b.length) (ha : a.length ≤ 1000) : Ev (fun k => slices_Compare_int_int.f k a b) (cmpF a b 0 a.length) := compare_loop a b hab ha a.length 0 (by omega)
def better (a b : List Int) : Bool := if a.length = b.length then lexF a b 0 a.length else decide (a.length < b.length)
/-- The best set so far. -/
noncomputable def stepB (l : List S33) (s : List Int × Bool) (n : Nat) : List Int × Bool :=
  if covQ l (bitsTo n l.length) = true then (if s.2 = true then (if better (bitsTo n l.length) s.1 = true then (bitsTo n l.length, true) else s) else (bitsTo n l.length, true)) else s
noncomputable def foldB (l : List S33) : Nat → List Int × Bool
  | 0 => ([], false)
  | n + 1 => stepB l (foldB l n) n
theorem foldB_length (l : List S33) (n : Nat) : (foldB l n).1.length ≤ l.length := by
  induction n with
  | zero => exact Nat.zero_le _
  | succ n ih =>
    have hb := bitsTo_length n l.length
    show (stepB l (foldB l n) n).1.length ≤ _
    unfold stepB
    split
    · split
      · split
        · exact hb
        · exact ih
      · exact hb
    · exact ih
theorem foldB_found (l : List S33) (N : Nat) : (foldB l N).2 = true ↔ ∃ n, n < N ∧ CovP l n := by
  induction N with
  | zero => exact ⟨fun h => absurd (show false = true from h) (by decide), fun ⟨n, hn, _⟩ => absurd hn (Nat.not_lt_zero n)⟩
  | succ N ih =>
    have hs : (foldB l (N + 1)).2 = true ↔ ((foldB l N).2 = true ∨ CovP l N) := by
      rw [← cov_bits]
      show (stepB l (foldB l N) N).2 = true ↔ _
      unfold stepB
      by_cases h1 : covQ l (bitsTo N l.length) = true
      · rw [if_pos h1]
        by_cases h2 : (foldB l N).2 = true
        · rw [if_pos h2]
          split
          · exact ⟨fun _ => .inr h1, fun _ => rfl⟩
          · exact ⟨fun h => .inl h, fun _ => h2⟩
        · rw [if_neg h2]
          exact ⟨fun _ => .inr h1, fun _ => rfl⟩
      · rw [if_neg h1]
        exact ⟨fun h => .inl h, fun h => h.resolve_right h1⟩
    rw [hs, ih]
    constructor
    · rintro (⟨n, hn, hc⟩ | hc)
      · exact ⟨n, by omega, hc⟩
      · exact ⟨N, by omega, hc⟩
    · rintro ⟨n, hn, hc⟩
      by_cases e : n = N
      · subst e; exact .inr hc
      · exact .inl ⟨n, by omega, hc⟩
def fewP (s : List Int × Bool) : List Int × Bool × Int := (s.1, s.2, 0)
theorem u64_next {n : Nat} (h : n < 4294967296) : IntKind.u64.wrap ((n : Int) + 1) = ((n + 1 : Nat) : Int) := by
  show ((n : Int) + 1) % 18446744073709551616 = _
  omega
theorem fewest_loop (l : List S33) (h : PipesOk l) (d : Nat) : ∀ n : Nat, n + d = 2 ^ l.length →
    Ev (fun k => wind_Fewest.l0 k l (foldB l n).1 (foldB l n).2 ((2 ^ l.length : Nat) : Int) (n : Int)) (fewP (foldB l (2 ^ l.length))) := by
  have hl := h.1
  have hp := Nat.pow_le_pow_right (n := 2) (by decide) hl
  induction d with
  | zero =>
    intro n hn
    refine Ev.step (fun k => by rw [wind_Fewest.l0]) ?_
    exact Ev.ifn (by omega) (Ev.val (by rw [show n = 2 ^ l.length by omega]; rfl))
  | succ d ih =>
    intro n hn
    have hnext := ih (n + 1) (by omega)
    have hlen := bitsTo_length n l.length
    have hlb := foldB_length l n
    rw [show foldB l (n + 1) = stepB l (foldB l n) n from rfl] at hnext
    unfold stepB at hnext
    refine Ev.step (fun k => by rw [wind_Fewest.l0]) ?_
    refine Ev.ifp (by omega) (Ev.bind (union_ev l h n (by omega)) (Ev.bindc (show wind_all.f = some 4294967295 from rfl) ?_))
    rw [u64_next (by omega)]
    by_cases hc : covQ l (bitsTo n l.length) = true
    · rw [if_pos hc] at hnext
      refine Ev.ifp ((full_bits l n).2 ((cov_bits l n).1 hc)) (Ev.bind (list_ev n l.length hl (by omega)) ?_)
      generalize foldB l n = s at *
      obtain ⟨b, f⟩ := s
      cases f with
      | true =>
        rw [if_pos rfl] at hnext
        refine Ev.ifp rfl ?_
        unfold better at hnext
        by_cases h1 : (bitsTo n l.length).length < b.length
        · refine Ev.ifp (by show ((bitsTo n l.length).length : Int) < (b.length : Int); omega) ?_
          rw [if_neg (show ¬ (bitsTo n l.length).length = b.length by omega), if_pos (decide_eq_true h1)] at hnext
          exact hnext
        · refine Ev.ifn (by show ¬ ((bitsTo n l.length).length : Int) < (b.length : Int); omega) ?_
          by_cases h2 : (bitsTo n l.length).length = b.length
          · refine Ev.ifp (by show ((bitsTo n l.length).length : Int) = (b.length : Int); omega) (Ev.bind (compare_ev _ _ h2 (by omega)) ?_)
            rw [if_pos (show (bitsTo n l.length).length = b.length from h2)] at hnext
            by_cases h3 : cmpF (bitsTo n l.length) b 0 (bitsTo n l.length).length < 0
            · rw [if_pos ((cmp_lex _ _ _ 0).1 h3)] at hnext
              exact Ev.ifp h3 hnext
            · rw [if_neg (fun hh => h3 ((cmp_lex _ _ _ 0).2 hh))] at hnext
              exact Ev.ifn h3 hnext
          · refine Ev.ifn (by show ¬ ((bitsTo n l.length).length : Int) = (b.length : Int); omega) ?_
            rw [if_neg (show ¬ (bitsTo n l.length).length = b.length from h2), if_neg (by rw [decide_eq_false h1]; decide)] at hnext
            exact hnext
      | false =>
        rw [if_neg (show ¬ (false = true) by decide)] at hnext
        exact Ev.ifn (show ¬ (false = true) by decide) hnext
    · rw [if_neg hc] at hnext
      exact Ev.ifn (fun hh => hc ((cov_bits l n).2 ((full_bits l n).1 hh))) hnext
def fewestP (l : List S33) (s : List Int × Bool) : List Int × Bool × Int := if pipesErr l = 0 then fewP s else ([], false, pipesErr l)
theorem fewest_ev (l : List S33) : Ev (fun k => wind_Fewest.f k l) (fewestP l (foldB l (2 ^ l.length))) := by
  unfold wind_Fewest.f fewestP
  refine Ev.bind (pipes_ev l) ?_
  by_cases h0 : pipesErr l = 0
  · rw [if_pos h0]
    have h := pipes_ok h0
    have hp := Nat.pow_le_pow_right (n := 2) (by decide) h.1
    have hpos := Nat.two_pow_pos l.length
    refine Ev.ifp h0 (Ev.bindc (everything_at l h.1) ?_)
    rw [u64_next (by omega), show 2 ^ l.length - 1 + 1 = 2 ^ l.length by omega]
    exact fewest_loop l h (2 ^ l.length) 0 (by omega)
  · rw [if_neg h0]
    exact Ev.ifn h0 (Ev.now _)
theorem shl_i64 {i : Nat} (hi : i ≤ 10) : shl .i64 1 (i : Int) = ((2 ^ i : Nat) : Int) := by
  have h := Nat.pow_le_pow_right (n := 2) (by decide) hi
  have h0 := Nat.two_pow_pos i
  unfold shl
  rw [Int.toNat_natCast, show min i IntKind.i64.bits = i from Nat.min_eq_left (show i ≤ 64 by omega), Int.one_mul, IntKind.wrap_i64]
  rw [show ((2 : Int) ^ i) = ((2 ^ i : Nat) : Int) by rw [Int.natCast_pow]; rfl]
  generalize 2 ^ i = x at *
  omega
/-- Some pipes cover all points exactly if no wind is in the lee. -/
theorem found_lee (l : List S33) : (foldB l (2 ^ l.length)).2 = (((leeN l : Nat) : Int) == 0) := by
  rw [Bool.eq_iff_iff, foldB_found, beq_iff_eq]
  constructor
  · rintro ⟨n, _, hc⟩
    have e : leeN l = maskN (fun _ => false) 32 := mask_congr fun p hp => by
      obtain ⟨i, hi, _, hin⟩ := hc p hp
      unfold leeF
      have : (workTo l p l.length).length ≠ 0 := fun h => by rw [(workTo_nil l p _).1 h i hi] at hin; exact absurd hin (by decide)
      simp [this]
    rw [e]
    decide
  · intro h
    refine ⟨2 ^ l.length - 1, by have := Nat.two_pow_pos l.length; omega, fun p hp => ?_⟩
    have hb : (leeN l).testBit p = leeF l p := mask_bit _ p hp
    rw [show leeN l = 0 by omega, Nat.zero_testBit] at hb
    have hne : (workTo l p l.length).length ≠ 0 := fun hz => by
      unfold leeF at hb
      rw [hz] at hb
      exact absurd hb (by decide)
    apply Classical.byContradiction
    intro hn
    apply hne
    refine (workTo_nil l p _).2 fun i hi => ?_
    cases hq : inA (atA l i) p with
    | false => rfl
    | true => exact absurd ⟨i, hi, by rw [Nat.testBit_two_pow_sub_one]; exact decide_eq_true hi, hq⟩ hn

end Go.Proofs.YthihlapmkcelpaaDoor.Pure
