import Derived.Test.YthihlapmkcelpaaDoorQx0
import Derived.Test.YthihlapmkcelpaaDoorQx2
import Derived.Test.YthihlapmkcelpaaDoorQx5
import Derived.Test.YthihlapmkcelpaaDoorQx10
import Derived.Test.YthihlapmkcelpaaDoorLibQ
namespace Go.Proofs.YthihlapmkcelpaaDoor.Pure
open Go.RowKit Go.Proofs.YthihlapmkcelpaaDoor.Q Go.Proofs.YthihlapmkcelpaaDoorW.PrintWords Go.Proofs.YthihlapmkcelpaaDoorW.PrintLast Go.Proofs.YthihlapmkcelpaaDoorW.PrintMore

/-! The pipes that can be worked at a point. -/
def workTo (l : List S33) (p : Nat) : Nat → List Int
  | 0 => []
  | n + 1 => if inA (atA l n) p = true then workTo l p n ++ [(n : Int)] else workTo l p n
theorem workTo_length (l : List S33) (p n : Nat) : (workTo l p n).length ≤ n := by
  induction n with
  | zero => exact Nat.le_refl _
  | succ n ih =>
    unfold workTo
    split
    · rw [List.length_append, List.length_singleton]; omega
    · omega
theorem workTo_nil (l : List S33) (p n : Nat) : (workTo l p n).length = 0 ↔ ∀ i, i < n → inA (atA l i) p = false := by
  induction n with
  | zero => exact ⟨fun _ i hi => by omega, fun _ => rfl⟩
  | succ n ih =>
    unfold workTo
    by_cases h : inA (atA l n) p = true
    · rw [if_pos h, List.length_append, List.length_singleton]
      exact ⟨fun hh => by omega, fun hh => by rw [hh n (by omega)] at h; exact absurd h (by decide)⟩
    · rw [if_neg h, ih]
      constructor
      · intro hh i hi
        by_cases e : i = n
        · rw [e]; exact Bool.eq_false_iff.mpr h
        · exact hh i (by omega)
      · intro hh i hi
        exact hh i (by omega)
theorem pts_has {x p : Nat} (hx : x < 4294967296) (hp : p < 32) : wind_points_has.f (x : Int) (p : Int) = some (x.testBit p) := by
  unfold wind_points_has.f
  have e : shr .u32 (x : Int) (p : Int) = (x : Int) / 2 ^ p := by
    unfold shr
    rw [Int.toNat_natCast, show min p IntKind.u32.bits = p from Nat.min_eq_left (show p ≤ 32 by omega)]
  rw [if_pos (by omega), e, has_bit hx p]
theorem work_loop (l : List S33) (h : PipesOk l) (p : Nat) (hp : p < 32) (d : Nat) : ∀ i : Nat, i + d = l.length →
    Ev (fun k => wind_Workable.l0 k (p : Int) (workTo l p i) l (l.length : Int) (i : Int)) (workTo l p l.length, 0) := by
  have hl := h.1
  induction d with
  | zero =>
    intro i hi
    refine Ev.step (fun k => by rw [wind_Workable.l0]) ?_
    exact Ev.ifn (by omega) (Ev.val (by rw [show i = l.length by omega]))
  | succ d ih =>
    intro i hi
    refine Ev.step (fun k => by rw [wind_Workable.l0]) ?_
    refine Ev.ifp (by omega) (Ev.ifp (by omega) (Ev.ifp (by omega) ?_))
    rw [rdA, w64 (by omega) (by omega), show ((i : Int) + 1) = ((i + 1 : Nat) : Int) by omega]
    refine Ev.bindc (of_at (h.at (by omega))) (Ev.bindc (pts_has (mask32_lt _) hp) ?_)
    have hn := ih (i + 1) (by omega)
    have e : (arcN (atA l i)).testBit p = inA (atA l i) p := mask_bit _ p hp
    rw [e]
    have hw := workTo_length l p i
    by_cases hb : inA (atA l i) p = true
    · refine Ev.ifp hb (Ev.ifp (by omega) ?_)
      rw [show workTo l p (i + 1) = workTo l p i ++ [(i : Int)] from if_pos hb] at hn
      exact hn
    · refine Ev.ifn hb ?_
      rw [show workTo l p (i + 1) = workTo l p i from if_neg hb] at hn
      exact hn
theorem ref_work_loop (l : List S33) (h : PipesOk l) (p : Nat) (hp : p < 32) (d : Nat) : ∀ i : Nat, i + d = l.length →
    Ev (fun k => wigeonref03_workable.l0 k l (p : Int) (workTo l p i) (i : Int)) (workTo l p l.length) := by
  have hl := h.1
  induction d with
  | zero =>
    intro i hi
    refine Ev.step (fun k => by rw [wigeonref03_workable.l0]) ?_
    exact Ev.ifn (by omega) (Ev.val (by rw [show i = l.length by omega]))
  | succ d ih =>
    intro i hi
    refine Ev.step (fun k => by rw [wigeonref03_workable.l0]) ?_
    refine Ev.ifp (by omega) (Ev.ifp (by omega) ?_)
    rw [rdA, w64 (by omega) (by omega), show ((i : Int) + 1) = ((i + 1 : Nat) : Int) by omega]
    refine Ev.bindc (has_at (h.at (by omega)) hp) ?_
    have hn := ih (i + 1) (by omega)
    have hw := workTo_length l p i
    by_cases hb : inA (atA l i) p = true
    · refine Ev.ifp hb (Ev.ifp (by omega) ?_)
      rw [show workTo l p (i + 1) = workTo l p i ++ [(i : Int)] from if_pos hb] at hn
      exact hn
    · refine Ev.ifn hb ?_
      rw [show workTo l p (i + 1) = workTo l p i from if_neg hb] at hn
      exact hn
theorem ref_work_ev (l : List S33) (h : PipesOk l) (p : Nat) (hp : p < 32) : Ev (fun k => wigeonref03_workable.f k l (p : Int)) (workTo l p l.length) := ref_work_loop l h p hp l.length 0 (by omega)
def workP (l : List S33) (q : Int) : List Int × Int := if pipesErr l = 0 then (if 0 ≤ q ∧ q ≤ 31 then (workTo l q.toNat l.length, 0) else ([], 1)) else ([], pipesErr l)
theorem work_ev (l : List S33) (q : Int) : Ev (fun k => wind_Workable.f k l q) (workP l q) := by
  unfold wind_Workable.f workP
  refine Ev.bind (pipes_ev l) ?_
  by_cases h0 : pipesErr l = 0
  · rw [if_pos h0]
    refine Ev.ifp h0 (Ev.bindc (Q.isPoint_eq q) ?_)
    by_cases hq : 0 ≤ q ∧ q ≤ 31
    · rw [if_pos hq]
      obtain ⟨p, rfl⟩ := Int.eq_ofNat_of_zero_le hq.1
      exact Ev.ifp (decide_eq_true hq) (work_loop l (pipes_ok h0) p (by omega) l.length 0 (by omega))
    · rw [if_neg hq]
      exact Ev.ifn (by rw [decide_eq_false hq]; decide) (Ev.now _)
  · rw [if_neg h0]
    exact Ev.ifn h0 (Ev.now _)
theorem ref_work_all (l : List S33) (q : Int) : Ev (fun k => wigeonref03_Workable.f k l q) (workP l q) := by
  unfold wigeonref03_Workable.f workP
  refine Ev.bind (ref_pipes_ev l) ?_
  by_cases h0 : pipesErr l = 0
  · rw [if_pos h0]
    refine Ev.ifp h0 (Ev.bindc (ref_point q) ?_)
    by_cases hq : 0 ≤ q ∧ q ≤ 31
    · rw [if_pos hq]
      obtain ⟨p, rfl⟩ := Int.eq_ofNat_of_zero_le hq.1
      exact Ev.ifp (decide_eq_true hq) (Ev.bind (ref_work_ev l (pipes_ok h0) p (by omega)) (Ev.now _))
    · rw [if_neg hq]
      exact Ev.ifn (by rw [decide_eq_false hq]; decide) (Ev.now _)
  · rw [if_neg h0]
    exact Ev.ifn h0 (Ev.now _)
/-! The points at which no pipe can be worked. -/
def leeF (l : List S33) (p : Nat) : Bool := ((workTo l p l.length).length : Int) == 0
def leeN (l : List S33) : Nat := maskN (leeF l) 32
def leeP (l : List S33) : Int × Int := if pipesErr l = 0 then (((leeN l : Nat) : Int), 0) else (0, pipesErr l)
theorem leeAll_ev (l : List S33) (h : PipesOk l) (n : Nat) (hn : n ≤ 32) : ∃ g : Nat → Bool, Ev (fun k => leeAll k l n) g ∧ ∀ p, p < n → g p = leeF l p := by
  induction n with
  | zero => exact ⟨noneB, Ev.now _, fun p hp => by omega⟩
  | succ n ih =>
    obtain ⟨g, hg, hp⟩ := ih (by omega)
    refine ⟨updF g n (leeF l n), Ev.bind hg (Ev.bind (ref_work_ev l h n (by omega)) (Ev.now _)), fun p hpn => ?_⟩
    unfold updF
    by_cases e : p = n
    · rw [if_pos e, e]
    · rw [if_neg e]
      exact hp p (by omega)
theorem ref_lee_ev (l : List S33) : Ev (fun k => wigeonref03_Lee.f k l) (leeP l) := by
  unfold wigeonref03_Lee.f leeP
  refine Ev.bind (ref_pipes_ev l) ?_
  by_cases h0 : pipesErr l = 0
  · rw [if_pos h0]
    obtain ⟨g, hg, hp⟩ := leeAll_ev l (pipes_ok h0) 32 (Nat.le_refl _)
    refine Ev.ifp h0 (Ev.bind hg (Ev.val ?_))
    unfold leeN
    rw [mask_congr hp]
  · rw [if_neg h0]
    exact Ev.ifn h0 (Ev.now _)
theorem everything_at (l : List S33) (h : l.length ≤ 10) : wind_everything.f l = some (((2 ^ l.length - 1 : Nat)) : Int) := by
  unfold wind_everything.f
  have h1 := Nat.pow_le_pow_right (n := 2) (by decide) h
  have h2 := Nat.two_pow_pos l.length
  rw [shl64 (by omega)]
  congr 1
  show (((2 ^ l.length : Nat) : Int) - 1) % 18446744073709551616 = _
  omega
theorem lee_not {l : List S33} : wrap64 (bits .xor .u32 IntKind.u32.max ((unTo l (2 ^ l.length - 1) l.length : Nat) : Int)) = ((leeN l : Nat) : Int) := by
  have hlt := unTo_lt l (2 ^ l.length - 1) l.length
  have e : (IntKind.u32.max : Int) = ((4294967295 : Nat) : Int) := by decide
  rw [e, u32_xor_nat _ _ (by decide) hlt]
  have hx : 4294967295 ^^^ unTo l (2 ^ l.length - 1) l.length = leeN l := by
    refine mask_eq (Nat.xor_lt_two_pow (n := 32) (by decide) hlt) fun p hp => ?_
    rw [Nat.testBit_xor, full_mask, mask_bit _ p hp]
    unfold leeF
    by_cases hb : (unTo l (2 ^ l.length - 1) l.length).testBit p = true
    · rw [hb]
      obtain ⟨i, h1, _, h3⟩ := (unTo_bit l _ _ p hp).1 hb
      have : (workTo l p l.length).length ≠ 0 := fun h => by rw [(workTo_nil l p _).1 h i h1] at h3; exact absurd h3 (by decide)
      simp [this]
    · rw [Bool.eq_false_iff.mpr hb]
      have : (workTo l p l.length).length = 0 := (workTo_nil l p _).2 fun i hi => by
        cases hq : inA (atA l i) p with
        | false => rfl
        | true => exact absurd ((unTo_bit l _ _ p hp).2 ⟨i, hi, by rw [Nat.testBit_two_pow_sub_one]; exact decide_eq_true hi, hq⟩) hb
      simp [this]
  have hl := mask32_lt (leeF l)
  rw [hx]
  unfold leeN
  rw [w64 (by omega) (by omega)]
theorem lee_ev (l : List S33) : Ev (fun k => wind_Lee.f k l) (leeP l) := by
  unfold wind_Lee.f leeP
  refine Ev.bind (pipes_ev l) ?_
  by_cases h0 : pipesErr l = 0
  · rw [if_pos h0]
    have h := pipes_ok h0
    have h1 := Nat.pow_le_pow_right (n := 2) (by decide) h.1
    refine Ev.ifp h0 (Ev.bindc (everything_at l h.1) (Ev.bind (union_ev l h _ (by omega)) (Ev.val ?_)))
    rw [lee_not]
  · rw [if_neg h0]
    exact Ev.ifn h0 (Ev.now _)
/-! Equal lists. -/
theorem same_loop (a : List Int) (ha : a.length ≤ 1000) (d : Nat) : ∀ i : Nat, i + d = a.length → Ev (fun k => wigeonref01_SameInts.l0 k a a (i : Int)) true := by
  induction d with
  | zero =>
    intro i hi
    refine Ev.step (fun k => by rw [wigeonref01_SameInts.l0]) ?_
    exact Ev.ifn (by omega) (Ev.now _)
  | succ d ih =>
    intro i hi
    refine Ev.step (fun k => by rw [wigeonref01_SameInts.l0]) ?_
    refine Ev.ifp (by omega) (Ev.ifp (by omega) (Ev.ifp (by omega) (Ev.ifp rfl ?_)))
    rw [w64 (by omega) (by omega), show ((i : Int) + 1) = ((i + 1 : Nat) : Int) by omega]
    exact ih (i + 1) (by omega)
theorem same_ev (a : List Int) (ha : a.length ≤ 1000) : Ev (fun k => wigeonref03_SameInts.f k a a) true := by
  unfold wigeonref03_SameInts.f wigeonref01_SameInts.f
  refine Ev.bind (?_ : Ev (fun k => if (a.length : Int) = (a.length : Int) then wigeonref01_SameInts.l0 k a a 0 else some false) true) (Ev.now _)
  exact Ev.ifp rfl (same_loop a ha a.length 0 (by omega))

end Go.Proofs.YthihlapmkcelpaaDoor.Pure
