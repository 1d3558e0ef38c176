import Derived.Test.YthihlapmkcelpaaDoorQx0
import Derived.Test.YthihlapmkcelpaaDoorQx2
import Derived.Test.YthihlapmkcelpaaDoorQx7
import Derived.Test.YthihlapmkcelpaaDoorQx8
import Derived.Test.YthihlapmkcelpaaDoorLibA
namespace Go.Proofs.YthihlapmkcelpaaDoor.Pure
open Go.RowKit Go.Proofs.YthihlapmkcelpaaDoor.Q Go.Proofs.YthihlapmkcelpaaDoorW.PrintWords Go.Proofs.YthihlapmkcelpaaDoorW.PrintLast Go.Proofs.YthihlapmkcelpaaDoorW.PrintMore

/-! Pipes: lists of arcs, and sets of them. -/
theorem ref_point (p : Int) : wigeonref03_isPoint.f p = some (decide (0 ≤ p ∧ p ≤ 31)) := by
  unfold wigeonref03_isPoint.f
  by_cases h : p ≥ 0
  · rw [if_pos h]
    congr 1
    rw [decide_eq_decide]
    omega
  · rw [if_neg h, decide_eq_false (by omega)]
def okA (x : S33) : Bool := arcOk x.f0 x.f1
def pipesErr (l : List S33) : Int := if l.length > 10 then 3 else if l.all okA = true then 0 else 1
theorem arc_at (x : S33) : wind_ValidateArc.f x.f0 x.f1 = some (if okA x = true then 0 else 1) := validateArc_eq x.f0 x.f1
theorem ref_arc_at (x : S33) : wigeonref03_ValidateArc.f x.f0 x.f1 = some (if okA x = true then 0 else 1) := by
  unfold wigeonref03_ValidateArc.f okA arcOk
  rw [ref_point]
  by_cases h1 : 0 ≤ x.f0 ∧ x.f0 ≤ 31
  · by_cases h2 : x.f1 < 1
    · have : ¬ (1 ≤ x.f1) := by omega
      simp [h1, h2, this]
    · by_cases h3 : x.f1 > 32
      · have h4 : ¬ (x.f1 ≤ 32) := by omega
        simp [h1, h2, h3, h4]
      · have h4 : 1 ≤ x.f1 := by omega
        have h5 : x.f1 ≤ 32 := by omega
        simp [h1, h2, h3, h4, h5]
  · simp [h1]
theorem rdT (l : List S33) (i : Nat) (h : i < l.length) : rd_T33 l (i : Int) = l[i] := by
  unfold rd_T33
  rw [Int.toNat_natCast, List.getD_eq_getElem?_getD, List.getElem?_eq_getElem h]
  rfl
theorem all_split {l : List S33} {p : S33 → Bool} (h : l.all p = true) (i : Nat) (hi : i < l.length) : p (l[i]) = true := List.all_eq_true.1 h _ (List.getElem_mem hi)
theorem pipes_loop (l : List S33) (hl : l.length ≤ 10) (d : Nat) : ∀ i : Nat, i + d = l.length →
    Ev (fun k => wind_ValidatePipes.l0 k l (l.length : Int) (i : Int)) (if (l.drop i).all okA = true then 0 else 1) := by
  induction d with
  | zero =>
    intro i hi
    refine Ev.step (fun k => by rw [wind_ValidatePipes.l0]) ?_
    refine Ev.ifn (by omega) ?_
    rw [List.drop_of_length_le (by omega)]
    exact Ev.now _
  | succ d ih =>
    intro i hi
    refine Ev.step (fun k => by rw [wind_ValidatePipes.l0]) ?_
    refine Ev.ifp (by omega) (Ev.ifp (by omega) (Ev.ifp (by omega) (Ev.bindc (arc_at _) ?_)))
    rw [rdT l i (by omega), List.drop_eq_getElem_cons (show i < l.length by omega), List.all_cons]
    by_cases h : okA l[i] = true
    · rw [if_pos h, h, Bool.true_and]
      refine Ev.ifp rfl ?_
      rw [w64 (by omega) (by omega), show ((i : Int) + 1) = ((i + 1 : Nat) : Int) by omega]
      exact ih (i + 1) (by omega)
    · rw [if_neg h, Bool.eq_false_iff.mpr h, Bool.false_and]
      exact Ev.ifn (by decide) (Ev.now _)
theorem pipes_ev (l : List S33) : Ev (fun k => wind_ValidatePipes.f k l) (pipesErr l) := by
  unfold wind_ValidatePipes.f pipesErr
  by_cases h : l.length > 10
  · rw [if_pos h]
    exact Ev.ifp (by omega) (Ev.now _)
  · rw [if_neg h]
    exact Ev.ifn (by omega) (pipes_loop l (by omega) l.length 0 (by omega))
theorem ref_pipes_loop (l : List S33) (hl : l.length ≤ 10) (d : Nat) : ∀ i : Nat, i + d = l.length →
    Ev (fun k => wigeonref03_ValidatePipes.l0 k l (i : Int)) (if (l.drop i).all okA = true then 0 else 1) := by
  induction d with
  | zero =>
    intro i hi
    refine Ev.step (fun k => by rw [wigeonref03_ValidatePipes.l0]) ?_
    refine Ev.ifn (by omega) ?_
    rw [List.drop_of_length_le (by omega)]
    exact Ev.now _
  | succ d ih =>
    intro i hi
    refine Ev.step (fun k => by rw [wigeonref03_ValidatePipes.l0]) ?_
    refine Ev.ifp (by omega) (Ev.ifp (by omega) (Ev.bindc (ref_arc_at _) ?_))
    rw [rdT l i (by omega), List.drop_eq_getElem_cons (show i < l.length by omega), List.all_cons]
    by_cases h : okA l[i] = true
    · rw [if_pos h, h, Bool.true_and]
      refine Ev.ifp rfl ?_
      rw [w64 (by omega) (by omega), show ((i : Int) + 1) = ((i + 1 : Nat) : Int) by omega]
      exact ih (i + 1) (by omega)
    · rw [if_neg h, Bool.eq_false_iff.mpr h, Bool.false_and]
      exact Ev.ifn (by decide) (Ev.now _)
theorem ref_pipes_ev (l : List S33) : Ev (fun k => wigeonref03_ValidatePipes.f k l) (pipesErr l) := by
  unfold wigeonref03_ValidatePipes.f pipesErr
  by_cases h : l.length > 10
  · rw [if_pos h]
    exact Ev.ifp (by omega) (Ev.now _)
  · rw [if_neg h]
    exact Ev.ifn (by omega) (ref_pipes_loop l (by omega) l.length 0 (by omega))
theorem pipes_ok {l : List S33} (h : pipesErr l = 0) : l.length ≤ 10 ∧ ∀ i (hi : i < l.length), okA l[i] = true := by
  unfold pipesErr at h
  by_cases h1 : l.length > 10
  · rw [if_pos h1] at h; exact absurd h (by decide)
  · rw [if_neg h1] at h
    by_cases h2 : l.all okA = true
    · exact ⟨by omega, fun i hi => all_split h2 i hi⟩
    · rw [if_neg h2] at h; exact absurd h (by decide)
/-- Whether the pipe of a place can be worked at a point. -/
def inA (x : S33) (p : Nat) : Bool := inArc x.f0.toNat x.f1 p
def arcN (x : S33) : Nat := maskN (inA x) 32
theorem okA_pos {x : S33} (h : okA x = true) : 0 ≤ x.f0 ∧ x.f0 ≤ 31 ∧ 1 ≤ x.f1 ∧ x.f1 ≤ 32 := by
  have := of_decide_eq_true h
  exact ⟨this.1.1, this.1.2, this.2.1, this.2.2⟩
theorem of_at {x : S33} (h : okA x = true) : wind_of.f x.f0 x.f1 = some ((arcN x : Nat) : Int) := by
  obtain ⟨h1, h2, _, _⟩ := okA_pos h
  unfold wind_of.f
  rw [if_pos ⟨h1, by omega⟩]
  rfl
theorem has_at {x : S33} (h : okA x = true) {p : Nat} (hp : p < 32) : wigeonref03_has.f x.f0 x.f1 (p : Int) = some (inA x p) := by
  obtain ⟨h1, h2, _, _⟩ := okA_pos h
  unfold wigeonref03_has.f wigeonref03_around.f inA inArc
  rw [w64 (by omega) (by omega), show x.f0 = ((x.f0.toNat : Nat) : Int) by omega, and31_at hp (by omega)]
  rfl

end Go.Proofs.YthihlapmkcelpaaDoor.Pure
