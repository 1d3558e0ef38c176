/- The document's Most: how many winds can be apart, as many as the program's longest list. For all lists of pipes. -/
import Derived.Test.YthihlapmkcelpaaDoorQx0
import Derived.Test.YthihlapmkcelpaaDoorQx19
import Derived.Test.YthihlapmkcelpaaDoorQx21
import Derived.Test.YthihlapmkcelpaaDoorLibV
namespace Go.Proofs.YthihlapmkcelpaaDoor.Pure
open Go.RowKit Go.Proofs.YthihlapmkcelpaaDoor.Q Go.Proofs.YthihlapmkcelpaaDoorW.PrintWords Go.Proofs.YthihlapmkcelpaaDoorW.PrintLast Go.Proofs.YthihlapmkcelpaaDoorW.PrintMore

theorem i64_and_nat (a b : Nat) (ha : a < 1048576) (hb : b < 1048576) : bits .and .i64 (a : Int) (b : Int) = ((a &&& b : Nat) : Int) := by
  have hx : a &&& b < 2 ^ 20 := Nat.and_lt_two_pow _ (by omega)
  show IntKind.i64.wrap ((BitVec.ofInt 64 (a : Int) &&& BitVec.ofInt 64 (b : Int)).toNat : Int) = _
  rw [BitVec.toNat_and, ofInt_u64 a (by omega), ofInt_u64 b (by omega), IntWalk.i64_in _ (by omega)]
theorem i64_or_nat (a b : Nat) (ha : a < 1048576) (hb : b < 1048576) : bits .or .i64 (a : Int) (b : Int) = ((a ||| b : Nat) : Int) := by
  have hx : a ||| b < 2 ^ 20 := Nat.or_lt_two_pow (by omega) (by omega)
  show IntKind.i64.wrap ((BitVec.ofInt 64 (a : Int) ||| BitVec.ofInt 64 (b : Int)).toNat : Int) = _
  rw [BitVec.toNat_or, ofInt_u64 a (by omega), ofInt_u64 b (by omega), IntWalk.i64_in _ (by omega)]
theorem shl1_i64 {i : Nat} (h : i ≤ 10) : shl .i64 1 (i : Int) = ((2 ^ i : Nat) : Int) := by
  have : i = 0 ∨ i = 1 ∨ i = 2 ∨ i = 3 ∨ i = 4 ∨ i = 5 ∨ i = 6 ∨ i = 7 ∨ i = 8 ∨ i = 9 ∨ i = 10 := by omega
  rcases this with rfl | rfl | rfl | rfl | rfl | rfl | rfl | rfl | rfl | rfl | rfl <;> decide
/-- A list of numbers, by a function. -/
def IsTab (x : List Int) (n : Nat) (f : Nat → Int) : Prop := x.length = n ∧ ∀ u, u < n → rd x (u : Int) = f u
theorem IsTab.congr {x : List Int} {n : Nat} {f g : Nat → Int} (h : IsTab x n f) (e : ∀ u, u < n → f u = g u) : IsTab x n g := ⟨h.1, fun u hu => by rw [h.2 u hu, e u hu]⟩
theorem IsTab.set {x : List Int} {n : Nat} {f : Nat → Int} (h : IsTab x n f) (q : Nat) (v : Int) : IsTab (x.set q v) n (fun u => if u = q then v else f u) := by
  refine ⟨by rw [List.length_set]; exact h.1, fun u hu => ?_⟩
  have hr := h.2 u hu
  unfold rd at hr ⊢
  rw [Int.toNat_natCast, List.getD_eq_getElem?_getD] at hr ⊢
  rw [List.getElem?_set]
  by_cases e : u = q
  · subst e
    rw [if_pos rfl, if_pos (by rw [h.1]; exact hu)]
    show v = (if u = u then v else f u)
    rw [if_pos rfl]
  · rw [if_neg (Ne.symm e)]
    show _ = (if u = q then v else f u)
    rw [if_neg e]
    exact hr
/-- The sum of powers that the document takes for the pipes at a point. -/
def sumW (w : List Int) : Nat → Nat
  | 0 => 0
  | i + 1 => sumW w i + 2 ^ (rd w (i : Int)).toNat
theorem rdL (w y : List Int) (i : Nat) (h : i < w.length) : rd (w ++ y) (i : Int) = rd w (i : Int) := by
  unfold rd
  rw [Int.toNat_natCast, List.getD_eq_getElem?_getD, List.getD_eq_getElem?_getD, List.getElem?_append_left h]
theorem rdR (w : List Int) (x : Int) : rd (w ++ [x]) (w.length : Int) = x := by
  unfold rd
  rw [Int.toNat_natCast, List.getD_eq_getElem?_getD, List.getElem?_append_right (Nat.le_refl _), Nat.sub_self]
  rfl
theorem sumW_left (w y : List Int) (i : Nat) (h : i ≤ w.length) : sumW (w ++ y) i = sumW w i := by
  induction i with
  | zero => rfl
  | succ i ih =>
    show sumW (w ++ y) i + 2 ^ (rd (w ++ y) (i : Int)).toNat = sumW w i + 2 ^ (rd w (i : Int)).toNat
    rw [ih (by omega), rdL w y i (by omega)]
theorem work_sum (l : List S33) (p n : Nat) : sumW (workTo l p n) (workTo l p n).length = whoTo l n p := by
  induction n with
  | zero => rfl
  | succ n ih =>
    have hw : whoTo l (n + 1) p = if pipeAt l n p = true then whoTo l n p + 2 ^ n else whoTo l n p := rfl
    rw [hw, pipeAt_eq]
    unfold workTo
    by_cases h : inA (atA l n) p = true
    · rw [if_pos h, if_pos h, List.length_append]
      show sumW (workTo l p n ++ [(n : Int)]) (workTo l p n).length + 2 ^ (rd (workTo l p n ++ [(n : Int)]) ((workTo l p n).length : Int)).toNat = _
      rw [sumW_left _ _ _ (Nat.le_refl _), rdR, ih, Int.toNat_natCast]
    · rw [if_neg h, if_neg h]
      exact ih
theorem work_range (l : List S33) (p n : Nat) : ∀ i : Nat, i < (workTo l p n).length → 0 ≤ rd (workTo l p n) (i : Int) ∧ rd (workTo l p n) (i : Int) < (n : Int) := by
  induction n with
  | zero => intro i hi; exact absurd hi (Nat.not_lt_zero _)
  | succ n ih =>
    intro i hi
    unfold workTo at hi ⊢
    by_cases h : inA (atA l n) p = true
    · rw [if_pos h] at hi ⊢
      rw [List.length_append, List.length_singleton] at hi
      by_cases e : i = (workTo l p n).length
      · subst e
        rw [rdR]
        omega
      · rw [rdL _ _ _ (by omega)]
        have := ih i (by omega)
        omega
    · rw [if_neg h] at hi ⊢
      have := ih i hi
      omega
theorem sumW_le (w : List Int) {k : Nat} (h : ∀ i : Nat, i < w.length → 0 ≤ rd w (i : Int) ∧ rd w (i : Int) < (k : Int)) (hk : k ≤ 10) (i : Nat) (hi : i ≤ w.length) : sumW w i ≤ i * 1024 := by
  induction i with
  | zero => exact Nat.zero_le _
  | succ i ih =>
    have h1 := h i (by omega)
    have h2 : 2 ^ (rd w (i : Int)).toNat ≤ 2 ^ 10 := Nat.pow_le_pow_right (by decide) (by omega)
    have := ih (by omega)
    show sumW w i + 2 ^ (rd w (i : Int)).toNat ≤ _
    omega
section
variable (l : List S33) (h : PipesOk l) {r : Int × Int}
include h
theorem most_l2 (p : Nat) (x : List Int) (d : Nat) : ∀ i : Nat, i + d = (workTo l p l.length).length →
    (whoTo l l.length p = 0 → Ev (fun k => wigeonref03_Most.l1 k l x (wrap64 ((p : Int) + 1))) r) →
    (whoTo l l.length p ≠ 0 → Ev (fun k => wigeonref03_Most.l3 k l x (p : Int) ((whoTo l l.length p : Nat) : Int) (wrap64 ((x.length : Int) - 1))) r) →
    Ev (fun k => wigeonref03_Most.l2 k l x (p : Int) ((sumW (workTo l p l.length) i : Nat) : Int) (workTo l p l.length) (i : Int)) r := by
  have hl := h.1
  have hwl := workTo_length l p l.length
  have hr := work_range l p l.length
  induction d with
  | zero =>
    intro i hi h0 h1
    refine Ev.step (fun k => by rw [wigeonref03_Most.l2]) ?_
    refine Ev.ifn (by omega) ?_
    obtain rfl : i = (workTo l p l.length).length := by omega
    rw [work_sum]
    by_cases hz : whoTo l l.length p = 0
    · exact Ev.ifp (by omega) (h0 hz)
    · exact Ev.ifn (by omega) (h1 hz)
  | succ d ih =>
    intro i hi h0 h1
    refine Ev.step (fun k => by rw [wigeonref03_Most.l2]) ?_
    have hri := hr i (by omega)
    have hs := sumW_le (workTo l p l.length) hr hl (i + 1) (by omega)
    have hs0 : sumW (workTo l p l.length) (i + 1) = sumW (workTo l p l.length) i + 2 ^ (rd (workTo l p l.length) (i : Int)).toNat := rfl
    refine Ev.ifp (by omega) (Ev.ifp (by omega) (Ev.ifp (by omega) ?_))
    have e1 : shl .i64 1 (rd (workTo l p l.length) (i : Int)) = ((2 ^ (rd (workTo l p l.length) (i : Int)).toNat : Nat) : Int) := by
      have := shl1_i64 (i := (rd (workTo l p l.length) (i : Int)).toNat) (by omega)
      rwa [show (((rd (workTo l p l.length) (i : Int)).toNat : Nat) : Int) = rd (workTo l p l.length) (i : Int) by omega] at this
    rw [e1, w64 (n := (i : Int) + 1) (by omega) (by omega), show ((i : Int) + 1) = ((i + 1 : Nat) : Int) by omega]
    have e2 : wrap64 (((sumW (workTo l p l.length) i : Nat) : Int) + ((2 ^ (rd (workTo l p l.length) (i : Int)).toNat : Nat) : Int)) = ((sumW (workTo l p l.length) (i + 1) : Nat) : Int) := by
      rw [hs0, w64 (by omega) (by omega)]
      omega
    rw [e2]
    exact ih (i + 1) (by omega) h0 h1
omit h in
theorem most_l3 (p m n : Nat) (hn : n ≤ 1024) (hm : m ≠ 0) (hmn : m < n) (hor : ∀ u, u < n → u ||| m < n) (f : Nat → Int) (hf : ∀ u, u < n → -1 ≤ f u ∧ f u ≤ 1000)
    (next : ∀ x', IsTab x' n (canF f m 0) → Ev (fun k => wigeonref03_Most.l1 k l x' (wrap64 ((p : Int) + 1))) r) (j : Nat) : ∀ x, j ≤ n → IsTab x n (canF f m j) →
    Ev (fun k => wigeonref03_Most.l3 k l x (p : Int) (m : Int) ((j : Int) - 1)) r := by
  induction j with
  | zero =>
    intro x _ hx
    refine Ev.step (fun k => by rw [wigeonref03_Most.l3]) ?_
    exact Ev.ifn (by omega) (next x hx)
  | succ j ih =>
    intro x hj hx
    rw [show (((j + 1 : Nat) : Int) - 1) = (j : Int) by omega]
    refine Ev.step (fun k => by rw [wigeonref03_Most.l3]) ?_
    have hlen := hx.1
    refine Ev.ifp (by omega) (Ev.ifp (by omega) (Ev.ifp (by omega) ?_))
    rw [w64 (n := (j : Int) - 1) (by omega) (by omega), hx.2 j (by omega), i64_and_nat j m (by omega) (by omega), i64_or_nat j m (by omega) (by omega)]
    by_cases ha : j &&& m = 0
    · have hjf : canF f m (j + 1) j = f j := can_meet hm ha
      rw [hjf]
      by_cases h0 : f j ≥ 0
      · have hq := hor j (by omega)
        have hfj := hf j (by omega)
        refine Ev.ifp h0 (Ev.ifp (by omega) (Ev.ifp (by omega) (Ev.ifp (by omega) ?_)))
        rw [hx.2 _ hq, Int.toNat_natCast, w64 (n := f j + 1) (by omega) (by omega)]
        refine ih _ (by omega) ((hx.set (j ||| m) _).congr fun u hu => ?_)
        by_cases e : u = j ||| m
        · rw [if_pos e, e, can_hit ha h0]
          unfold mx
          split <;> omega
        · rw [if_neg e]
          exact (can_other fun hh => e hh.2.2).symm
      · refine Ev.ifn h0 (ih x (by omega) (hx.congr fun u _ => ?_))
        exact (can_other fun hh => h0 hh.2.1).symm
    · have hi : ∀ u, canF f m j u = canF f m (j + 1) u := fun u => can_other fun hh => ha hh.1
      have hx2 : IsTab x n (canF f m j) := hx.congr fun u _ => (hi u).symm
      by_cases h0 : canF f m (j + 1) j ≥ 0
      · exact Ev.ifp h0 (Ev.ifn (by omega) (ih x (by omega) hx2))
      · exact Ev.ifn h0 (ih x (by omega) hx2)
omit h in
theorem most_l4 (B : Nat → List Int) (n : Nat) (hn : n ≤ 1024) (x : List Int) (hx : IsTab x n (fOf B)) (d : Nat) : ∀ i : Nat, i + d = n →
    Ev (fun k => wigeonref03_Most.l4 k x (((longTo B i).length : Nat) : Int) (i : Int)) ((((longTo B n).length : Nat) : Int), 0) := by
  have hlen := hx.1
  induction d with
  | zero =>
    intro i hi
    refine Ev.step (fun k => by rw [wigeonref03_Most.l4]) ?_
    obtain rfl : i = n := by omega
    exact Ev.ifn (by omega) (Ev.now _)
  | succ d ih =>
    intro i hi
    refine Ev.step (fun k => by rw [wigeonref03_Most.l4]) ?_
    refine Ev.ifp (by omega) (Ev.ifp (by omega) ?_)
    rw [hx.2 i (by omega), w64 (n := (i : Int) + 1) (by omega) (by omega), show ((i : Int) + 1) = ((i + 1 : Nat) : Int) by omega]
    have e : mx (((longTo B i).length : Nat) : Int) (fOf B i) = (((longTo B (i + 1)).length : Nat) : Int) := by
      have e1 : longTo B (i + 1) = if (longTo B i).length < (B i).length then B i else longTo B i := rfl
      rw [e1]
      unfold mx
      by_cases hk : okL B i
      · rw [fOf_ok hk]
        by_cases hlt : (longTo B i).length < (B i).length
        · rw [if_pos hlt, if_pos (by omega)]
        · rw [if_neg hlt, if_neg (by omega)]
      · rw [fOf_no hk, if_neg (by omega), if_neg fun hh => hk (.inr (by omega))]
    rw [e]
    exact ih (i + 1) (by omega)
end

end Go.Proofs.YthihlapmkcelpaaDoor.Pure
