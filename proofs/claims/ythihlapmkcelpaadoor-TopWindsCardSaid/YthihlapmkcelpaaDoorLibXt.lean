/- The winds that Apart returns: apart, each a point of some pipe, and as many as the document's Most. For all lists of pipes. -/
import Derived.Test.YthihlapmkcelpaaDoorQx0
import Derived.Test.YthihlapmkcelpaaDoorQx19
import Derived.Test.YthihlapmkcelpaaDoorLibVt
namespace Go.Proofs.YthihlapmkcelpaaDoor.Pure
open Go.RowKit Go.Proofs.YthihlapmkcelpaaDoor.Q Go.Proofs.YthihlapmkcelpaaDoorW.PrintWords Go.Proofs.YthihlapmkcelpaaDoorW.PrintLast Go.Proofs.YthihlapmkcelpaaDoorW.PrintMore

theorem rdL (w y : List Int) (i : Nat) (h : i < w.length) : rd (w ++ y) (i : Int) = rd w (i : Int) := by
  unfold rd
  rw [Int.toNat_natCast, List.getD_eq_getElem?_getD, List.getD_eq_getElem?_getD, List.getElem?_append_left h]
theorem rdR (w : List Int) (x : Int) : rd (w ++ [x]) (w.length : Int) = x := by
  unfold rd
  rw [Int.toNat_natCast, List.getD_eq_getElem?_getD, List.getElem?_append_right (Nat.le_refl _), Nat.sub_self]
  rfl
def allN (l : List S33) : Nat := 2 ^ l.length
def whoL (l : List S33) : Nat → Nat := whoTo l l.length
def apartL (l : List S33) : List Int := longTo (dpTo (whoL l) (allN l) 32) (allN l)
theorem allN_le {l : List S33} (h : PipesOk l) : allN l ≤ 1024 := Nat.pow_le_pow_right (n := 2) (by decide) h.1
theorem whoL_lt (l : List S33) (p : Nat) : whoL l p < allN l := whoTo_lt l l.length p
theorem or_all {l : List S33} {u : Nat} (p : Nat) (h : u < allN l) : u ||| whoL l p < allN l := Nat.or_lt_two_pow h (whoL_lt l p)
theorem xor_all {l : List S33} {u : Nat} (p : Nat) (h : u < allN l) : u ^^^ whoL l p < allN l := Nat.xor_lt_two_pow h (whoL_lt l p)
theorem fOf_range {B : Nat → List Int} (h : ∀ u, (B u).length ≤ 1000) (u : Nat) : -1 ≤ fOf B u ∧ fOf B u ≤ 1000 := by
  have := h u
  unfold fOf
  split <;> omega
/-- A list of winds with the pipes u: of points below p, apart, each with some pipe. -/
structure GoodL (l : List S33) (p : Nat) (L : List Int) (u : Nat) : Prop where
  at_ : ∀ k : Nat, k < L.length → 0 ≤ rd L (k : Int) ∧ rd L (k : Int) < (p : Int) ∧ whoL l (rd L (k : Int)).toNat ≠ 0 ∧ (0 < k → rd L ((k - 1 : Nat) : Int) < rd L (k : Int))
  apart : apartP l L
  used : usedTo l L L.length = u
theorem GoodL.up {l : List S33} {p : Nat} {L : List Int} {u : Nat} (h : GoodL l p L u) : GoodL l (p + 1) L u := ⟨fun k hk => by have := h.at_ k hk; exact ⟨this.1, by omega, this.2.2⟩, h.apart, h.used⟩
theorem used_left (l : List S33) (L y : List Int) (j : Nat) (h : j ≤ L.length) : usedTo l (L ++ y) j = usedTo l L j := by
  induction j with
  | zero => rfl
  | succ j ih =>
    show usedTo l (L ++ y) j ||| whoTo l l.length (rd (L ++ y) (j : Int)).toNat = usedTo l L j ||| whoTo l l.length (rd L (j : Int)).toNat
    rw [ih (by omega), rdL L y j (by omega)]
theorem GoodL.snoc {l : List S33} {p : Nat} {L : List Int} {u : Nat} (h : GoodL l p L u) (h0 : whoL l p ≠ 0) (hu : u &&& whoL l p = 0) : GoodL l (p + 1) (L ++ [(p : Int)]) (u ||| whoL l p) := by
  have hl : (L ++ [(p : Int)]).length = L.length + 1 := by simp
  have hlast : rd (L ++ [(p : Int)]) (L.length : Int) = (p : Int) := rdR L _
  have hon : ∀ i k, k < L.length → onW l (L ++ [(p : Int)]) i k = onW l L i k := fun i k hk => by unfold onW; rw [rdL L _ k hk]
  refine ⟨fun k hk => ?_, fun j hj k hk i hi => ?_, ?_⟩
  · rw [hl] at hk
    by_cases e : k = L.length
    · subst e
      rw [hlast, Int.toNat_natCast]
      refine ⟨by omega, by omega, h0, fun hk0 => ?_⟩
      rw [rdL L _ _ (by omega)]
      have := h.at_ (L.length - 1) (by omega)
      omega
    · rw [rdL L _ k (by omega)]
      have := h.at_ k (by omega)
      refine ⟨this.1, by omega, this.2.2.1, fun hk0 => ?_⟩
      rw [rdL L _ _ (by omega)]
      exact this.2.2.2 hk0
  · rw [hl] at hj
    by_cases e : j = L.length
    · subst e
      refine (clash_iff l (L ++ [(p : Int)]) L.length).1 ?_ k hk i hi
      rw [used_left l L _ _ (Nat.le_refl _), h.used, hlast, Int.toNat_natCast]
      exact hu
    · rw [hon i j (by omega), hon i k (by omega)]
      exact h.apart j (by omega) k hk i hi
  · rw [hl]
    show usedTo l (L ++ [(p : Int)]) L.length ||| whoTo l l.length (rd (L ++ [(p : Int)]) (L.length : Int)).toNat = _
    rw [used_left l L _ _ (Nat.le_refl _), h.used, hlast, Int.toNat_natCast]
    rfl
theorem good_nil (l : List S33) (p : Nat) : GoodL l p [] 0 := ⟨fun _ hk => absurd hk (Nat.not_lt_zero _), fun _ hj => absurd hj (Nat.not_lt_zero _), rfl⟩
theorem dp_good (l : List S33) (p : Nat) : ∀ u, okL (dpTo (whoL l) (allN l) p) u → GoodL l p (dpTo (whoL l) (allN l) p u) u := by
  induction p with
  | zero =>
    intro u hu
    rcases hu with rfl | h
    · exact good_nil l 0
    · exact absurd h (Nat.lt_irrefl 0)
  | succ p ih =>
    intro u hu
    by_cases h0 : whoL l p = 0
    · rw [dp_skip h0] at hu ⊢
      exact (ih u hu).up
    · rw [dp_step h0] at hu ⊢
      have hs := step_at (B := dpTo (whoL l) (allN l) p) (p := p) h0 (allN l) u
      by_cases hc : (u ^^^ whoL l p) &&& whoL l p = 0 ∧ okL (dpTo (whoL l) (allN l) p) (u ^^^ whoL l p) ∧ (u ^^^ whoL l p) < allN l ∧ (dpTo (whoL l) (allN l) p u).length < (dpTo (whoL l) (allN l) p (u ^^^ whoL l p)).length + 1
      · rw [hs.1 hc]
        have hg := (ih _ hc.2.1).snoc h0 hc.1
        rwa [or_xor hc.1] at hg
      · have e := hs.2 hc
        rw [e]
        refine (ih u ?_).up
        rcases hu with h | h
        · exact .inl h
        · rw [e] at h; exact .inr h
theorem longTo_cases (B : Nat → List Int) (n : Nat) : longTo B n = [] ∨ ∃ u, u < n ∧ longTo B n = B u ∧ 0 < (B u).length := by
  induction n with
  | zero => exact .inl rfl
  | succ n ih =>
    unfold longTo
    by_cases h : (longTo B n).length < (B n).length
    · rw [if_pos h]
      exact .inr ⟨n, by omega, rfl, by omega⟩
    · rw [if_neg h]
      rcases ih with h1 | ⟨u, h1, h2, h3⟩
      · exact .inl h1
      · exact .inr ⟨u, by omega, h2, h3⟩
theorem apart_good (l : List S33) : ∃ u, GoodL l 32 (apartL l) u := by
  rcases longTo_cases (dpTo (whoL l) (allN l) 32) (allN l) with h | ⟨u, _, h2, h3⟩
  · exact ⟨0, by unfold apartL; rw [h]; exact good_nil l 32⟩
  · exact ⟨u, by unfold apartL; rw [h2]; exact dp_good l 32 u (.inr h3)⟩
theorem apart_len (l : List S33) : (apartL l).length ≤ 32 := longTo_le (dpTo_len (whoL l) (allN l) 32) _
theorem apart_asc (l : List S33) : ascQ (apartL l) 32 = true := by
  obtain ⟨u, h⟩ := apart_good l
  exact cd_t (fun i hi => ⟨(h.at_ i hi).1, (h.at_ i hi).2.1, (h.at_ i hi).2.2.2⟩)
theorem who_work {l : List S33} {p : Nat} (h : whoL l p ≠ 0) : (workTo l p l.length).length ≠ 0 := fun hh => by
  apply h
  apply Nat.eq_of_testBit_eq
  intro i
  rw [Nat.zero_testBit]
  unfold whoL
  rw [who_bit]
  by_cases hi : i < l.length
  · rw [(workTo_nil l p l.length).1 hh i hi, Bool.and_false]
  · rw [decide_eq_false hi, Bool.false_and]
def apartR (l : List S33) : List Int × Int := if pipesErr l = 0 then (apartL l, 0) else ([], pipesErr l)
theorem apart_ev (l : List S33) : Ev (fun k => wind_Apart.f k l) (apartR l) := by
  unfold wind_Apart.f
  refine Ev.bind (pipes_ev l) ?_
  by_cases h0 : pipesErr l = 0
  · rw [show apartR l = (apartL l, 0) from if_pos h0]
    exact Ev.ifp h0 (Ev.ifp (workOk_at (pipes_ok h0)) (Ev.now _))
  · rw [show apartR l = ([], pipesErr l) from if_neg h0]
    exact Ev.ifn h0 (Ev.now _)

end Go.Proofs.YthihlapmkcelpaaDoor.Pure
