/- The winds that Apart returns: apart, each a point of some pipe, and as many as the document's Most. For all lists of pipes. -/
import Derived.Test.YthihlapmkcelpaaDoorQx0
import Derived.Test.YthihlapmkcelpaaDoorQx19
import Derived.Test.YthihlapmkcelpaaDoorQx21
import Derived.Test.YthihlapmkcelpaaDoorQx22
import Derived.Test.YthihlapmkcelpaaDoorLibWr
namespace Go.Proofs.YthihlapmkcelpaaDoor.Pure
open Go.RowKit Go.Proofs.YthihlapmkcelpaaDoor.Q Go.Proofs.YthihlapmkcelpaaDoorW.PrintWords Go.Proofs.YthihlapmkcelpaaDoorW.PrintLast Go.Proofs.YthihlapmkcelpaaDoorW.PrintMore

def allN (l : List S33) : Nat := 2 ^ l.length
def whoL (l : List S33) : Nat → Nat := whoTo l l.length
def apartL (l : List S33) : List Int := longTo (dpTo (whoL l) (allN l) 32) (allN l)
theorem allN_le {l : List S33} (h : PipesOk l) : allN l ≤ 1024 := Nat.pow_le_pow_right (n := 2) (by decide) h.1
theorem whoL_lt (l : List S33) (p : Nat) : whoL l p < allN l := whoTo_lt l l.length p
theorem or_all {l : List S33} {u : Nat} (p : Nat) (h : u < allN l) : u ||| whoL l p < allN l := Nat.or_lt_two_pow h (whoL_lt l p)
theorem xor_all {l : List S33} {u : Nat} (p : Nat) (h : u < allN l) : u ^^^ whoL l p < allN l := Nat.xor_lt_two_pow h (whoL_lt l p)
theorem fOf_range {B : Nat → List Int} (h : ∀ u, (B u).length ≤ 1000) (u : Nat) : -1 ≤ fOf B u ∧ fOf B u ≤ 1000 := by
  have := h u
  unfold fOf
  split <;> omega
theorem most_l1 (l : List S33) (h : PipesOk l) (d : Nat) : ∀ (p : Nat) (x : List Int), p + d = 32 → IsTab x (allN l) (fOf (dpTo (whoL l) (allN l) p)) →
    Ev (fun k => wigeonref03_Most.l1 k l x (p : Int)) (((apartL l).length : Int), 0) := by
  have hn := allN_le h
  induction d with
  | zero =>
    intro p x hp hx
    refine Ev.step (fun k => by rw [wigeonref03_Most.l1]) ?_
    obtain rfl : p = 32 := by omega
    exact Ev.ifn (by omega) (most_l4 (dpTo (whoL l) (allN l) 32) (allN l) hn x hx (allN l) 0 (by omega))
  | succ d ih =>
    intro p x hp hx
    refine Ev.step (fun k => by rw [wigeonref03_Most.l1]) ?_
    have hlen := hx.1
    have hn1 : 1 ≤ allN l := Nat.one_le_two_pow
    have e1 : wrap64 ((p : Int) + 1) = ((p + 1 : Nat) : Int) := by rw [w64 (by omega) (by omega)]; omega
    refine Ev.ifp (by omega) (Ev.bind (ref_work_ev l h p (by omega)) (most_l2 l h p x (workTo l p l.length).length 0 (by omega) ?_ ?_))
    · intro h0
      rw [e1]
      refine ih (p + 1) x (by omega) ?_
      rw [dp_skip (show whoL l p = 0 from h0)]
      exact hx
    · intro h0
      rw [hlen, w64 (n := ((allN l : Nat) : Int) - 1) (by omega) (by omega)]
      refine most_l3 l p (whoL l p) (allN l) hn h0 (whoL_lt l p) (fun u hu => or_all p hu) (fOf (dpTo (whoL l) (allN l) p)) (fun u _ => fOf_range (fun v => by have := dpTo_len (whoL l) (allN l) p v; omega) u) ?_ (allN l) x (Nat.le_refl _) ?_
      · intro x' hx'
        rw [e1]
        refine ih (p + 1) x' (by omega) (hx'.congr fun u hu => ?_)
        rw [dp_step (show whoL l p ≠ 0 from h0)]
        exact (can_all (p := p) h0 u (xor_all p hu)).symm
      · exact hx.congr fun u hu => (can_last _ _ _ _ (xor_all p hu)).symm
def fillF (i u : Nat) : Int := if u = 0 then 0 else if u < i then -1 else 0
theorem most_l0 (l : List S33) (h : PipesOk l) (d : Nat) : ∀ (i : Nat) (x : List Int), 1 ≤ i → i + d = allN l → IsTab x (allN l) (fillF i) →
    Ev (fun k => wigeonref03_Most.l0 k l x (i : Int)) (((apartL l).length : Int), 0) := by
  have hn := allN_le h
  induction d with
  | zero =>
    intro i x h1 hi hx
    have hlen := hx.1
    refine Ev.step (fun k => by rw [wigeonref03_Most.l0]) ?_
    refine Ev.ifn (by omega) (most_l1 l h 32 0 x (by omega) (hx.congr fun u hu => ?_))
    unfold fillF fOf
    by_cases e : u = 0
    · rw [if_pos e, if_pos (.inl e)]; rfl
    · rw [if_neg e, if_pos (by omega), if_neg]
      rintro (h2 | h2)
      · exact e h2
      · exact absurd h2 (Nat.lt_irrefl 0)
  | succ d ih =>
    intro i x h1 hi hx
    have hlen := hx.1
    refine Ev.step (fun k => by rw [wigeonref03_Most.l0]) ?_
    refine Ev.ifp (by omega) (Ev.ifp (by omega) ?_)
    rw [w64 (n := (i : Int) + 1) (by omega) (by omega), show ((i : Int) + 1) = ((i + 1 : Nat) : Int) by omega, Int.toNat_natCast]
    refine ih (i + 1) _ (by omega) (by omega) ((hx.set i (-1)).congr fun u hu => ?_)
    unfold fillF
    by_cases e : u = i
    · rw [if_pos e, if_neg (by omega), if_pos (by omega)]
    · rw [if_neg e]
      by_cases e0 : u = 0
      · rw [if_pos e0, if_pos e0]
      · rw [if_neg e0, if_neg e0]
        by_cases e2 : u < i
        · rw [if_pos e2, if_pos (by omega)]
        · rw [if_neg e2, if_neg (by omega)]
def mostP (l : List S33) : Int × Int := if pipesErr l = 0 then (((apartL l).length : Int), 0) else (0, pipesErr l)
theorem zeros_tab (n : Nat) : IsTab (List.replicate n 0) n (fillF 1) := by
  refine ⟨List.length_replicate, fun u hu => ?_⟩
  unfold rd fillF
  rw [Int.toNat_natCast, List.getD_eq_getElem?_getD, List.getElem?_replicate, if_pos hu]
  show (0 : Int) = _
  split
  · rfl
  · rw [if_neg (by omega)]
theorem most_ev (l : List S33) : Ev (fun k => wigeonref03_Most.f k l) (mostP l) := by
  unfold wigeonref03_Most.f mostP
  refine Ev.bind (ref_pipes_ev l) ?_
  by_cases h0 : pipesErr l = 0
  · rw [if_pos h0]
    have h := pipes_ok h0
    have hn := allN_le h
    have hs : shl .i64 1 (l.length : Int) = ((allN l : Nat) : Int) := shl1_i64 h.1
    have hn1 : 1 ≤ allN l := Nat.one_le_two_pow
    rw [hs, Int.toNat_natCast]
    exact Ev.ifp h0 (Ev.ifp (by omega) (Ev.ifp (by omega) (most_l0 l h (allN l - 1) 1 _ (by omega) (by omega) (zeros_tab _))))
  · rw [if_neg h0]
    exact Ev.ifn h0 (Ev.now _)
/-- A list of winds with the pipes u: of points below p, apart, each with some pipe. -/
structure GoodL (l : List S33) (p : Nat) (L : List Int) (u : Nat) : Prop where
  at_ : ∀ k : Nat, k < L.length → 0 ≤ rd L (k : Int) ∧ rd L (k : Int) < (p : Int) ∧ whoL l (rd L (k : Int)).toNat ≠ 0 ∧ (0 < k → rd L ((k - 1 : Nat) : Int) < rd L (k : Int))
  apart : apartP l L
  used : usedTo l L L.length = u
theorem GoodL.up {l : List S33} {p : Nat} {L : List Int} {u : Nat} (h : GoodL l p L u) : GoodL l (p + 1) L u := ⟨fun k hk => by have := h.at_ k hk; exact ⟨this.1, by omega, this.2.2⟩, h.apart, h.used⟩
theorem used_left (l : List S33) (L y : List Int) (j : Nat) (h : j ≤ L.length) : usedTo l (L ++ y) j = usedTo l L j := by
  induction j with
  | zero => rfl
  | succ j ih =>
    show usedTo l (L ++ y) j ||| whoTo l l.length (rd (L ++ y) (j : Int)).toNat = usedTo l L j ||| whoTo l l.length (rd L (j : Int)).toNat
    rw [ih (by omega), rdL L y j (by omega)]
theorem GoodL.snoc {l : List S33} {p : Nat} {L : List Int} {u : Nat} (h : GoodL l p L u) (h0 : whoL l p ≠ 0) (hu : u &&& whoL l p = 0) : GoodL l (p + 1) (L ++ [(p : Int)]) (u ||| whoL l p) := by
  have hl : (L ++ [(p : Int)]).length = L.length + 1 := by simp
  have hlast : rd (L ++ [(p : Int)]) (L.length : Int) = (p : Int) := rdR L _
  have hon : ∀ i k, k < L.length → onW l (L ++ [(p : Int)]) i k = onW l L i k := fun i k hk => by unfold onW; rw [rdL L _ k hk]
  refine ⟨fun k hk => ?_, fun j hj k hk i hi => ?_, ?_⟩
  · rw [hl] at hk
    by_cases e : k = L.length
    · subst e
      rw [hlast, Int.toNat_natCast]
      refine ⟨by omega, by omega, h0, fun hk0 => ?_⟩
      rw [rdL L _ _ (by omega)]
      have := h.at_ (L.length - 1) (by omega)
      omega
    · rw [rdL L _ k (by omega)]
      have := h.at_ k (by omega)
      refine ⟨this.1, by omega, this.2.2.1, fun hk0 => ?_⟩
      rw [rdL L _ _ (by omega)]
      exact this.2.2.2 hk0
  · rw [hl] at hj
    by_cases e : j = L.length
    · subst e
      refine (clash_iff l (L ++ [(p : Int)]) L.length).1 ?_ k hk i hi
      rw [used_left l L _ _ (Nat.le_refl _), h.used, hlast, Int.toNat_natCast]
      exact hu
    · rw [hon i j (by omega), hon i k (by omega)]
      exact h.apart j (by omega) k hk i hi
  · rw [hl]
    show usedTo l (L ++ [(p : Int)]) L.length ||| whoTo l l.length (rd (L ++ [(p : Int)]) (L.length : Int)).toNat = _
    rw [used_left l L _ _ (Nat.le_refl _), h.used, hlast, Int.toNat_natCast]
    rfl
theorem good_nil (l : List S33) (p : Nat) : GoodL l p [] 0 := ⟨fun _ hk => absurd hk (Nat.not_lt_zero _), fun _ hj => absurd hj (Nat.not_lt_zero _), rfl⟩
theorem dp_good (l : List S33) (p : Nat) : ∀ u, okL (dpTo (whoL l) (allN l) p) u → GoodL l p (dpTo (whoL l) (allN l) p u) u := by
  induction p with
  | zero =>
    intro u hu
    rcases hu with rfl | h
    · exact good_nil l 0
    · exact absurd h (Nat.lt_irrefl 0)
  | succ p ih =>
    intro u hu
    by_cases h0 : whoL l p = 0
    · rw [dp_skip h0] at hu ⊢
      exact (ih u hu).up
    · rw [dp_step h0] at hu ⊢
      have hs := step_at (B := dpTo (whoL l) (allN l) p) (p := p) h0 (allN l) u
      by_cases hc : (u ^^^ whoL l p) &&& whoL l p = 0 ∧ okL (dpTo (whoL l) (allN l) p) (u ^^^ whoL l p) ∧ (u ^^^ whoL l p) < allN l ∧ (dpTo (whoL l) (allN l) p u).length < (dpTo (whoL l) (allN l) p (u ^^^ whoL l p)).length + 1
      · rw [hs.1 hc]
        have hg := (ih _ hc.2.1).snoc h0 hc.1
        rwa [or_xor hc.1] at hg
      · have e := hs.2 hc
        rw [e]
        refine (ih u ?_).up
        rcases hu with h | h
        · exact .inl h
        · rw [e] at h; exact .inr h
theorem longTo_cases (B : Nat → List Int) (n : Nat) : longTo B n = [] ∨ ∃ u, u < n ∧ longTo B n = B u ∧ 0 < (B u).length := by
  induction n with
  | zero => exact .inl rfl
  | succ n ih =>
    unfold longTo
    by_cases h : (longTo B n).length < (B n).length
    · rw [if_pos h]
      exact .inr ⟨n, by omega, rfl, by omega⟩
    · rw [if_neg h]
      rcases ih with h1 | ⟨u, h1, h2, h3⟩
      · exact .inl h1
      · exact .inr ⟨u, by omega, h2, h3⟩
theorem apart_good (l : List S33) : ∃ u, GoodL l 32 (apartL l) u := by
  rcases longTo_cases (dpTo (whoL l) (allN l) 32) (allN l) with h | ⟨u, _, h2, h3⟩
  · exact ⟨0, by unfold apartL; rw [h]; exact good_nil l 32⟩
  · exact ⟨u, by unfold apartL; rw [h2]; exact dp_good l 32 u (.inr h3)⟩
theorem apart_len (l : List S33) : (apartL l).length ≤ 32 := longTo_le (dpTo_len (whoL l) (allN l) 32) _
theorem apart_asc (l : List S33) : ascQ (apartL l) 32 = true := by
  obtain ⟨u, h⟩ := apart_good l
  exact cd_t (fun i hi => ⟨(h.at_ i hi).1, (h.at_ i hi).2.1, (h.at_ i hi).2.2.2⟩)
theorem who_work {l : List S33} {p : Nat} (h : whoL l p ≠ 0) : (workTo l p l.length).length ≠ 0 := fun hh => by
  apply h
  apply Nat.eq_of_testBit_eq
  intro i
  rw [Nat.zero_testBit]
  unfold whoL
  rw [who_bit]
  by_cases hi : i < l.length
  · rw [(workTo_nil l p l.length).1 hh i hi, Bool.and_false]
  · rw [decide_eq_false hi, Bool.false_and]
theorem isApart_loop (l : List S33) (h : PipesOk l) (L : List Int) (hL : L.length ≤ 32) (hg : ∀ k : Nat, k < L.length → 0 ≤ rd L (k : Int) ∧ rd L (k : Int) < 32 ∧ whoL l (rd L (k : Int)).toNat ≠ 0) (d : Nat) : ∀ i : Nat, i + d = L.length →
    Ev (fun k => wigeonref03_IsApart.l0 k l L (i : Int)) true := by
  induction d with
  | zero =>
    intro i hi
    refine Ev.step (fun k => by rw [wigeonref03_IsApart.l0]) ?_
    exact Ev.ifn (by omega) (Ev.now _)
  | succ d ih =>
    intro i hi
    refine Ev.step (fun k => by rw [wigeonref03_IsApart.l0]) ?_
    obtain ⟨h1, h2, h3⟩ := hg i (by omega)
    have hw := ref_work_ev l h (rd L (i : Int)).toNat (by omega)
    rw [show (((rd L (i : Int)).toNat : Nat) : Int) = rd L (i : Int) by omega] at hw
    refine Ev.ifp (by omega) (Ev.ifp (by omega) (Ev.bind hw (Ev.ifn (by have := who_work h3; omega) ?_)))
    rw [w64 (by omega) (by omega), show ((i : Int) + 1) = ((i + 1 : Nat) : Int) by omega]
    exact ih (i + 1) (by omega)
theorem isApart_ev (l : List S33) (h0 : pipesErr l = 0) : Ev (fun k => wigeonref03_IsApart.f k l (apartL l)) true := by
  have h := pipes_ok h0
  have hL := apart_len l
  obtain ⟨u, hg⟩ := apart_good l
  have ha := apart_asc l
  unfold wigeonref03_IsApart.f
  have hm : mostP l = (((apartL l).length : Int), 0) := if_pos h0
  refine Ev.bind (hm ▸ most_ev l) (Ev.ifp rfl (Ev.ifp rfl (Ev.bind (isList_ev (apartL l) 32 (by omega)) (Ev.ifp ha (Ev.bind (ref_apart_ev l h (apartL l) (by omega) (asc_points ha)) ?_)))))
  rw [cd_t hg.apart]
  refine Ev.step (fun k => by rw [wigeonref03_IsApart.j0]) ?_
  exact Ev.ifn (by decide) (isApart_loop l h (apartL l) hL (fun k hk => ⟨(hg.at_ k hk).1, (hg.at_ k hk).2.1, (hg.at_ k hk).2.2.1⟩) (apartL l).length 0 (by omega))
def apartR (l : List S33) : List Int × Int := if pipesErr l = 0 then (apartL l, 0) else ([], pipesErr l)
theorem apart_ev (l : List S33) : Ev (fun k => wind_Apart.f k l) (apartR l) := by
  unfold wind_Apart.f
  refine Ev.bind (pipes_ev l) ?_
  by_cases h0 : pipesErr l = 0
  · rw [show apartR l = (apartL l, 0) from if_pos h0]
    exact Ev.ifp h0 (Ev.ifp (workOk_at (pipes_ok h0)) (Ev.now _))
  · rw [show apartR l = ([], pipesErr l) from if_neg h0]
    exact Ev.ifn h0 (Ev.now _)

end Go.Proofs.YthihlapmkcelpaaDoor.Pure
