import Derived.Test.YthihlapmkcelpaaDoorQx0
import Derived.Test.YthihlapmkcelpaaDoorQx2
import Derived.Test.YthihlapmkcelpaaDoorQx5
import Derived.Test.YthihlapmkcelpaaDoorQx7
import Derived.Test.YthihlapmkcelpaaDoorQx12
import Derived.Test.YthihlapmkcelpaaDoorQx14
import Derived.Test.YthihlapmkcelpaaDoorLibR
namespace Go.Proofs.YthihlapmkcelpaaDoor.Pure
open Go.RowKit Go.Proofs.YthihlapmkcelpaaDoor.Q Go.Proofs.YthihlapmkcelpaaDoorW.PrintWords Go.Proofs.YthihlapmkcelpaaDoorW.PrintLast Go.Proofs.YthihlapmkcelpaaDoorW.PrintMore

/-! The arcs of a set. -/
theorem mod_on (p u : Nat) : wind_modulo.f ((p : Int) + (u : Int)) = some ((((p + u) % 32 : Nat)) : Int) := by
  unfold wind_modulo.f
  rw [and_on]
theorem mod_prev {p : Nat} (hp : p < 32) : wind_modulo.f ((p : Int) - 1) = some ((((p + 31) % 32 : Nat)) : Int) := by
  unfold wind_modulo.f
  rw [and_prev hp]
theorem begins_bit {m p : Nat} (h : begins m p = true) : m.testBit p = true ∧ m.testBit ((p + 31) % 32) = false := by
  unfold begins at h
  rw [Bool.and_eq_true, Bool.not_eq_true'] at h
  exact h
theorem arcs_inner {m : Nat} (hm : m < 4294967296) (hf : m ≠ 4294967295) (l : List S33) (p : Nat) (hp : p < 32) (hb : begins m p = true) (hl : l.length ≤ 32) {r : List S33 × Int}
    (hnext : Ev (fun k => wind_Arcs.l0 k (m : Int) (l ++ [⟨(p : Int), ((widQ m p : Nat) : Int)⟩]) ((p + 1 : Nat) : Int)) r) (d : Nat) : ∀ u : Nat, u + d = widQ m p →
    Ev (fun k => wind_Arcs.l1 k (m : Int) l (p : Int) (p : Int) (p : Int) (u : Int)) r := by
  obtain ⟨h1, h2, h3, h4⟩ := widQ_spec hm hf p
  induction d with
  | zero =>
    intro u hu
    obtain rfl : u = widQ m p := by omega
    refine Ev.step (fun k => by rw [wind_Arcs.l1]) ?_
    rw [w64 (n := (p : Int) + ((widQ m p : Nat) : Int)) (by omega) (by omega)]
    refine Ev.bindc (mod_on _ _) (Ev.bindc (pts_has hm (Nat.mod_lt _ (by decide))) ?_)
    refine Ev.ifn (by rw [h4]; decide) (Ev.ifp (by omega) ?_)
    rw [w64 (n := (p : Int) + 1) (by omega) (by omega), show ((p : Int) + 1) = ((p + 1 : Nat) : Int) by omega]
    exact hnext
  | succ d ih =>
    intro u hu
    refine Ev.step (fun k => by rw [wind_Arcs.l1]) ?_
    rw [w64 (n := (p : Int) + (u : Int)) (by omega) (by omega)]
    refine Ev.bindc (mod_on _ _) (Ev.bindc (pts_has hm (Nat.mod_lt _ (by decide))) ?_)
    have hbit : m.testBit ((p + u) % 32) = true := by
      by_cases h0 : u = 0
      · rw [h0, Nat.add_zero, Nat.mod_eq_of_lt hp]; exact (begins_bit hb).1
      · exact h3 u (by omega) (by omega)
    refine Ev.ifp hbit ?_
    rw [w64 (n := (u : Int) + 1) (by omega) (by omega), show ((u : Int) + 1) = ((u + 1 : Nat) : Int) by omega]
    exact ih (u + 1) (by omega)
theorem arcs_loop {m : Nat} (hm : m < 4294967296) (hf : m ≠ 4294967295) (d : Nat) : ∀ p : Nat, p + d = 32 → Ev (fun k => wind_Arcs.l0 k (m : Int) (arcsTo m p) (p : Int)) (arcsTo m 32, 0) := by
  induction d with
  | zero =>
    intro p hp
    refine Ev.step (fun k => by rw [wind_Arcs.l0]) ?_
    exact Ev.ifn (by omega) (Ev.val (by rw [show p = 32 by omega]))
  | succ d ih =>
    intro p hp
    have hp32 : p < 32 := by omega
    have hlen := arcsTo_length m p
    have hn := ih (p + 1) (by omega)
    have hskip (h : begins m p ≠ true) : Ev (fun k => wind_Arcs.j1 k (m : Int) (arcsTo m p) (p : Int) (p : Int) true) (arcsTo m 32, 0) := by
      refine Ev.step (fun k => by rw [wind_Arcs.j1]) (Ev.ifp rfl ?_)
      rw [w64 (n := (p : Int) + 1) (by omega) (by omega), show ((p : Int) + 1) = ((p + 1 : Nat) : Int) by omega]
      rwa [show arcsTo m (p + 1) = arcsTo m p from if_neg h] at hn
    refine Ev.step (fun k => by rw [wind_Arcs.l0]) ?_
    refine Ev.ifp (by omega) (Ev.bindc (pts_has hm hp32) ?_)
    by_cases hb1 : m.testBit p = true
    · refine Ev.ifp hb1 ?_
      rw [w64 (n := (p : Int) - 1) (by omega) (by omega)]
      refine Ev.bindc (mod_prev hp32) (Ev.bindc (pts_has hm (Nat.mod_lt _ (by decide))) ?_)
      cases hb2 : m.testBit ((p + 31) % 32) with
      | true => exact hskip (by unfold begins; rw [hb2]; simp)
      | false =>
        have hb : begins m p = true := by unfold begins; rw [hb1, hb2]; rfl
        refine Ev.step (fun k => by rw [wind_Arcs.j1]) (Ev.ifn (by decide) ?_)
        rw [show arcsTo m (p + 1) = arcsTo m p ++ [⟨(p : Int), ((widQ m p : Nat) : Int)⟩] from if_pos hb] at hn
        exact arcs_inner hm hf (arcsTo m p) p hp32 hb (by omega) hn (widQ m p) 0 (by omega)
    · exact Ev.ifn hb1 (hskip (by unfold begins; rw [Bool.eq_false_iff.mpr hb1]; simp))
theorem arcs_ev (n : Int) : Ev (fun k => wind_Arcs.f k n) (arcsP n) := by
  unfold wind_Arcs.f arcsP
  refine Ev.bindc (Q.isSet_eq n) ?_
  by_cases h : setOk n = true
  · rw [if_pos h]
    have hr := of_decide_eq_true h
    obtain ⟨m, rfl⟩ := Int.eq_ofNat_of_zero_le hr.1
    have hmod : (m : Int) % 4294967296 = (m : Int) := by omega
    rw [hmod]
    refine Ev.ifp h (Ev.bindc (show wind_all.f = some 4294967295 from rfl) ?_)
    by_cases hf : (m : Int) = 4294967295
    · rw [if_pos hf]
      exact Ev.ifp hf (Ev.now _)
    · rw [if_neg hf, Int.toNat_natCast]
      exact Ev.ifn hf (arcs_loop (by omega) (by omega) 32 0 rfl)
  · rw [if_neg h]
    exact Ev.ifn h (Ev.now _)
theorem sameA_loop (a : List S33) (ha : a.length ≤ 1000) (d : Nat) : ∀ i : Nat, i + d = a.length → Ev (fun k => wigeonref03_SameArcs.l0 k a a (i : Int)) true := by
  induction d with
  | zero =>
    intro i hi
    refine Ev.step (fun k => by rw [wigeonref03_SameArcs.l0]) ?_
    exact Ev.ifn (by omega) (Ev.now _)
  | succ d ih =>
    intro i hi
    refine Ev.step (fun k => by rw [wigeonref03_SameArcs.l0]) ?_
    refine Ev.ifp (by omega) (Ev.ifp (by omega) (Ev.ifp (by omega) (Ev.ifn (by simp) ?_)))
    rw [w64 (by omega) (by omega), show ((i : Int) + 1) = ((i + 1 : Nat) : Int) by omega]
    exact ih (i + 1) (by omega)
theorem sameA_ev (a : List S33) (ha : a.length ≤ 1000) : Ev (fun k => wigeonref03_SameArcs.f k a a) true := by
  unfold wigeonref03_SameArcs.f
  exact Ev.ifp rfl (sameA_loop a ha a.length 0 (by omega))
theorem arcsP_length (n : Int) : (arcsP n).1.length ≤ 32 := by
  unfold arcsP
  split
  · split
    · decide
    · exact arcsTo_length _ _
  · exact Nat.zero_le _
theorem inA_nat (p r q : Nat) : inA ⟨(p : Int), (r : Int)⟩ q = decide (((q : Int) - (p : Int)) % 32 < (r : Int)) := by
  unfold inA inArc
  rw [Int.toNat_natCast]
theorem ref_arc_val (f wd : Int) : wigeonref03_ValidateArc.f f wd = some (if arcOk f wd = true then 0 else 1) := refArc_eq f wd
/-! The arc of its points. -/
theorem arc_bit {f wd p : Nat} (hp : p < 32) : (maskN (inArc f (wd : Int)) 32).testBit p = decide (((p : Int) - (f : Int)) % 32 < (wd : Int)) := mask_bit _ p hp
theorem arc_again {f wd : Nat} (hf : f < 32) (h1 : 1 ≤ wd) (h2 : wd < 32) : arcsP ((maskN (inArc f (wd : Int)) 32 : Nat) : Int) = ([⟨(f : Int), (wd : Int)⟩], 0) := by
  have hlt := mask32_lt (inArc f (wd : Int))
  have hbit := fun (p : Nat) (hp : p < 32) => arc_bit (f := f) (wd := wd) hp
  generalize maskN (inArc f (wd : Int)) 32 = m at *
  have hend : m.testBit ((f + wd) % 32) = false := by rw [hbit _ (Nat.mod_lt _ (by decide))]; exact decide_eq_false (by omega)
  have hmf : m ≠ 4294967295 := fun e => by
    rw [e, full_mask, mask_bit _ _ (Nat.mod_lt _ (by decide))] at hend
    exact absurd hend (by decide)
  have hw : widQ m f = wd := by
    obtain ⟨w1, w2, w3, w4⟩ := widQ_spec hlt hmf f
    rcases Nat.lt_trichotomy (widQ m f) wd with h | h | h
    · rw [hbit _ (Nat.mod_lt _ (by decide))] at w4
      have := of_decide_eq_false w4
      omega
    · exact h
    · have := w3 wd h1 h
      rw [hend] at this
      exact absurd this (by decide)
  have hbeg : ∀ p, p < 32 → begins m p = decide (p = f) := fun p hp => by
    unfold begins
    rw [hbit p hp, hbit _ (Nat.mod_lt _ (by decide))]
    by_cases e : p = f
    · subst e
      rw [decide_eq_true (by omega), decide_eq_false (by omega), decide_eq_true rfl]
      rfl
    · rw [decide_eq_false e]
      by_cases hq : ((p : Int) - (f : Int)) % 32 < (wd : Int)
      · rw [decide_eq_true hq, decide_eq_true (by omega)]
        rfl
      · rw [decide_eq_false hq]
        rfl
  have hto : ∀ n, n ≤ 32 → arcsTo m n = if f < n then [⟨(f : Int), (wd : Int)⟩] else [] := by
    intro n
    induction n with
    | zero => intro _; rfl
    | succ n ih =>
      intro hn
      unfold arcsTo
      rw [hbeg n (by omega), ih (by omega)]
      by_cases e : n = f
      · subst e
        rw [if_pos (decide_eq_true rfl), if_neg (by omega), if_pos (by omega), hw]
        rfl
      · rw [if_neg (by rw [decide_eq_false e]; decide)]
        by_cases h : f < n
        · rw [if_pos h, if_pos (by omega)]
        · rw [if_neg h, if_neg (by omega)]
  unfold arcsP
  have hok : setOk (m : Int) = true := decide_eq_true (by omega)
  rw [if_pos hok, if_neg (by omega), Int.toNat_natCast, hto 32 (Nat.le_refl _), if_pos hf]
theorem arc_full {f : Nat} : maskN (inArc f 32) 32 = 4294967295 := by
  rw [full_mask]
  exact mask_congr fun p _ => decide_eq_true (by omega)

end Go.Proofs.YthihlapmkcelpaaDoor.Pure
