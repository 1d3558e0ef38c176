/- The law RingFits, as a statement on texts alone: which texts are worn rings, and which rings fit, are the reference's answers. For all texts. -/
import Derived.Test.YtlbhighbhchdmaaQx7
import Derived.Test.YtlbhighbhchdmaaLibD
namespace Go.Proofs.Ytlbhighbhchdmaa.Pure
open Go.RowKit Go.Proofs.Ytlbhighbhchdmaa.Q Go.Proofs.YtlbhighbhchdmaaW.PrintWords Go.Proofs.YtlbhighbhchdmaaW.PrintLast

def fitP (a b : ByteArray) : Bool := decide (a.size = b.size) && (List.range a.size).all (fun i => fitB a b i)
theorem rfits_step (a b : ByteArray) (hl : a.size = b.size) (h8 : a.size ≤ 1000) (i : Nat) (hi : i < a.size) (r : Bool)
    (hy : fitB a b i = true → Ev (fun k => wigeonref01_fits.l0 k a b ((i + 1 : Nat) : Int)) r) (hn : fitB a b i = false → r = false) : Ev (fun k => wigeonref01_fits.l0 k a b (i : Int)) r := by
  refine Ev.step (fun k => by rw [wigeonref01_fits.l0]) (Ev.ifp (by omega) (Ev.ifp (by omega) ?_))
  have e1 : wrap64 ((i : Int) + 1) = ((i + 1 : Nat) : Int) := by rw [w64 (by omega) (by omega)]; omega
  rw [e1]
  by_cases h : bt a i = 63
  · exact Ev.ifp h (hy (by unfold fitB; rw [h]; rfl))
  · refine Ev.ifn h (Ev.ifp (by omega) ?_)
    have e : fitB a b i = decide (bt a i = bt b i) := by
      unfold fitB
      rw [show (bt a i == 63) = false from beq_eq_false_iff_ne.mpr h, Bool.false_or]
      rfl
    by_cases h2 : bt a i = bt b i
    · exact Ev.ifp h2 (hy (by rw [e]; exact decide_eq_true h2))
    · exact Ev.ifn h2 (Ev.val (hn (by rw [e]; exact decide_eq_false h2)).symm)
theorem rfits_end (a b : ByteArray) : Ev (fun k => wigeonref01_fits.l0 k a b (a.size : Int)) true := by
  exact Ev.step (fun k => by rw [wigeonref01_fits.l0]) (Ev.ifn (by omega) (Ev.now _))
theorem rfits_good (a b : ByteArray) (hl : a.size = b.size) (h8 : a.size ≤ 1000) (h : ∀ i, i < a.size → fitB a b i = true) (d : Nat) : ∀ i, i + d = a.size → Ev (fun k => wigeonref01_fits.l0 k a b (i : Int)) true := by
  induction d with
  | zero => intro i hi; obtain rfl : i = a.size := by omega
            exact rfits_end a b
  | succ d ih => intro i hi; exact rfits_step a b hl h8 i (by omega) true (fun _ => ih (i + 1) (by omega)) (fun hf => by rw [h i (by omega)] at hf; exact absurd hf (by decide))
theorem rfits_bad (a b : ByteArray) (hl : a.size = b.size) (h8 : a.size ≤ 1000) (j : Nat) (hj : j < a.size) (h : fitB a b j = false) (d : Nat) : ∀ i, i + d = a.size → i ≤ j → Ev (fun k => wigeonref01_fits.l0 k a b (i : Int)) false := by
  induction d with
  | zero => intro i hi hij; omega
  | succ d ih =>
    intro i hi hij
    refine rfits_step a b hl h8 i (by omega) false (fun ht => ih (i + 1) (by omega) ?_) (fun _ => rfl)
    by_cases e : i = j
    · rw [e, h] at ht; exact absurd ht (by decide)
    · omega
theorem rfits_ev (a b : ByteArray) (h8 : a.size ≤ 1000) : Ev (fun k => wigeonref01_fits.f k a b) (fitP a b) := by
  unfold wigeonref01_fits.f fitP
  by_cases hl : a.size = b.size
  · refine Ev.ifp (by omega) ?_
    rw [decide_eq_true hl, Bool.true_and]
    cases hq : (List.range a.size).all (fun i => fitB a b i) with
    | true =>
      rw [List.all_eq_true] at hq
      exact rfits_good a b hl h8 (fun i hi => hq i (List.mem_range.2 hi)) a.size 0 (by omega)
    | false =>
      rw [List.all_eq_false] at hq
      obtain ⟨j, hj, hn⟩ := hq
      exact rfits_bad a b hl h8 j (List.mem_range.1 hj) (by simpa using hn) a.size 0 (by omega) (by omega)
  · refine Ev.ifn (by omega) ?_
    rw [decide_eq_false hl, Bool.false_and]
    exact Ev.now _
def FitsP (a b : ByteArray) : Bool × Int := if (formP a true).2 = true then (if ValidP b = 0 then (fitP a b, 0) else (false, ValidP b)) else (false, 2)
theorem Fits_ev (a b : ByteArray) (ha : a.size ≤ 140737488351232) (hb : b.size ≤ 140737488351232) : Ev (fun k => ring_Fits.f k a b) (FitsP a b) := by
  unfold ring_Fits.f FitsP
  refine Ev.bindc (IsWorn_eq ha) ?_
  by_cases hf : (formP a true).2 = true
  · simp only [if_pos hf]
    obtain ⟨h7, h8, _⟩ := formP_true hf
    refine Ev.bind (Valid_ev b hb) ?_
    by_cases hv : ValidP b = 0
    · simp only [if_pos hv]
      have e : ring_fits.f a b = some (fitP a b) := by unfold ring_fits.f; rw [if_pos (by omega)]; rfl
      exact Ev.bindc e (Ev.now _)
    · simp only [if_neg hv]
      exact Ev.now _
  · simp only [if_neg hf]
    exact Ev.now _
theorem rFits_ev (a b : ByteArray) : Ev (fun k => wigeonref01_Fits.f k a b) (FitsP a b) := by
  unfold wigeonref01_Fits.f FitsP
  refine Ev.bind (rIsWorn_ev a) ?_
  by_cases hf : (formP a true).2 = true
  · simp only [if_pos hf]
    obtain ⟨h7, h8, _⟩ := formP_true hf
    refine Ev.bind (rValid_ev b) ?_
    by_cases hv : ValidP b = 0
    · simp only [if_pos hv]
      exact Ev.bind (rfits_ev a b (by omega)) (Ev.now _)
    · simp only [if_neg hv]
      exact Ev.now _
  · simp only [if_neg hf]
    exact Ev.now _
theorem RingFits : wigeonlaw01_RingFits.Pure := by
  intro a b ha hb
  refine Ev.rounds (?_ : Ev (fun k => wigeonlaw01_RingFits.f k a b) true)
  have hj : ∀ q : Bool, Ev (fun k => wigeonlaw01_RingFits.j0 k a b q) true := by
    intro q
    refine Ev.step (fun k => by rw [wigeonlaw01_RingFits.j0]) ?_
    cases q with
    | true => exact Ev.ifp rfl known_bind
    | false =>
      refine Ev.ifn (by decide) (Ev.bind (Fits_ev a b ha hb) (Ev.bind (rFits_ev a b) (Ev.bindc (IsWorn_eq ha) (Ev.bind (rIsWorn_ev a) ?_))))
      exact Ev.ifp (by simp) (Ev.ifp (by simp) (Ev.ifp rfl known_bind))
  unfold wigeonlaw01_RingFits.f wigeonlaw01_long.f
  refine Ev.some_bind ?_
  by_cases h : decide ((a.size : Int) > 200) = true
  · exact Ev.ifp h (hj _)
  · exact Ev.ifn h (Ev.some_bind (hj _))

end Go.Proofs.Ytlbhighbhchdmaa.Pure
