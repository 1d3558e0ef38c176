/- The law RingReads, as a statement on texts alone: which texts are rings, their series, numbers and next rings are the reference's answers. For all texts. -/
import Derived.Test.YtlbhighbhchdmaaQx9
import Derived.Test.YtlbhighbhchdmaaLibE
namespace Go.Proofs.Ytlbhighbhchdmaa.Pure
open Go.RowKit Go.Proofs.Ytlbhighbhchdmaa.Q Go.Proofs.YtlbhighbhchdmaaW.PrintWords Go.Proofs.YtlbhighbhchdmaaW.PrintLast

def NextP (s : ByteArray) : ByteArray × Int := if ValidP s = 0 then (if numP s = 99999 then (⟨#[]⟩, 3) else (makeP (s.extract 0 (s.size - 6)) (numP s + 1), 0)) else (⟨#[]⟩, ValidP s)
theorem numP_range {s : ByteArray} (h : ValidP s = 0) : 0 ≤ numP s ∧ numP s ≤ 99999 ∧ 7 ≤ s.size ∧ s.size ≤ 8 ∧ ∀ i, i < s.size → okb false (s.size - 6) i (bt s i) = true := by
  obtain ⟨hf, _⟩ := ValidP_ok h
  obtain ⟨h7, h8, _, h⟩ := formP_true hf
  have := numTo_lt (tailI s) (tailI_range h7 h) 5 (by omega)
  exact ⟨this.1, this.2, h7, h8, h⟩
theorem Next_ev (s : ByteArray) (hs : s.size ≤ 140737488351232) : Ev (fun k => ring_Next.f k s) (NextP s) := by
  unfold ring_Next.f NextP
  refine Ev.bind (Split_ev s hs) ?_
  unfold SplitP
  by_cases hv : ValidP s = 0
  · simp only [if_pos hv]
    obtain ⟨h0, h1, h7, h8, _⟩ := numP_range hv
    refine Ev.ifp trivial ?_
    by_cases hn : numP s = 99999
    · simp only [if_pos hn]
      exact Ev.now _
    · simp only [if_neg hn]
      rw [w64 (by omega) (by omega)]
      exact Ev.bind (make5_ev _ _ (by omega) (by omega) (by simp; omega)) (Ev.now _)
  · simp only [if_neg hv]
    exact Ev.now _
theorem rNext_ev (s : ByteArray) : Ev (fun k => wigeonref01_Next.f k s) (NextP s) := by
  unfold wigeonref01_Next.f NextP
  refine Ev.bind (rValid_ev s) ?_
  by_cases hv : ValidP s = 0
  · simp only [if_pos hv]
    obtain ⟨h0, h1, h7, h8, h⟩ := numP_range hv
    refine Ev.bind (number_ev s h7 h8 h) ?_
    by_cases hn : numP s = 99999
    · simp only [if_pos hn]
      exact Ev.now _
    · simp only [if_neg hn]
      rw [w64 (n := (s.size : Int) - 6) (by omega) (by omega)]
      refine Ev.ifp (by omega) (Ev.ifp (by omega) (Ev.bind (number_ev s h7 h8 h) ?_))
      rw [w64 (by omega) (by omega), show ((s.size : Int) - 6).toNat = s.size - 6 by omega]
      exact Ev.bind (build_ev _ _ (by omega) (by omega) (by simp; omega)) (Ev.now _)
  · simp only [if_neg hv]
    exact Ev.now _
theorem RingReads : wigeonlaw01_RingReads.Pure := by
  intro s hs
  refine Ev.rounds (?_ : Ev (fun k => wigeonlaw01_RingReads.f k s) true)
  unfold wigeonlaw01_RingReads.f wigeonlaw01_long.f
  refine Ev.some_bind ?_
  by_cases h : decide ((s.size : Int) > 200) = true
  · exact Ev.ifp h known_bind
  · refine Ev.ifn h (Ev.bind (Split_ev s hs) (Ev.bind (rSplit_ev s) (Ev.bind (Next_ev s hs) (Ev.bind (rNext_ev s) (Ev.bind (Valid_ev s hs) (Ev.bind (rValid_ev s) ?_))))))
    exact Ev.ifp rfl (Ev.ifp rfl (Ev.ifp rfl (Ev.ifp rfl (Ev.ifp rfl (Ev.ifp rfl known_bind)))))

end Go.Proofs.Ytlbhighbhchdmaa.Pure
