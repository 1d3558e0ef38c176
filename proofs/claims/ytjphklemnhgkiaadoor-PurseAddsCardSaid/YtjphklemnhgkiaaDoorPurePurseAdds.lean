/- The law PurseAdds, as a statement on lists alone: the sum of two purses is the reference's, and the average gains add up. For all purses. -/
import Derived.Test.YtjphklemnhgkiaaDoorQx11
import Derived.Test.YtjphklemnhgkiaaDoorQx20
import Derived.Test.YtjphklemnhgkiaaDoorQx21
import Derived.Test.YtjphklemnhgkiaaDoorZPurseAdds
namespace Go.Proofs.YtjphklemnhgkiaaDoor.Pure
open Go.RowKit Go.Proofs.YtjphklemnhgkiaaDoor.Q Go.Proofs.YtjphklemnhgkiaaDoorW.PrintWords Go.Proofs.YtjphklemnhgkiaaDoorW.PrintLast
set_option linter.unusedVariables false

theorem adds_loop {v w s : List Int} (hv : okV v = true) (hw : okV w = true) (hs : okV s = true) (hl : v.length = w.length) (hls : s.length = v.length) (hg : ∀ g, vv s g = vv v g + vv w g) : ∀ m p, p + m = pn v.length →
    Ev (fun k => wigeonlaw08_PurseAdds.l0 k (shapL v (pn v.length)) (shapL w (pn v.length)) (shapL s (pn v.length)) (p : Int)) true := by
  have hpn := (pn_pow (okV_n hv)).2.2
  intro m
  induction m with
  | zero =>
    intro p hp
    refine Ev.step (fun k => by rw [wigeonlaw08_PurseAdds.l0]) (Ev.ifn (by rw [shapL_len]; omega) known_bind)
  | succ m ih =>
    intro p hp
    obtain ⟨x, ex1, x1, x2, x3, x4, x5, x6⟩ := gain120 hv p (by omega)
    obtain ⟨y, ey1, y1, y2, y3, y4, y5, y6⟩ := gain120 hw p (by rw [← hl]; omega)
    obtain ⟨z, ez1, z1, z2, z3, z4, z5, z6⟩ := gain120 hs p (by rw [hls]; omega)
    rw [← hl] at ey1 y4 y5 y6
    rw [hls] at ez1 z4 z5 z6
    have hadd := sh_add (pn v.length) p (vv v) (vv w) (vv s) hg (2 ^ pn v.length) 0
    refine Ev.step (fun k => by rw [wigeonlaw08_PurseAdds.l0]) ?_
    rw [ex1, ey1, ez1]
    refine Ev.ifp (by rw [shapL_len]; omega) (Ev.ifp (by omega) (Ev.ifp (by rw [shapL_len]; omega) (Ev.ifn (by omega) (Ev.ifp (by rw [shapL_len]; omega) (Ev.ifn (by omega) ?_)))))
    rw [decide_eq_false (show ¬ z.f1 < 1 by omega)]
    refine Ev.step (fun k => by rw [wigeonlaw08_PurseAdds.j3]) ?_
    rw [ex1, ey1, ez1]
    refine Ev.ifn (by decide) (Ev.ifp (by omega) (Ev.ifp (by rw [shapL_len]; omega) (Ev.ifn (by omega) (Ev.ifp (by rw [shapL_len]; omega) (Ev.ifn (by omega) (Ev.ifp (by rw [shapL_len]; omega) (Ev.ifn (by omega) (Ev.ifp ?_ ?_))))))))
    · rw [x3, y3, z3, x4, y4, z4, hadd, Int.add_mul]
      rw [hadd, Int.add_mul] at z5 z6
      exact w64 (by omega) (by omega)
    · rw [w64s (by omega)]
      exact ih (p + 1) (by omega)
theorem PurseAdds : wigeonlaw08_PurseAdds.Pure := by
  intro l0 l1 h0 h1 _ h2 h3 _
  refine Ev.rounds (?_ : Ev (fun k => wigeonlaw08_PurseAdds.f k l0 l1) true)
  unfold wigeonlaw08_PurseAdds.f
  refine Ev.bindc (long_eq l0 l1) ?_
  cases hlg : longP l0 l1 with
  | true => exact Ev.ifp rfl known_bind
  | false =>
    have hl := long_no hlg
    refine Ev.ifn (by decide) ?_
    have fin : ∀ (a : List Int) (e : Int), a.length ≤ 200 → Ev (fun k => purse_Add.f k l0 l1) (a, e) → Ev (fun k => wigeonref08_Add.f k l0 l1) (a, e) → Ev (fun k => wigeonlaw08_PurseAdds.j0 k l0 l1 a e false) true →
        Ev (fun k => (purse_Add.f k l0 l1).bind fun bt543 => ((wigeonref08_Add.f k l0 l1).bind fun bt547 => (if bt543.2 = bt547.2 then ((wigeonref08_SameInts.f k bt543.1 bt547.1).bind fun t551 => (wigeonlaw08_PurseAdds.j0 k l0 l1 bt543.1 bt543.2 (!t551))) else (wigeonlaw08_PurseAdds.j0 k l0 l1 bt543.1 bt543.2 true)))) true :=
      fun a e ha h1 h2 h3 => Ev.bind h1 (Ev.bind h2 (Ev.ifp rfl (Ev.bind (same_ev a (by omega)) h3)))
    have bad : ∀ (a : List Int) (e : Int), e ≠ 0 → Ev (fun k => wigeonlaw08_PurseAdds.j0 k l0 l1 a e false) true := fun a e he =>
      Ev.step (fun k => by rw [wigeonlaw08_PurseAdds.j0]) (Ev.ifn (by decide) (Ev.ifn he known_bind))
    by_cases H : addsOk l0 l1
    · obtain ⟨hv, hw, hll⟩ := H
      by_cases hs : okV (sumL l0 l1) = true
      · have a := Add_ev ⟨hv, hw, hll⟩
        have b := rAdd_ev ⟨hv, hw, hll⟩
        rw [if_pos hs] at a b
        refine fin _ _ (by rw [sumL_len]; omega) a b ?_
        refine Ev.step (fun k => by rw [wigeonlaw08_PurseAdds.j0]) (Ev.ifn (by decide) (Ev.ifp rfl (Ev.bind (Shapley_ev hv) (Ev.bind (Shapley_ev hw) (Ev.bind (Shapley_ev hs) ?_)))))
        refine Ev.ifp rfl (Ev.ifp rfl (Ev.ifp rfl ?_))
        rw [sumL_len, ← hll]
        refine Ev.ifp (by rw [shapL_len, shapL_len]) ?_
        rw [show (((shapL l1 (pn l0.length)).length : Int) != ((shapL (sumL l0 l1) (pn l0.length)).length : Int)) = false from bne_eq_false_iff_eq.2 (by rw [shapL_len, shapL_len])]
        refine Ev.step (fun k => by rw [wigeonlaw08_PurseAdds.j1]) (Ev.ifn (by decide) ?_)
        exact adds_loop hv hw hs hll (sumL_len l0 l1) (sum_vv hll) (pn l0.length) 0 (by omega)
      · have a := Add_ev ⟨hv, hw, hll⟩
        have b := rAdd_ev ⟨hv, hw, hll⟩
        rw [if_neg hs] at a b
        exact fin _ _ (by simp) a b (bad _ _ (by decide))
    · exact fin _ _ (by simp) (Add_bad (by omega) (by omega) H) (rAdd_bad (by omega) (by omega) H) (bad _ _ (by decide))
end Go.Proofs.YtjphklemnhgkiaaDoor.Pure
