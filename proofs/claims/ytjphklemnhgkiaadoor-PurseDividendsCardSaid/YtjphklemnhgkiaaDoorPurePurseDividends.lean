/- The law PurseDividends, as a statement on lists alone: the dividends of a purse, and the purse of some dividends, are the reference's; each gives the other one back. For all purses and lists. -/
import Derived.Test.YtjphklemnhgkiaaDoorQx10
import Derived.Test.YtjphklemnhgkiaaDoorQx11
import Derived.Test.YtjphklemnhgkiaaDoorQx18
import Derived.Test.YtjphklemnhgkiaaDoorQx22
import Derived.Test.YtjphklemnhgkiaaDoorQx23
import Derived.Test.YtjphklemnhgkiaaDoorQx24
import Derived.Test.YtjphklemnhgkiaaDoorQx25
import Derived.Test.YtjphklemnhgkiaaDoorZPurseDividends
namespace Go.Proofs.YtjphklemnhgkiaaDoor.Pure
open Go.RowKit Go.Proofs.YtjphklemnhgkiaaDoor.Q Go.Proofs.YtjphklemnhgkiaaDoorW.PrintWords Go.Proofs.YtjphklemnhgkiaaDoorW.PrintLast
set_option linter.unusedVariables false

def divO (v : List Int) : List Int × Int := if okV v = true then (dvL v, 0) else ([], 1)
def fromO (d : List Int) : List Int × Int := if okD d = true then (if okV (fvL d) = true then (fvL d, 0) else ([], 3)) else ([], 1)
theorem divO_ev (v : List Int) (hm : v.length < 1000000000000000000) : Ev (fun k => purse_Dividends.f k v) (divO v) := by
  unfold divO
  by_cases h : okV v = true
  · rw [if_pos h]; exact Dividends_ev h
  · rw [if_neg h]; exact Dividends_bad hm h
theorem rdivO_ev (v : List Int) (hm : v.length < 1000000000000000000) : Ev (fun k => wigeonref08_Dividends.f k v) (divO v) := by
  unfold divO
  by_cases h : okV v = true
  · rw [if_pos h]; exact rDividends_ev h
  · rw [if_neg h]; exact rDividends_bad hm h
theorem fromO_ev (v : List Int) (hm : v.length < 1000000000000000000) : Ev (fun k => purse_FromDividends.f k v) (fromO v) := by
  unfold fromO
  by_cases h : okD v = true
  · rw [if_pos h]; exact From_ev h
  · rw [if_neg h]; exact From_bad hm h
theorem rfromO_ev (v : List Int) (hm : v.length < 1000000000000000000) : Ev (fun k => wigeonref08_FromDividends.f k v) (fromO v) := by
  unfold fromO
  by_cases h : okD v = true
  · rw [if_pos h]; exact rFrom_ev h
  · rw [if_neg h]; exact rFrom_bad hm h
theorem divO_len (v : List Int) : (divO v).1.length ≤ v.length := by
  unfold divO
  by_cases h : okV v = true
  · rw [if_pos h]; exact Nat.le_of_eq (dvL_length v)
  · rw [if_neg h]; exact Nat.zero_le _
theorem fromO_len (v : List Int) : (fromO v).1.length ≤ v.length := by
  unfold fromO
  by_cases h : okD v = true
  · rw [if_pos h]
    by_cases h2 : okV (fvL v) = true
    · rw [if_pos h2]; exact Nat.le_of_eq (fvL_length v)
    · rw [if_neg h2]; exact Nat.zero_le _
  · rw [if_neg h]; exact Nat.zero_le _
theorem back (v : List Int) (h : (divO v).2 = 0) : fromO (divO v).1 = (v, 0) := by
  unfold divO at h ⊢
  by_cases hv : okV v = true
  · rw [if_pos hv]
    unfold fromO
    rw [if_pos (dvL_ok hv), fv_dv (okV_n hv), if_pos hv]
  · rw [if_neg hv] at h
    exact absurd h (by decide)
theorem again (v : List Int) (h : (fromO v).2 = 0) : divO (fromO v).1 = (v, 0) := by
  unfold fromO at h ⊢
  by_cases hd : okD v = true
  · rw [if_pos hd] at h ⊢
    by_cases hv : okV (fvL v) = true
    · rw [if_pos hv]
      unfold divO
      rw [if_pos hv, dv_fv (okD_n hd)]
    · rw [if_neg hv] at h
      exact absurd h (by decide)
  · rw [if_neg hd] at h
    exact absurd h (by decide)
theorem PurseDividends : wigeonlaw08_PurseDividends.Pure := by
  intro l0 l1 h0 h1 h2 h3 _ _
  refine Ev.rounds (?_ : Ev (fun k => wigeonlaw08_PurseDividends.f k l0 l1) true)
  unfold wigeonlaw08_PurseDividends.f
  refine Ev.bindc (long_eq l0 l1) ?_
  cases hlg : longP l0 l1 with
  | true => exact Ev.ifp rfl known_bind
  | false =>
    obtain ⟨hl, hl'⟩ := long_no hlg
    have d1 := divO_len l0
    have d2 := fromO_len l1
    refine Ev.ifn (by decide) (Ev.bind (divO_ev l0 (by omega)) (Ev.bind (rdivO_ev l0 (by omega)) (Ev.bind (fromO_ev l1 (by omega)) (Ev.bind (rfromO_ev l1 (by omega)) (Ev.ifp rfl ?_)))))
    refine Ev.bind (same_ev (divO l0).1 (by omega)) (Ev.ifp rfl (Ev.ifp rfl (Ev.bind (same_ev (fromO l1).1 (by omega)) ?_)))
    refine Ev.step (fun k => by rw [wigeonlaw08_PurseDividends.j0]) (Ev.ifn (by decide) (Ev.bind (fromO_ev (divO l0).1 (by omega)) (Ev.bind (divO_ev (fromO l1).1 (by omega)) ?_)))
    have last : Ev (fun k => if (fromO l1).2 = 0 then (if (divO (fromO l1).1).2 = 0 then ((wigeonref08_SameInts.f k (divO (fromO l1).1).1 l1).bind fun t643 => (if t643 = true then ((wigeonlaw08_known.f k).bind fun t644 => (some t644)) else (none))) else (none)) else ((wigeonlaw08_known.f k).bind fun t645 => (some t645))) true := by
      by_cases hg : (fromO l1).2 = 0
      · refine Ev.ifp hg ?_
        rw [again l1 hg]
        exact Ev.ifp rfl (Ev.bind (same_ev l1 (by omega)) (Ev.ifp rfl known_bind))
      · exact Ev.ifn hg known_bind
    by_cases he : (divO l0).2 = 0
    · refine Ev.ifp he ?_
      rw [back l0 he]
      exact Ev.ifp rfl (Ev.bind (same_ev l0 (by omega)) (Ev.ifp rfl last))
    · exact Ev.ifn he last
end Go.Proofs.YtjphklemnhgkiaaDoor.Pure
