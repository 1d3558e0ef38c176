/- The law PurseExcesses, as a statement on lists alone: a pay is in the core exactly if it gives out the whole and no group has an excess above 0. For all purses and pays. -/
import Derived.Test.YtjphklemnhgkiaaDoorQx0
import Derived.Test.YtjphklemnhgkiaaDoorQx31
import Derived.Test.YtjphklemnhgkiaaDoorLibC
namespace Go.Proofs.YtjphklemnhgkiaaDoor.Pure
open Go.RowKit Go.Proofs.YtjphklemnhgkiaaDoor.Q Go.Proofs.YtjphklemnhgkiaaDoorW.PrintWords Go.Proofs.YtjphklemnhgkiaaDoorW.PrintLast
set_option linter.unusedVariables false

theorem excesses_loop {v : List Int} {d : Int} {num : List Int} (H : okP v d num = true) (hl : v.length ≠ 2) (n : Int) (hn : n = ex v d num (worst v d num)) : ∀ m j acc, j + m = num.length → acc + (num.drop j).sum = num.sum → -10000000 * (j : Int) ≤ acc → acc ≤ 10000000 * (j : Int) →
    Ev (fun k => wigeonlaw08_PurseExcesses.l0 k v n acc (j : Int) d num) true := by
  have P := paid_of H
  have h32 := P.v32
  have h2 := P.v2
  have h5 := P.n5
  have hlast : wrap64 ((v.length : Int) - 1) = ((v.length - 1 : Nat) : Int) := by rw [w64 (by omega) (by omega)]; omega
  intro m
  induction m with
  | zero =>
    intro j acc hj hs _ _
    rw [show j = num.length by omega, List.drop_length, List.sum_nil, Int.add_zero] at hs
    obtain ⟨r, hr, _, hc⟩ := CheckCore_ev H
    have hcw := hc.trans (core_worst P hl)
    refine Ev.step (fun k => by rw [wigeonlaw08_PurseExcesses.l0]) (Ev.ifn (by omega) (Ev.bind hr ?_))
    rw [hlast, rd_nat, w64 (by have := dv_bound P (v.length - 1); omega) (by have := dv_bound P (v.length - 1); omega), hs]
    by_cases h : n ≤ 0
    · refine Ev.ifp h (Ev.ifp (by omega) (Ev.ifp (by omega) (Ev.ifp ?_ known_bind)))
      rw [hn] at h
      by_cases e : num.sum = d * v.getD (v.length - 1) 0
      · rw [show (r == 0) = true from beq_iff_eq.2 (hcw.2 ⟨h, e⟩), show (num.sum == d * v.getD (v.length - 1) 0) = true from beq_iff_eq.2 e]
        rfl
      · rw [show (r == 0) = false from beq_eq_false_iff_ne.2 (fun q => e (hcw.1 q).2), show (num.sum == d * v.getD (v.length - 1) 0) = false from beq_eq_false_iff_ne.2 e]
        rfl
    · refine Ev.ifn h (Ev.ifp ?_ known_bind)
      rw [show (r == 0) = false from beq_eq_false_iff_ne.2 (fun q => h (by rw [hn]; exact (hcw.1 q).1))]
      rfl
  | succ m ih =>
    intro j acc hj hs h1 h3
    have hjl : j < num.length := by omega
    have hx := P.x num[j] (List.getElem_mem hjl)
    refine Ev.step (fun k => by rw [wigeonlaw08_PurseExcesses.l0]) (Ev.ifp (by omega) (Ev.ifp (by omega) ?_))
    rw [rd_nat, List.getD_eq_getElem?_getD, List.getElem?_eq_getElem hjl, w64s (by omega)]
    rw [List.drop_eq_getElem_cons hjl, List.sum_cons] at hs
    show Ev (fun k => wigeonlaw08_PurseExcesses.l0 k v n (wrap64 (acc + num[j])) ((j + 1 : Nat) : Int) d num) true
    rw [w64 (by omega) (by omega)]
    exact ih (j + 1) (acc + num[j]) (by omega) (by omega) (by omega) (by omega)
theorem PurseExcesses (l0 : List Int) (x1 : S31) (h0 : (l0.length ≤ maxLen ∧ l0.length * 8 ≤ 140737488351232 ∧ ∀ y ∈ l0, (Lit.int .i64 y).wf = true)) (h1 : g31 x1) : ∃ k, wigeonlaw08_PurseExcesses.f k l0 x1.f0 x1.f1 = some true := by
  refine Ev.rounds (?_ : Ev (fun k => wigeonlaw08_PurseExcesses.f k l0 x1.f0 x1.f1) true)
  unfold wigeonlaw08_PurseExcesses.f
  refine Ev.bindc (long_eq l0 x1.f1) ?_
  cases hlg : longP l0 x1.f1 with
  | true => exact Ev.ifp rfl known_bind
  | false =>
    have hl := long_no hlg
    refine Ev.ifn (by decide) ?_
    by_cases H : okP l0 x1.f0 x1.f1 = true
    · refine Ev.bind (Excess_ev H) ?_
      by_cases h2 : l0.length = 2
      · rw [if_pos h2]
        exact Ev.ifn (by decide) known_bind
      · rw [if_neg h2]
        refine Ev.ifp rfl ?_
        exact excesses_loop H h2 _ rfl x1.f1.length 0 0 (by omega) (by simp) (by omega) (by omega)
    · refine Ev.bind (Excess_bad (by omega) H) (Ev.ifn (by decide) known_bind)
end Go.Proofs.YtjphklemnhgkiaaDoor.Pure
