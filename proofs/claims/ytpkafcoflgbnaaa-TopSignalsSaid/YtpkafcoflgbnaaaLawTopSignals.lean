-- Written by a program of this session (wip/tools/row.py): the row of the law wigeon/wigeontop.TopSignals, out of its Pure and its printed contract. Lean checks it.
import Derived.Test.YtpkafcoflgbnaaaRows
import Derived.Test.YtpkafcoflgbnaaaQx41
import Derived.Test.YtpkafcoflgbnaaaPureTopSignals
import Derived.Test.YtpkafcoflgbnaaaOpen
import Derived.WalkKit
import Derived.ProofKit
import Derived.OpenShut
import Derived.ShutString
import Derived.ChangeOld
import Derived.Below
import Derived.SizedLaws
import Derived.Carry
import Derived.WideShapes
namespace Go.Proofs.Ytpkafcoflgbnaaa.topSignals
open Go.ChangeShapes Go.WideShapes Go.ChangeAt Go.RowKit Go.Proofs.Ytpkafcoflgbnaaa.Open Go.Proofs.Ytpkafcoflgbnaaa.Q Go.Proofs.YtpkafcoflgbnaaaW.PrintWords Go.Proofs.Ytpkafcoflgbnaaa.Pure
open Go.ChangeMaps (open_string shut_string)
set_option linter.unusedVariables false
theorem own : ownKnob Try.prog.godebug = none := by kernel_rfl
theorem laidOut : laidOutB Try.prog = true := by kernel_rfl
set_option maxRecDepth 100000 in
theorem lifted (os : Os) (started : os.Started) (H : Type) (enc : TypeId × Value → H) :
    ReturnsInHanded {} Try.checked os 15 .any (Rows.topSignalsSpec.pre6 enc Try.prog Try.f15 Rows.topSignalsRow.domain false) (Rows.topSignalsSpec.post enc Try.prog Try.f15 false true false false) := by
  refine returnsInHanded_of_change_sized (C := Try.checked) own started (by kernel_rfl) Try.func15
    (ChangeSpec.witness6 (enc := enc) (C := Try.checked) false ⟨#[], #[.slice none 0 0, .slice none 0 0, .slice none 0 0], []⟩ 8 (by kernel_rfl) (by kernel_rfl) (by kernel_rfl) (by kernel_rfl)) ?_
  intro W base args ds gs before hval0 hW hcnd hsz0 _
  have hsz : (DataW.weightsEach Try.prog (Try.f15.params.toList ++ Rows.topSignalsSpec.plain.varTypes Try.prog) (ds ++ gs)).all (· ≤ reachBytes) = true := hsz0
  have hval : ∀ (j : Nat) t v, Try.f15.params[j]? = some t → args[j]? = some v → Value.okWide Try.prog W .any base t v := hval0
  have hW' := hW
  obtain ⟨p, q, hA0, hV, rfl, hfz, hnd⟩ := hW
  have hA : DataW.TrodAll enc Try.prog W 0 (fun _ => true) true Try.f15.params.toList args.toList ds p := hA0
  rw [Try.params15] at hA hval hsz
  obtain ⟨v0, vs0, d0, ds0, p0, q0, hargs, rfl, rfl, h0, r0⟩ := trodAll_cons hA
  obtain ⟨v1, vs1, d1, ds1, p1, q1, rfl, rfl, rfl, h1, r1⟩ := trodAll_cons r0
  obtain ⟨v2, vs2, d2, ds2, p2, q2, rfl, rfl, rfl, h2, r2⟩ := trodAll_cons r1
  obtain ⟨rfl, rfl, rfl⟩ := trodAll_nil r2
  obtain rfl : args = #[v0, v1, v2] := by cases args; simp_all
  obtain ⟨rfl, rfl⟩ := trodVars_none hV
  have k0 := h0
  have lt0 := arg_lt k0
  have wt0 := weights_arg hsz (j := 0) (t := 22) rfl rfl
  obtain ⟨A0, len0, cap0, rfl⟩ := okWide_slice Try.underlying22 (hval 0 22 v0 rfl rfl)
  obtain ⟨l0, hk0, gd0⟩ := arg_opens (opens_slice (B := 16) Try.underlying22 (opens_string Try.underlying9) (by kernel_rfl) (by kernel_rfl)) h0 wt0
  obtain ⟨A'0, c'0, e0, hc0, hr0⟩ := hk0
  simp [Value.cells] at e0
  obtain ⟨rfl, rfl, rfl⟩ := e0
  have k1 := h1
  have lt1 := arg_lt k1
  have wt1 := weights_arg hsz (j := 1) (t := 35) rfl rfl
  obtain ⟨A1, len1, cap1, rfl⟩ := okWide_slice Try.underlying35 (hval 1 35 v1 rfl rfl)
  obtain ⟨l1, hk1, gd1⟩ := arg_opens (opens_slice (B := 8) Try.underlying35 (opens_int Try.underlying3) (by kernel_rfl) (by kernel_rfl)) h1 wt1
  obtain ⟨A'1, c'1, e1, hc1, hr1⟩ := hk1
  simp [Value.cells] at e1
  obtain ⟨rfl, rfl, rfl⟩ := e1
  have k2 := h2
  have lt2 := arg_lt k2
  have wt2 := weights_arg hsz (j := 2) (t := 35) rfl rfl
  obtain ⟨A2, len2, cap2, rfl⟩ := okWide_slice Try.underlying35 (hval 2 35 v2 rfl rfl)
  obtain ⟨l2, hk2, gd2⟩ := arg_opens (opens_slice (B := 8) Try.underlying35 (opens_int Try.underlying3) (by kernel_rfl) (by kernel_rfl)) h2 wt2
  obtain ⟨A'2, c'2, e2, hc2, hr2⟩ := hk2
  simp [Value.cells] at e2
  obtain ⟨rfl, rfl, rfl⟩ := e2
  clear hA0 hval0 hsz0 hsz
  obtain ⟨kk, hk⟩ := Pure.TopSignals l0 l1 l2 gd0 gd1 gd2
  refine (wigeontop_TopSignals.calls kk A0 cap0 l0 A1 cap1 l1 A2 cap2 l2 true W hr0 hc0 hr1 hc1 hr2 hc2 hk).mono fun e W' ⟨he, bel0⟩ => ?_
  have bel : Below W.heap.size W W' := bel0
  subst he
  exact ⟨_, rfl, _, _, _, [], _, [], hW', trodAll_mk1 (shut_bool Try.underlying4 _), (trodAll_cons_mk (Below.trod laidOut (by kernel_rfl) (of_decide_eq_true (by kernel_rfl)) k0 bel lt0) (trodAll_cons_mk (Below.trod laidOut (by kernel_rfl) (of_decide_eq_true (by kernel_rfl)) k1 bel lt1) (trodAll_cons_mk (Below.trod laidOut (by kernel_rfl) (of_decide_eq_true (by kernel_rfl)) k2 bel lt2) trodAll_mk0))), rfl, bel.frame _, fun h => by cases h⟩
theorem over : Rows.topSignalsRow.holds Try.pinned (OpenSpec.ofChange Rows.topSignalsSpec) :=
  OpenClaim.holds_of_wide 15 Try.f15 rfl rfl rfl rfl rfl rfl rfl ⟨rfl, rfl, rfl, rfl, rfl⟩ rfl rfl rfl rfl rfl (by kernel_rfl) Try.func15 (by kernel_rfl)
    (of_decide_eq_true (by kernel_rfl)) (by unfold Func.isWrapper; first | (rw [if_pos (by decide +kernel)]; kernel_rfl) | (rw [if_neg (by decide +kernel)]; exact ⟨rfl, rfl⟩))
    (fun os started H enc _ => lifted os started H enc)
theorem proved : Rows.TopSignalsSaid := over
#print axioms proved
end Go.Proofs.Ytpkafcoflgbnaaa.topSignals
namespace Go.Proofs.Ytpkafcoflgbnaaa
/-- The row, under a short name, for the claim. -/
theorem topSignals_holds : Rows.TopSignalsSaid := topSignals.proved
end Go.Proofs.Ytpkafcoflgbnaaa
