-- Written by a program of this session (wip/tools/row.py): the row of the law wigeon/wigeonlaw01.RingJoins, out of its Pure and its printed contract. Lean checks it.
import Derived.Test.YtlbhighbhchdmaaRows
import Derived.Test.YtlbhighbhchdmaaQx39
import Derived.Test.YtlbhighbhchdmaaPureRingJoins
import Derived.Test.YtlbhighbhchdmaaOpenJ
import Derived.WalkKit
import Derived.ProofKit
import Derived.OpenShut
import Derived.ShutString
import Derived.ChangeOld
import Derived.Below
import Derived.SizedLaws
import Derived.Carry
import Derived.WideShapes
namespace Go.Proofs.Ytlbhighbhchdmaa.ringJoins
open Go.ChangeShapes Go.WideShapes Go.ChangeAt Go.RowKit Go.Proofs.Ytlbhighbhchdmaa.Open Go.Proofs.Ytlbhighbhchdmaa.Q Go.Proofs.YtlbhighbhchdmaaW.PrintWords Go.Proofs.Ytlbhighbhchdmaa.Pure
open Go.ChangeMaps (open_string shut_string)
set_option linter.unusedVariables false
theorem own : ownKnob Try.prog.godebug = none := by kernel_rfl
theorem laidOut : laidOutB Try.prog = true := by kernel_rfl
theorem opens79 : Opens Try.prog 79 k79 g79 := by
  intro H enc w base spare held fuel cs x hx hw
  have hlen := struct_cells Try.underlying79 hx
  rw [show Try.prog.cellsOf 79 = 3 by kernel_rfl] at hlen
  obtain ⟨v0, h0, gd0⟩ := opens_field Try.underlying79 hx hw 0 0 (by kernel_rfl) (opens_string Try.underlying9)
  rw [show Try.prog.cellsOf 9 = 1 by kernel_rfl] at h0
  obtain ⟨v1, h1, gd1⟩ := opens_field Try.underlying79 hx hw 1 1 (by kernel_rfl) (opens_int Try.underlying3)
  rw [show Try.prog.cellsOf 3 = 1 by kernel_rfl] at h1
  obtain ⟨v2, h2, gd2⟩ := opens_field Try.underlying79 hx hw 2 2 (by kernel_rfl) (opens_int Try.underlying3)
  rw [show Try.prog.cellsOf 3 = 1 by kernel_rfl] at h2
  refine ⟨⟨v0, v1, v2⟩, ?_, ⟨gd0, gd1, gd2⟩⟩
  refine ⟨(cs.drop 0).take 1, cs.drop 1, ?_, h0, ?_⟩
  · rw [List.drop_zero]; exact (List.take_append_drop 1 _).symm
  refine ⟨(cs.drop 1).take 1, cs.drop 2, ?_, h1, ?_⟩
  · rw [show cs.drop 2 = (cs.drop 1).drop 1 by rw [List.drop_drop]]; exact (List.take_append_drop 1 _).symm
  rw [List.take_of_length_le (by rw [List.length_drop]; omega)] at h2
  exact h2
set_option maxRecDepth 100000 in
theorem lifted (os : Os) (started : os.Started) (H : Type) (enc : TypeId × Value → H) :
    ReturnsInHanded {} Try.checked os 14 .any (Rows.ringJoinsSpec.pre6 enc Try.prog Try.f14 Rows.ringJoinsRow.domain false) (Rows.ringJoinsSpec.post enc Try.prog Try.f14 false true false false) := by
  refine returnsInHanded_of_change_sized (C := Try.checked) own started (by kernel_rfl) Try.func14
    (ChangeSpec.witness6 (enc := enc) (C := Try.checked) false ⟨#[], #[.slice none 0 0, .string ByteArray.empty], []⟩ 8 (by kernel_rfl) (by kernel_rfl) (by kernel_rfl) (by kernel_rfl)) ?_
  intro W base args ds gs before hval0 hW hcnd hsz0 _
  have hsz : (DataW.weightsEach Try.prog (Try.f14.params.toList ++ Rows.ringJoinsSpec.plain.varTypes Try.prog) (ds ++ gs)).all (· ≤ reachBytes) = true := hsz0
  have hval : ∀ (j : Nat) t v, Try.f14.params[j]? = some t → args[j]? = some v → Value.okWide Try.prog W .any base t v := hval0
  have hW' := hW
  obtain ⟨p, q, hA0, hV, rfl, hfz, hnd⟩ := hW
  have hA : DataW.TrodAll enc Try.prog W 0 (fun _ => true) true Try.f14.params.toList args.toList ds p := hA0
  rw [Try.params14] at hA hval hsz
  obtain ⟨v0, vs0, d0, ds0, p0, q0, hargs, rfl, rfl, h0, r0⟩ := trodAll_cons hA
  obtain ⟨v1, vs1, d1, ds1, p1, q1, rfl, rfl, rfl, h1, r1⟩ := trodAll_cons r0
  obtain ⟨rfl, rfl, rfl⟩ := trodAll_nil r1
  obtain rfl : args = #[v0, v1] := by cases args; simp_all
  obtain ⟨rfl, rfl⟩ := trodVars_none hV
  have k0 := h0
  have lt0 := arg_lt k0
  have wt0 := weights_arg hsz (j := 0) (t := 48) rfl rfl
  obtain ⟨A0, len0, cap0, rfl⟩ := okWide_slice Try.underlying48 (hval 0 48 v0 rfl rfl)
  obtain ⟨l0, hk0, gd0⟩ := arg_opens (opens_slice (B := 32) Try.underlying48 opens79 (by kernel_rfl) (by kernel_rfl)) h0 wt0
  obtain ⟨A'0, c'0, e0, hc0, hr0⟩ := hk0
  simp [Value.cells] at e0
  obtain ⟨rfl, rfl, rfl⟩ := e0
  have k1 := h1
  have lt1 := arg_lt k1
  have wt1 := weights_arg hsz (j := 1) (t := 9) rfl rfl
  obtain ⟨a1, rfl⟩ := okWide_string Try.underlying9 (hval 1 9 v1 rfl rfl)
  obtain ⟨b1, hk1, gd1⟩ := arg_opens (opens_string Try.underlying9) h1 wt1
  obtain rfl : a1 = b1 := by have := hk1; simp [Value.cells] at this; injection this with e_ _; injection e_
  clear hA0 hval0 hsz0 hsz
  obtain ⟨kk, hk⟩ := Pure.RingJoins l0 a1 gd0 gd1
  refine (wigeonlaw01_RingJoins.calls kk A0 cap0 l0 a1 true W hr0 hc0 hk).mono fun e W' ⟨he, bel0⟩ => ?_
  have bel : Below W.heap.size W W' := bel0
  subst he
  exact ⟨_, rfl, _, _, _, [], _, [], hW', trodAll_mk1 (shut_bool Try.underlying4 _), (trodAll_cons_mk (Below.trod laidOut (by kernel_rfl) (of_decide_eq_true (by kernel_rfl)) k0 bel lt0) (trodAll_cons_mk (Below.trod laidOut (by kernel_rfl) (of_decide_eq_true (by kernel_rfl)) k1 bel lt1) trodAll_mk0)), rfl, bel.frame _, fun h => by cases h⟩
theorem over : Rows.ringJoinsRow.holds Try.pinned (OpenSpec.ofChange Rows.ringJoinsSpec) :=
  OpenClaim.holds_of_wide 14 Try.f14 rfl rfl rfl rfl rfl rfl rfl ⟨rfl, rfl, rfl, rfl, rfl⟩ rfl rfl rfl rfl rfl (by kernel_rfl) Try.func14 (by kernel_rfl)
    (of_decide_eq_true (by kernel_rfl)) (by unfold Func.isWrapper; first | (rw [if_pos (by decide +kernel)]; kernel_rfl) | (rw [if_neg (by decide +kernel)]; exact ⟨rfl, rfl⟩))
    (fun os started H enc _ => lifted os started H enc)
theorem proved : Rows.RingJoinsSaid := over
#print axioms proved
end Go.Proofs.Ytlbhighbhchdmaa.ringJoins
namespace Go.Proofs.Ytlbhighbhchdmaa
/-- The row, under a short name, for the claim. -/
theorem ringJoins_holds : Rows.RingJoinsSaid := ringJoins.proved
end Go.Proofs.Ytlbhighbhchdmaa
