-- Written by a program of this session (wip/tools/row.py): the row of the law wigeon/wigeonlaw03.WindNames, out of its Pure and its printed contract. Lean checks it.
import Derived.Test.YthihlapmkcelpaaDoorRows
import Derived.Test.YthihlapmkcelpaaDoorQx92
import Derived.Test.YthihlapmkcelpaaDoorPureWindNames
import Derived.Test.YthihlapmkcelpaaDoorOpen
import Derived.WalkKit
import Derived.ProofKit
import Derived.OpenShut
import Derived.ShutString
import Derived.ChangeOld
import Derived.Below
import Derived.SizedLaws
import Derived.SevenTiedAt
import Derived.Stop.Joined
import Derived.LaidMore
import Derived.Test.YthihlapmkcelpaaDoorLibLaid
import Derived.Test.YthihlapmkcelpaaDoorCards
import Derived.Carry
import Derived.WideShapes
namespace Go.Proofs.YthihlapmkcelpaaDoor.windNames
open Go.ChangeShapes Go.WideShapes Go.ChangeAt Go.RowKit Go.Proofs.YthihlapmkcelpaaDoor.Open Go.Proofs.YthihlapmkcelpaaDoor.Q Go.Proofs.YthihlapmkcelpaaDoorW.PrintWords Go.Proofs.YthihlapmkcelpaaDoor.Pure
open Go.ChangeMaps (open_string shut_string)
set_option linter.unusedVariables false
theorem own : ownKnob Tryd.prog.godebug = none := by kernel_rfl
theorem laidOut : laidOutB Tryd.prog = true := by kernel_rfl
set_option maxRecDepth 100000 in
theorem lifted (os : Os) (started : os.Started) (H : Type) (enc : TypeId × Value → H) :
    ReturnsInHanded {} Tryd.checked os 3 .any (fun w args => (Rows.windNamesSpec.pre enc Tryd.prog Tryd.f3 [] false w args ∧ laidMetH Tryd.prog laidA w) ∧ sizedMet enc Tryd.prog Tryd.f3 (OpenSpec.ofChange Rows.windNamesSpec) false w args) (Rows.windNamesSpec.post enc Tryd.prog Tryd.f3 false true false false) := by
  refine returnsInHanded_of_change_and (C := Tryd.checked) (X := fun w _ => laidMetH Tryd.prog laidA w) (fun _ _ _ hh h => h.of_heap hh) own started (by kernel_rfl) Tryd.func3
    (ChangeSpec.witness_shaped (enc := enc) (C := Tryd.checked) (os := os) (X := fun w _ => laidMetH Tryd.prog laidA w) false (World.doorLaid Tryd.prog 400 os) #[.int .i64 0, .string ByteArray.empty] 8 rfl (World.shaped_of_RefB (by kernel_rfl) (by kernel_rfl)) (by kernel_rfl) (by kernel_rfl) (by kernel_rfl) (door_metA os _)) ?_
  intro W base args ds gs before hval0 hW hcnd hsz0 hL _
  have HS : Hid (Q.SpaceW W) := Lib.hid (spaceW_of hL)
  have hsz : (DataW.weightsEach Tryd.prog (Tryd.f3.params.toList ++ Rows.windNamesSpec.plain.varTypes Tryd.prog) (ds ++ gs)).all (· ≤ reachBytes) = true := hsz0
  have hval : ∀ (j : Nat) t v, Tryd.f3.params[j]? = some t → args[j]? = some v → Value.okWide Tryd.prog W .any base t v := hval0
  have hW' := hW
  obtain ⟨p, q, hA0, hV, rfl, hfz, hnd⟩ := hW
  have hA : DataW.TrodAll enc Tryd.prog W 0 (fun _ => true) true Tryd.f3.params.toList args.toList ds p := hA0
  rw [Tryd.params3] at hA hval hsz
  obtain ⟨v0, vs0, d0, ds0, p0, q0, hargs, rfl, rfl, h0, r0⟩ := trodAll_cons hA
  obtain ⟨v1, vs1, d1, ds1, p1, q1, rfl, rfl, rfl, h1, r1⟩ := trodAll_cons r0
  obtain ⟨rfl, rfl, rfl⟩ := trodAll_nil r1
  obtain rfl : args = #[v0, v1] := by cases args; simp_all
  obtain ⟨rfl, rfl⟩ := trodVars_none hV
  have k0 := h0
  have lt0 := arg_lt k0
  have wt0 := weights_arg hsz (j := 0) (t := 3) rfl rfl
  obtain ⟨a0, rfl⟩ := okWide_int Tryd.underlying3 (hval 0 3 v0 rfl rfl)
  obtain ⟨b0, hk0, gd0⟩ := arg_opens (opens_int Tryd.underlying3) h0 wt0
  obtain rfl : a0 = b0 := by have := hk0; simp [Value.cells] at this; injection this with e_ _; injection e_
  have k1 := h1
  have lt1 := arg_lt k1
  have wt1 := weights_arg hsz (j := 1) (t := 9) rfl rfl
  obtain ⟨a1, rfl⟩ := okWide_string Tryd.underlying9 (hval 1 9 v1 rfl rfl)
  obtain ⟨b1, hk1, gd1⟩ := arg_opens (opens_string Tryd.underlying9) h1 wt1
  obtain rfl : a1 = b1 := by have := hk1; simp [Value.cells] at this; injection this with e_ _; injection e_
  clear hA0 hval0 hsz0 hsz
  have hk := Pure.WindNames a0 a1 gd0 gd1
  refine (wigeonlaw03_WindNames.calls a0 a1 true W HS  hk).mono fun e W' ⟨he, bel0⟩ => ?_
  have bel : Below W.heap.size W W' := bel0
  subst he
  exact ⟨_, rfl, _, _, _, [], _, [], hW', trodAll_mk1 (shut_bool Tryd.underlying4 _), (trodAll_cons_mk (Below.trod laidOut (by kernel_rfl) (of_decide_eq_true (by kernel_rfl)) k0 bel lt0) (trodAll_cons_mk (Below.trod laidOut (by kernel_rfl) (of_decide_eq_true (by kernel_rfl)) k1 bel lt1) trodAll_mk0)), rfl, bel.frame _, fun h => by cases h⟩
theorem over : Rows.windNamesRow.holds Tryd.pinned (OpenSpec.ofChange Rows.windNamesSpec) :=
  OpenClaim.holds_of_wide 3 Tryd.f3 rfl rfl rfl rfl rfl rfl rfl ⟨rfl, rfl, rfl, rfl, rfl⟩ rfl rfl rfl rfl rfl (by kernel_rfl) Tryd.func3 (by kernel_rfl)
    (of_decide_eq_true (by kernel_rfl)) (by unfold Func.isWrapper; first | (rw [if_pos (by decide +kernel)]; kernel_rfl) | (rw [if_neg (by decide +kernel)]; exact ⟨rfl, rfl⟩))
    (fun os started H enc _ => lifted os started H enc)
theorem proved : Rows.WindNamesSaid := over
#print axioms proved
end Go.Proofs.YthihlapmkcelpaaDoor.windNames
namespace Go.Proofs.YthihlapmkcelpaaDoor
/-- The tied card. -/
theorem windNames_holds : Rows.WindNamesCardSaid :=
  Claim7.holds_tied_plain_at .later [] [.listed, .data] true (true, "0b9f4bf6df015514ac357915e65ccc99b4a27ede4e8e8895b3fd841a72466c44") false
    windNames.proved (fun _ h => by cases h) (by kernel_rfl) (fun _ h => by cases h) windNames_row_tie rfl ⟨rfl, rfl⟩ (by kernel_rfl) rfl
    (fun f fn hf hfn => by
      obtain rfl : f = 3 := Option.some.inj ((show Tryd.prog.funcNamed Rows.windNamesRow.func = some 3 by kernel_rfl).symm.trans hf) |>.symm
      obtain rfl : fn = Tryd.f3 := (Option.some.inj (Tryd.func3.symm.trans hfn)).symm
      exact ⟨by kernel_rfl, fun j t ht => by
        rw [Tryd.params3] at ht
        have hm := Array.mem_of_getElem? ht
        have hall : ([3, 9].all fun u => !Tryd.prog.wantsStandIn u) = true := by kernel_rfl
        have hm : t ∈ [3, 9] := by simpa using hm
        exact (show Tryd.prog.wantsStandIn t = false by simpa using List.all_eq_true.1 hall t hm)⟩)
    (by kernel_rfl)
end Go.Proofs.YthihlapmkcelpaaDoor
