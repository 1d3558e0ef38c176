-- Written by a program of this session (wip/tools/row.py): the row of the law wigeon/wigeonlaw03.WindApart, out of its Pure and its printed contract. Lean checks it.
import Derived.Test.YthihlapmkcelpaaDoorRows
import Derived.Test.YthihlapmkcelpaaDoorQx23
import Derived.Test.YthihlapmkcelpaaDoorPureWindApart
import Derived.Test.YthihlapmkcelpaaDoorOpen
import Derived.WalkKit
import Derived.ProofKit
import Derived.OpenShut
import Derived.ShutString
import Derived.ChangeOld
import Derived.Below
import Derived.SizedLaws
import Derived.SevenTiedAt
import Derived.Stop.Joined
import Derived.LaidMore
import Derived.Test.YthihlapmkcelpaaDoorLibLaid
import Derived.Test.YthihlapmkcelpaaDoorCards
import Derived.Carry
import Derived.WideShapes
namespace Go.Proofs.YthihlapmkcelpaaDoor.windApart
open Go.ChangeShapes Go.WideShapes Go.ChangeAt Go.RowKit Go.Proofs.YthihlapmkcelpaaDoor.Open Go.Proofs.YthihlapmkcelpaaDoor.Q Go.Proofs.YthihlapmkcelpaaDoorW.PrintWords Go.Proofs.YthihlapmkcelpaaDoor.Pure
open Go.ChangeMaps (open_string shut_string)
set_option linter.unusedVariables false
theorem own : ownKnob Tryd.prog.godebug = none := by kernel_rfl
theorem laidOut : laidOutB Tryd.prog = true := by kernel_rfl
theorem opens33 : Opens Tryd.prog 33 k33 g33 := by
  intro H enc w base spare held fuel cs x hx hw
  have hlen := struct_cells Tryd.underlying33 hx
  rw [show Tryd.prog.cellsOf 33 = 2 by kernel_rfl] at hlen
  obtain ⟨v0, h0, gd0⟩ := opens_field Tryd.underlying33 hx hw 0 0 (by kernel_rfl) (opens_int Tryd.underlying3)
  rw [show Tryd.prog.cellsOf 3 = 1 by kernel_rfl] at h0
  obtain ⟨v1, h1, gd1⟩ := opens_field Tryd.underlying33 hx hw 1 1 (by kernel_rfl) (opens_int Tryd.underlying3)
  rw [show Tryd.prog.cellsOf 3 = 1 by kernel_rfl] at h1
  refine ⟨⟨v0, v1⟩, ?_, ⟨gd0, gd1⟩⟩
  refine ⟨(cs.drop 0).take 1, cs.drop 1, ?_, h0, ?_⟩
  · rw [List.drop_zero]; exact (List.take_append_drop 1 _).symm
  rw [List.take_of_length_le (by rw [List.length_drop]; omega)] at h1
  exact h1
set_option maxRecDepth 100000 in
theorem lifted (os : Os) (started : os.Started) (H : Type) (enc : TypeId × Value → H) :
    ReturnsInHanded {} Tryd.checked os 13 .any (fun w args => (Rows.windApartSpec.pre enc Tryd.prog Tryd.f13 [] false w args ∧ laidMetH Tryd.prog laidA w) ∧ sizedMet enc Tryd.prog Tryd.f13 (OpenSpec.ofChange Rows.windApartSpec) false w args) (Rows.windApartSpec.post enc Tryd.prog Tryd.f13 false true false false) := by
  refine returnsInHanded_of_change_and (C := Tryd.checked) (X := fun w _ => laidMetH Tryd.prog laidA w) (fun _ _ _ hh h => h.of_heap hh) own started (by kernel_rfl) Tryd.func13
    (ChangeSpec.witness_shaped (enc := enc) (C := Tryd.checked) (os := os) (X := fun w _ => laidMetH Tryd.prog laidA w) false (World.doorLaid Tryd.prog 400 os) #[.slice none 0 0, .slice none 0 0] 8 rfl (World.shaped_of_RefB (by kernel_rfl) (by kernel_rfl)) (by kernel_rfl) (by kernel_rfl) (by kernel_rfl) (door_metA os _)) ?_
  intro W base args ds gs before hval0 hW hcnd hsz0 hL _
  have HS : Hid (Q.SpaceW W) := Lib.hid (spaceW_of hL)
  have hsz : (DataW.weightsEach Tryd.prog (Tryd.f13.params.toList ++ Rows.windApartSpec.plain.varTypes Tryd.prog) (ds ++ gs)).all (· ≤ reachBytes) = true := hsz0
  have hval : ∀ (j : Nat) t v, Tryd.f13.params[j]? = some t → args[j]? = some v → Value.okWide Tryd.prog W .any base t v := hval0
  have hW' := hW
  obtain ⟨p, q, hA0, hV, rfl, hfz, hnd⟩ := hW
  have hA : DataW.TrodAll enc Tryd.prog W 0 (fun _ => true) true Tryd.f13.params.toList args.toList ds p := hA0
  rw [Tryd.params13] at hA hval hsz
  obtain ⟨v0, vs0, d0, ds0, p0, q0, hargs, rfl, rfl, h0, r0⟩ := trodAll_cons hA
  obtain ⟨v1, vs1, d1, ds1, p1, q1, rfl, rfl, rfl, h1, r1⟩ := trodAll_cons r0
  obtain ⟨rfl, rfl, rfl⟩ := trodAll_nil r1
  obtain rfl : args = #[v0, v1] := by cases args; simp_all
  obtain ⟨rfl, rfl⟩ := trodVars_none hV
  have k0 := h0
  have lt0 := arg_lt k0
  have wt0 := weights_arg hsz (j := 0) (t := 36) rfl rfl
  obtain ⟨A0, len0, cap0, rfl⟩ := okWide_slice Tryd.underlying36 (hval 0 36 v0 rfl rfl)
  obtain ⟨l0, hk0, gd0⟩ := arg_opens (opens_slice (B := 16) Tryd.underlying36 opens33 (by kernel_rfl) (by kernel_rfl)) h0 wt0
  obtain ⟨A'0, c'0, e0, hc0, hr0⟩ := hk0
  simp [Value.cells] at e0
  obtain ⟨rfl, rfl, rfl⟩ := e0
  have k1 := h1
  have lt1 := arg_lt k1
  have wt1 := weights_arg hsz (j := 1) (t := 42) rfl rfl
  obtain ⟨A1, len1, cap1, rfl⟩ := okWide_slice Tryd.underlying42 (hval 1 42 v1 rfl rfl)
  obtain ⟨l1, hk1, gd1⟩ := arg_opens (opens_slice (B := 8) Tryd.underlying42 (opens_int Tryd.underlying3) (by kernel_rfl) (by kernel_rfl)) h1 wt1
  obtain ⟨A'1, c'1, e1, hc1, hr1⟩ := hk1
  simp [Value.cells] at e1
  obtain ⟨rfl, rfl, rfl⟩ := e1
  clear hA0 hval0 hsz0 hsz
  obtain ⟨kk, hk⟩ := Pure.WindApart l0 l1 gd0 gd1
  refine (wigeonlaw03_WindApart.calls kk A0 cap0 l0 A1 cap1 l1 true W HS hr0 hc0 hr1 hc1 hk).mono fun e W' ⟨he, bel0⟩ => ?_
  have bel : Below W.heap.size W W' := bel0
  subst he
  exact ⟨_, rfl, _, _, _, [], _, [], hW', trodAll_mk1 (shut_bool Tryd.underlying4 _), (trodAll_cons_mk (Below.trod laidOut (by kernel_rfl) (of_decide_eq_true (by kernel_rfl)) k0 bel lt0) (trodAll_cons_mk (Below.trod laidOut (by kernel_rfl) (of_decide_eq_true (by kernel_rfl)) k1 bel lt1) trodAll_mk0)), rfl, bel.frame _, fun h => by cases h⟩
theorem over : Rows.windApartRow.holds Tryd.pinned (OpenSpec.ofChange Rows.windApartSpec) :=
  OpenClaim.holds_of_wide 13 Tryd.f13 rfl rfl rfl rfl rfl rfl rfl ⟨rfl, rfl, rfl, rfl, rfl⟩ rfl rfl rfl rfl rfl (by kernel_rfl) Tryd.func13 (by kernel_rfl)
    (of_decide_eq_true (by kernel_rfl)) (by unfold Func.isWrapper; first | (rw [if_pos (by decide +kernel)]; kernel_rfl) | (rw [if_neg (by decide +kernel)]; exact ⟨rfl, rfl⟩))
    (fun os started H enc _ => lifted os started H enc)
theorem proved : Rows.WindApartSaid := over
#print axioms proved
end Go.Proofs.YthihlapmkcelpaaDoor.windApart
namespace Go.Proofs.YthihlapmkcelpaaDoor
/-- The tied card. -/
theorem windApart_holds : Rows.WindApartCardSaid :=
  Claim7.holds_tied_plain_at .later [] [.listed, .data] true (true, "0b9f4bf6df015514ac357915e65ccc99b4a27ede4e8e8895b3fd841a72466c44") false
    windApart.proved (fun _ h => by cases h) (by kernel_rfl) (fun _ h => by cases h) windApart_row_tie rfl ⟨rfl, rfl⟩ (by kernel_rfl) rfl
    (fun f fn hf hfn => by
      obtain rfl : f = 13 := Option.some.inj ((show Tryd.prog.funcNamed Rows.windApartRow.func = some 13 by kernel_rfl).symm.trans hf) |>.symm
      obtain rfl : fn = Tryd.f13 := (Option.some.inj (Tryd.func13.symm.trans hfn)).symm
      exact ⟨by kernel_rfl, fun j t ht => by
        rw [Tryd.params13] at ht
        have hm := Array.mem_of_getElem? ht
        have hall : ([36, 42].all fun u => !Tryd.prog.wantsStandIn u) = true := by kernel_rfl
        have hm : t ∈ [36, 42] := by simpa using hm
        exact (show Tryd.prog.wantsStandIn t = false by simpa using List.all_eq_true.1 hall t hm)⟩)
    (by kernel_rfl)
end Go.Proofs.YthihlapmkcelpaaDoor
