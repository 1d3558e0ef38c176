-- Written by a program of this session (wip/tools/row.py): the row of the law wigeon/wigeontop.TopWinds, out of its Pure and its printed contract. Lean checks it.
import Derived.Test.YthihlapmkcelpaaDoorRows
import Derived.Test.YthihlapmkcelpaaDoorQx25
import Derived.Test.YthihlapmkcelpaaDoorPureTopWinds
import Derived.Test.YthihlapmkcelpaaDoorOpen
import Derived.WalkKit
import Derived.ProofKit
import Derived.OpenShut
import Derived.ShutString
import Derived.ChangeOld
import Derived.Below
import Derived.SizedLaws
import Derived.SevenTiedAt
import Derived.Stop.Joined
import Derived.LaidMore
import Derived.Test.YthihlapmkcelpaaDoorLibLaidC
import Derived.Test.YthihlapmkcelpaaDoorCards
import Derived.Carry
import Derived.WideShapes
namespace Go.Proofs.YthihlapmkcelpaaDoor.topWinds
open Go.ChangeShapes Go.WideShapes Go.ChangeAt Go.RowKit Go.Proofs.YthihlapmkcelpaaDoor.Open Go.Proofs.YthihlapmkcelpaaDoor.Q Go.Proofs.YthihlapmkcelpaaDoorW.PrintWords Go.Proofs.YthihlapmkcelpaaDoor.Pure
open Go.ChangeMaps (open_string shut_string)
set_option linter.unusedVariables false
theorem own : ownKnob Tryd.prog.godebug = none := by kernel_rfl
theorem laidOut : laidOutB Tryd.prog = true := by kernel_rfl
theorem opens33 : Opens Tryd.prog 33 k33 g33 := by
  intro H enc w base spare held fuel cs x hx hw
  have hlen := struct_cells Tryd.underlying33 hx
  rw [show Tryd.prog.cellsOf 33 = 2 by kernel_rfl] at hlen
  obtain ⟨v0, h0, gd0⟩ := opens_field Tryd.underlying33 hx hw 0 0 (by kernel_rfl) (opens_int Tryd.underlying3)
  rw [show Tryd.prog.cellsOf 3 = 1 by kernel_rfl] at h0
  obtain ⟨v1, h1, gd1⟩ := opens_field Tryd.underlying33 hx hw 1 1 (by kernel_rfl) (opens_int Tryd.underlying3)
  rw [show Tryd.prog.cellsOf 3 = 1 by kernel_rfl] at h1
  refine ⟨⟨v0, v1⟩, ?_, ⟨gd0, gd1⟩⟩
  refine ⟨(cs.drop 0).take 1, cs.drop 1, ?_, h0, ?_⟩
  · rw [List.drop_zero]; exact (List.take_append_drop 1 _).symm
  rw [List.take_of_length_le (by rw [List.length_drop]; omega)] at h1
  exact h1
set_option maxRecDepth 100000 in
theorem lifted (os : Os) (started : os.Started) (H : Type) (enc : TypeId × Value → H) :
    ReturnsInHanded {} Tryd.checked os 9 .any (fun w args => (Rows.topWindsSpec.pre enc Tryd.prog Tryd.f9 [] false w args ∧ laidMetH Tryd.prog laidC w) ∧ sizedMet enc Tryd.prog Tryd.f9 (OpenSpec.ofChange Rows.topWindsSpec) false w args) (Rows.topWindsSpec.post enc Tryd.prog Tryd.f9 false true false false) := by
  refine returnsInHanded_of_change_and (C := Tryd.checked) (X := fun w _ => laidMetH Tryd.prog laidC w) (fun _ _ _ hh h => h.of_heap hh) own started (by kernel_rfl) Tryd.func9
    (ChangeSpec.witness_shaped (enc := enc) (C := Tryd.checked) (os := os) (X := fun w _ => laidMetH Tryd.prog laidC w) false (World.doorLaid Tryd.prog 400 os) #[.slice none 0 0, .slice none 0 0, .int .i64 0] 8 rfl (World.shaped_of_RefB (by kernel_rfl) (by kernel_rfl)) (by kernel_rfl) (by kernel_rfl) (by kernel_rfl) (door_metC os _)) ?_
  intro W base args ds gs before hval0 hW hcnd hsz0 hL _
  have HS : Hid (Q.BitsW W) := Lib.hid (bitsW_of hL)
  have hsz : (DataW.weightsEach Tryd.prog (Tryd.f9.params.toList ++ Rows.topWindsSpec.plain.varTypes Tryd.prog) (ds ++ gs)).all (· ≤ reachBytes) = true := hsz0
  have hval : ∀ (j : Nat) t v, Tryd.f9.params[j]? = some t → args[j]? = some v → Value.okWide Tryd.prog W .any base t v := hval0
  have hW' := hW
  obtain ⟨p, q, hA0, hV, rfl, hfz, hnd⟩ := hW
  have hA : DataW.TrodAll enc Tryd.prog W 0 (fun _ => true) true Tryd.f9.params.toList args.toList ds p := hA0
  rw [Tryd.params9] at hA hval hsz
  obtain ⟨v0, vs0, d0, ds0, p0, q0, hargs, rfl, rfl, h0, r0⟩ := trodAll_cons hA
  obtain ⟨v1, vs1, d1, ds1, p1, q1, rfl, rfl, rfl, h1, r1⟩ := trodAll_cons r0
  obtain ⟨v2, vs2, d2, ds2, p2, q2, rfl, rfl, rfl, h2, r2⟩ := trodAll_cons r1
  obtain ⟨rfl, rfl, rfl⟩ := trodAll_nil r2
  obtain rfl : args = #[v0, v1, v2] := by cases args; simp_all
  obtain ⟨rfl, rfl⟩ := trodVars_none hV
  have k0 := h0
  have lt0 := arg_lt k0
  have wt0 := weights_arg hsz (j := 0) (t := 36) rfl rfl
  obtain ⟨A0, len0, cap0, rfl⟩ := okWide_slice Tryd.underlying36 (hval 0 36 v0 rfl rfl)
  obtain ⟨l0, hk0, gd0⟩ := arg_opens (opens_slice (B := 16) Tryd.underlying36 opens33 (by kernel_rfl) (by kernel_rfl)) h0 wt0
  obtain ⟨A'0, c'0, e0, hc0, hr0⟩ := hk0
  simp [Value.cells] at e0
  obtain ⟨rfl, rfl, rfl⟩ := e0
  have k1 := h1
  have lt1 := arg_lt k1
  have wt1 := weights_arg hsz (j := 1) (t := 42) rfl rfl
  obtain ⟨A1, len1, cap1, rfl⟩ := okWide_slice Tryd.underlying42 (hval 1 42 v1 rfl rfl)
  obtain ⟨l1, hk1, gd1⟩ := arg_opens (opens_slice (B := 8) Tryd.underlying42 (opens_int Tryd.underlying3) (by kernel_rfl) (by kernel_rfl)) h1 wt1
  obtain ⟨A'1, c'1, e1, hc1, hr1⟩ := hk1
  simp [Value.cells] at e1
  obtain ⟨rfl, rfl, rfl⟩ := e1
  have k2 := h2
  have lt2 := arg_lt k2
  have wt2 := weights_arg hsz (j := 2) (t := 3) rfl rfl
  obtain ⟨a2, rfl⟩ := okWide_int Tryd.underlying3 (hval 2 3 v2 rfl rfl)
  obtain ⟨b2, hk2, gd2⟩ := arg_opens (opens_int Tryd.underlying3) h2 wt2
  obtain rfl : a2 = b2 := by have := hk2; simp [Value.cells] at this; injection this with e_ _; injection e_
  clear hA0 hval0 hsz0 hsz
  obtain ⟨kk, hk⟩ := Pure.TopWinds l0 l1 a2 gd0 gd1 gd2
  refine (wigeontop_TopWinds.calls kk A0 cap0 l0 A1 cap1 l1 a2 true W HS hr0 hc0 hr1 hc1 hk rfl).mono fun e W' ⟨he, bel0⟩ => ?_
  have bel : Below W.heap.size W W' := bel0
  subst he
  exact ⟨_, rfl, _, _, _, [], _, [], hW', trodAll_mk1 (shut_bool Tryd.underlying4 _), (trodAll_cons_mk (Below.trod laidOut (by kernel_rfl) (of_decide_eq_true (by kernel_rfl)) k0 bel lt0) (trodAll_cons_mk (Below.trod laidOut (by kernel_rfl) (of_decide_eq_true (by kernel_rfl)) k1 bel lt1) (trodAll_cons_mk (Below.trod laidOut (by kernel_rfl) (of_decide_eq_true (by kernel_rfl)) k2 bel lt2) trodAll_mk0))), rfl, bel.frame _, fun h => by cases h⟩
theorem over : Rows.topWindsRow.holds Tryd.pinned (OpenSpec.ofChange Rows.topWindsSpec) :=
  OpenClaim.holds_of_wide 9 Tryd.f9 rfl rfl rfl rfl rfl rfl rfl ⟨rfl, rfl, rfl, rfl, rfl⟩ rfl rfl rfl rfl rfl (by kernel_rfl) Tryd.func9 (by kernel_rfl)
    (of_decide_eq_true (by kernel_rfl)) (by unfold Func.isWrapper; first | (rw [if_pos (by decide +kernel)]; kernel_rfl) | (rw [if_neg (by decide +kernel)]; exact ⟨rfl, rfl⟩))
    (fun os started H enc _ => lifted os started H enc)
theorem proved : Rows.TopWindsSaid := over
#print axioms proved
end Go.Proofs.YthihlapmkcelpaaDoor.topWinds
namespace Go.Proofs.YthihlapmkcelpaaDoor
/-- The tied card. -/
theorem topWinds_holds : Rows.TopWindsCardSaid :=
  Claim7.holds_tied_plain_at .later [] [.data, .data] true (true, "0b9f4bf6df015514ac357915e65ccc99b4a27ede4e8e8895b3fd841a72466c44") false
    topWinds.proved (fun _ h => by cases h) (by kernel_rfl) (fun _ h => by cases h) topWinds_row_tie rfl ⟨rfl, rfl⟩ (by kernel_rfl) rfl
    (fun f fn hf hfn => by
      obtain rfl : f = 9 := Option.some.inj ((show Tryd.prog.funcNamed Rows.topWindsRow.func = some 9 by kernel_rfl).symm.trans hf) |>.symm
      obtain rfl : fn = Tryd.f9 := (Option.some.inj (Tryd.func9.symm.trans hfn)).symm
      exact ⟨by kernel_rfl, fun j t ht => by
        rw [Tryd.params9] at ht
        have hm := Array.mem_of_getElem? ht
        have hall : ([36, 42, 3].all fun u => !Tryd.prog.wantsStandIn u) = true := by kernel_rfl
        have hm : t ∈ [36, 42, 3] := by simpa using hm
        exact (show Tryd.prog.wantsStandIn t = false by simpa using List.all_eq_true.1 hall t hm)⟩)
    (by kernel_rfl)
end Go.Proofs.YthihlapmkcelpaaDoor
