-- Written by a program of this session (wip/tools/row.py): the row of the law wigeon/wigeonlaw08.PurseChecks, out of its Pure and its printed contract. Lean checks it.
import Derived.Test.YtjphklemnhgkiaaDoorRows
import Derived.Test.YtjphklemnhgkiaaDoorQx30
import Derived.Test.YtjphklemnhgkiaaDoorPurePurseChecks
import Derived.Test.YtjphklemnhgkiaaDoorOpen
import Derived.WalkKit
import Derived.ProofKit
import Derived.OpenShut
import Derived.ShutString
import Derived.ChangeOld
import Derived.Below
import Derived.SizedLaws
import Derived.SevenTiedAt
import Derived.Stop.Joined
import Derived.LaidMore
import Derived.Test.YtjphklemnhgkiaaDoorLibLaidC
import Derived.Test.YtjphklemnhgkiaaDoorCards
import Derived.Carry
import Derived.WideShapes
namespace Go.Proofs.YtjphklemnhgkiaaDoor.purseChecks
open Go.ChangeShapes Go.WideShapes Go.ChangeAt Go.RowKit Go.Proofs.YtjphklemnhgkiaaDoor.Open Go.Proofs.YtjphklemnhgkiaaDoor.Q Go.Proofs.YtjphklemnhgkiaaDoorW.PrintWords Go.Proofs.YtjphklemnhgkiaaDoor.Pure
open Go.ChangeMaps (open_string shut_string)
set_option linter.unusedVariables false
theorem own : ownKnob Tryd.prog.godebug = none := by kernel_rfl
theorem laidOut : laidOutB Tryd.prog = true := by kernel_rfl
theorem opens31 : Opens Tryd.prog 31 k31 g31 := by
  intro H enc w base spare held fuel cs x hx hw
  have hlen := struct_cells Tryd.underlying31 hx
  rw [show Tryd.prog.cellsOf 31 = 2 by kernel_rfl] at hlen
  obtain ⟨v0, h0, gd0⟩ := opens_field Tryd.underlying31 hx hw 0 0 (by kernel_rfl) (opens_int Tryd.underlying3)
  rw [show Tryd.prog.cellsOf 3 = 1 by kernel_rfl] at h0
  obtain ⟨v1, h1, gd1⟩ := opens_field Tryd.underlying31 hx hw 1 1 (by kernel_rfl) (opens_slice (B := 8) Tryd.underlying22 (opens_int Tryd.underlying3) (by kernel_rfl) (by kernel_rfl))
  rw [show Tryd.prog.cellsOf 22 = 1 by kernel_rfl] at h1
  refine ⟨⟨v0, v1⟩, ?_, ⟨gd0, gd1⟩⟩
  refine ⟨(cs.drop 0).take 1, cs.drop 1, ?_, h0, ?_⟩
  · rw [List.drop_zero]; exact (List.take_append_drop 1 _).symm
  rw [List.take_of_length_le (by rw [List.length_drop]; omega)] at h1
  exact h1
set_option maxRecDepth 100000 in
theorem lifted (os : Os) (started : os.Started) (H : Type) (enc : TypeId × Value → H) :
    ReturnsInHanded {} Tryd.checked os 7 .any (fun w args => (Rows.purseChecksSpec.pre enc Tryd.prog Tryd.f7 [] false w args ∧ laidMetH Tryd.prog laidC w) ∧ sizedMet enc Tryd.prog Tryd.f7 (OpenSpec.ofChange Rows.purseChecksSpec) false w args) (Rows.purseChecksSpec.post enc Tryd.prog Tryd.f7 false true false false) := by
  refine returnsInHanded_of_change_and (C := Tryd.checked) (X := fun w _ => laidMetH Tryd.prog laidC w) (fun _ _ _ hh h => h.of_heap hh) own started (by kernel_rfl) Tryd.func7
    (ChangeSpec.witness_shaped (enc := enc) (C := Tryd.checked) (os := os) (X := fun w _ => laidMetH Tryd.prog laidC w) false (World.doorLaid Tryd.prog 400 os) #[.slice none 0 0, .agg #[.int .i64 0, .slice none 0 0]] 8 rfl (World.shaped_of_RefB (by kernel_rfl) (by kernel_rfl)) (by kernel_rfl) (by kernel_rfl) (by kernel_rfl) (door_metC os _)) ?_
  intro W base args ds gs before hval0 hW hcnd hsz0 hL _
  have HS : Hid (Q.BitsW W) := Lib.hid (bitsW_of hL)
  have hsz : (DataW.weightsEach Tryd.prog (Tryd.f7.params.toList ++ Rows.purseChecksSpec.plain.varTypes Tryd.prog) (ds ++ gs)).all (· ≤ reachBytes) = true := hsz0
  have hval : ∀ (j : Nat) t v, Tryd.f7.params[j]? = some t → args[j]? = some v → Value.okWide Tryd.prog W .any base t v := hval0
  have hW' := hW
  obtain ⟨p, q, hA0, hV, rfl, hfz, hnd⟩ := hW
  have hA : DataW.TrodAll enc Tryd.prog W 0 (fun _ => true) true Tryd.f7.params.toList args.toList ds p := hA0
  rw [Tryd.params7] at hA hval hsz
  obtain ⟨v0, vs0, d0, ds0, p0, q0, hargs, rfl, rfl, h0, r0⟩ := trodAll_cons hA
  obtain ⟨v1, vs1, d1, ds1, p1, q1, rfl, rfl, rfl, h1, r1⟩ := trodAll_cons r0
  obtain ⟨rfl, rfl, rfl⟩ := trodAll_nil r1
  obtain rfl : args = #[v0, v1] := by cases args; simp_all
  obtain ⟨rfl, rfl⟩ := trodVars_none hV
  have k0 := h0
  have lt0 := arg_lt k0
  have wt0 := weights_arg hsz (j := 0) (t := 22) rfl rfl
  obtain ⟨A0, len0, cap0, rfl⟩ := okWide_slice Tryd.underlying22 (hval 0 22 v0 rfl rfl)
  obtain ⟨l0, hk0, gd0⟩ := arg_opens (opens_slice (B := 8) Tryd.underlying22 (opens_int Tryd.underlying3) (by kernel_rfl) (by kernel_rfl)) h0 wt0
  obtain ⟨A'0, c'0, e0, hc0, hr0⟩ := hk0
  simp [Value.cells] at e0
  obtain ⟨rfl, rfl, rfl⟩ := e0
  have k1 := h1
  have lt1 := arg_lt k1
  have wt1 := weights_arg hsz (j := 1) (t := 31) rfl rfl
  obtain ⟨cs1, rfl, _⟩ := okWide_struct Tryd.underlying31 (hval 1 31 v1 rfl rfl)
  obtain ⟨x1, hk1, gd1⟩ := arg_opens opens31 h1 wt1
  obtain ⟨As1, cas1, ek1, hc1, hr1⟩ := k31_open hk1
  obtain rfl : cs1 = #[.int .i64 x1.f0, .slice As1 x1.f1.length cas1] := by apply Array.ext'; simpa [Value.cells] using ek1
  clear hA0 hval0 hsz0 hsz
  obtain ⟨kk, hk⟩ := Pure.PurseChecks l0 x1 gd0 gd1
  refine (wigeonlaw08_PurseChecks.calls kk A0 cap0 l0 x1.f0 As1 cas1 x1.f1 true W HS hr0 hc0 hr1 hc1 hk).mono fun e W' ⟨he, bel0⟩ => ?_
  have bel : Below W.heap.size W W' := bel0
  subst he
  exact ⟨_, rfl, _, _, _, [], _, [], hW', trodAll_mk1 (shut_bool Tryd.underlying4 _), (trodAll_cons_mk (Below.trod laidOut (by kernel_rfl) (of_decide_eq_true (by kernel_rfl)) k0 bel lt0) (trodAll_cons_mk (Below.trod laidOut (by kernel_rfl) (of_decide_eq_true (by kernel_rfl)) k1 bel lt1) trodAll_mk0)), rfl, bel.frame _, fun h => by cases h⟩
theorem over : Rows.purseChecksRow.holds Tryd.pinned (OpenSpec.ofChange Rows.purseChecksSpec) :=
  OpenClaim.holds_of_wide 7 Tryd.f7 rfl rfl rfl rfl rfl rfl rfl ⟨rfl, rfl, rfl, rfl, rfl⟩ rfl rfl rfl rfl rfl (by kernel_rfl) Tryd.func7 (by kernel_rfl)
    (of_decide_eq_true (by kernel_rfl)) (by unfold Func.isWrapper; first | (rw [if_pos (by decide +kernel)]; kernel_rfl) | (rw [if_neg (by decide +kernel)]; exact ⟨rfl, rfl⟩))
    (fun os started H enc _ => lifted os started H enc)
theorem proved : Rows.PurseChecksSaid := over
#print axioms proved
end Go.Proofs.YtjphklemnhgkiaaDoor.purseChecks
namespace Go.Proofs.YtjphklemnhgkiaaDoor
/-- The tied card. -/
theorem purseChecks_holds : Rows.PurseChecksCardSaid :=
  Claim7.holds_tied_plain_at .later [] [.data, .data] true (true, "b93a435e15ec4830f4eb8574ff90802f786dfac237a6d19e016e2aaa7a915d00") true
    purseChecks.proved (fun _ h => by cases h) (by kernel_rfl) (fun _ h => by cases h) purseChecks_row_tie rfl ⟨rfl, rfl⟩ (by kernel_rfl) rfl
    (fun f fn hf hfn => by
      obtain rfl : f = 7 := Option.some.inj ((show Tryd.prog.funcNamed Rows.purseChecksRow.func = some 7 by kernel_rfl).symm.trans hf) |>.symm
      obtain rfl : fn = Tryd.f7 := (Option.some.inj (Tryd.func7.symm.trans hfn)).symm
      exact ⟨by kernel_rfl, fun j t ht => by
        rw [Tryd.params7] at ht
        have hm := Array.mem_of_getElem? ht
        have hall : ([22, 31].all fun u => !Tryd.prog.wantsStandIn u) = true := by kernel_rfl
        have hm : t ∈ [22, 31] := by simpa using hm
        exact (show Tryd.prog.wantsStandIn t = false by simpa using List.all_eq_true.1 hall t hm)⟩)
    (by kernel_rfl)
end Go.Proofs.YtjphklemnhgkiaaDoor
