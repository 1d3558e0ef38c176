/- Best and the reference's Best on what is no rose or no width. For all of these. -/
import Derived.Test.YthihlapmkcelpaaDoorProg
import Derived.Below
import Derived.Deep.Draws
import Derived.Deep.AppendLies
import Derived.Maps.AppendAt
import Derived.OwnWalk
import Derived.Laws.BytesArg
import Derived.Laws.MakeOwn
import Derived.Laws.OwnMore
import Derived.Deep.OwnRows
import Derived.Tactics
import Derived.Lib.ConvBytes
import Derived.Laws.Slices
import Derived.WalkKit
import Derived.KernelRfl
import Derived.RowKit3
import Derived.Deep.LoopGhost
import Derived.Deep.QuietTactic
import Derived.BigQuiet
import Derived.WideLaws
import Derived.Deep.DeepCutAuto
import Derived.Deep.CutBlock
import Derived.Deep.RegionHeld3
import Derived.Laws.Rows
import Derived.Lib.AppendStr
import Derived.ArgAppend
import Derived.Laws.IdiomCopy
import Derived.OrdersHeld
import Derived.Laws.BitsLemmas
import Derived.RowKit
import Derived.Deep.DeepMust
import Derived.Deep.RegionWith
import Derived.IntWalk
import Derived.Laws.Bits64
import Derived.Laws.BitsAllLaws
import Derived.Laws.CopyOwn
import Derived.Laws.EntriesVeiled
import Derived.Laws.Tables
import Derived.Lib.Hide
import Derived.Lib.LaidTab
import Derived.Outline
import Derived.StillTailTactics
import Derived.Test.YthihlapmkcelpaaDoorShelf
import Derived.Test.YthihlapmkcelpaaDoorWWords
import Derived.Test.YthihlapmkcelpaaDoorWLast
import Derived.Test.YthihlapmkcelpaaDoorWTab
import Derived.Test.YthihlapmkcelpaaDoorWFour
import Derived.Test.YthihlapmkcelpaaDoorWQPut
import Derived.Test.YthihlapmkcelpaaDoorWApart
import Derived.Test.YthihlapmkcelpaaDoorWArr
import Derived.Test.YthihlapmkcelpaaDoorWZeros
import Derived.Test.YthihlapmkcelpaaDoorWFoot
import Derived.Test.YthihlapmkcelpaaDoorWKept
import Derived.Test.YthihlapmkcelpaaDoorWShare
import Derived.Test.YthihlapmkcelpaaDoorWN
import Derived.Test.YthihlapmkcelpaaDoorWFootNe
import Derived.Test.YthihlapmkcelpaaDoorWAt
import Derived.Test.YthihlapmkcelpaaDoorWEqStruct
import Derived.Test.YthihlapmkcelpaaDoorWRepsOne
import Derived.Test.YthihlapmkcelpaaDoorWInv
import Derived.Test.YthihlapmkcelpaaDoorWInvWords
import Derived.Test.YthihlapmkcelpaaDoorWGuard
import Derived.Test.YthihlapmkcelpaaDoorWNEv
import Derived.Test.YthihlapmkcelpaaDoorWMore
import Derived.Outline
import Derived.Lib.Hide
import Derived.Deep.DeepMust
import Derived.Deep.RegionWith
import Derived.IntWalk
import Derived.Laws.Tables
import Derived.Laws.BitsAllLaws
import Derived.Laws.CopyOwn
import Derived.StillTailTactics
import Derived.Laws.EntriesVeiled
import Derived.Test.YthihlapmkcelpaaDoorShelf
import Derived.Test.YthihlapmkcelpaaDoorQx2
import Derived.Test.YthihlapmkcelpaaDoorRoseB
namespace Go.Proofs.YthihlapmkcelpaaDoor.Q
open Go.RowKit Go.Proofs.YthihlapmkcelpaaDoorW.PrintWords Go.Proofs.YthihlapmkcelpaaDoorW.PrintLast Go.Proofs.YthihlapmkcelpaaDoorW.PrintMore
set_option linter.unusedVariables false
set_option linter.unusedSimpArgs false

/-- Best's answer: point, width, sum, error. -/
def bestP (l : List Int) (wd : Int) : Int × Int × Int × Int := if roseOk l = true then (if 1 ≤ wd ∧ wd ≤ 32 then ((rb l wd.toNat 32 : Int), wd, sumTo l (rb l wd.toNat 32) wd.toNat, 0) else (0, 0, 0, 1)) else (0, 0, 0, 1)
theorem bestP_ok {l : List Int} (h : roseOk l = true) {n : Nat} (h1 : 1 ≤ n) (h2 : n ≤ 32) : bestP l (n : Int) = ((rb l n 32 : Int), (n : Int), sumTo l (rb l n 32) n, 0) := by
  unfold bestP
  rw [if_pos h, if_pos (by omega), Int.toNat_natCast]
theorem bestP_rose {l : List Int} (h : roseOk l ≠ true) (wd : Int) : bestP l wd = (0, 0, 0, 1) := by unfold bestP; rw [if_neg h]
theorem bestP_width {l : List Int} (h : roseOk l = true) {wd : Int} (hw : ¬ (1 ≤ wd ∧ wd ≤ 32)) : bestP l wd = (0, 0, 0, 1) := by unfold bestP; rw [if_pos h, if_neg hw]
theorem within_width (wd : Int) : wind_within.f wd 1 32 = some (decide (1 ≤ wd ∧ wd ≤ 32)) := by
  unfold wind_within.f
  by_cases h : wd ≥ 1
  · rw [if_pos h]
    congr 1
    rw [decide_eq_decide]
    omega
  · rw [if_neg h, decide_eq_false (by omega)]
theorem arc_back (a b : Int) {w w' : World} {l : List Int} {t : Nat} (H : RoseAt w l #[.int .i64 0, .int .i64 0] t w') : (w'.setRow (w.heap.size + 1) #[.int .i64 a, .int .i64 b]).heap[w.heap.size + 1]? = some (.cells #[.int .i64 a, .int .i64 b] 33 (0, 0)) := setRow_heap _ _ _ _ _ _ H.arc
set_option maxHeartbeats 1600000 in
set_option maxRecDepth 100000 in
theorem Best.walk_rose (l : List Int) (hl : l.length = 32) (h1 : roseOk l ≠ true) (wd : Int) (w : World) : Calls Tryd.prog 44 #[.agg (encL l), .int .i64 wd] w fun e w' => e = .returned (.tuple #[.agg #[.int .i64 0, .int .i64 0], .int .i64 0, .int .i64 1]) ∧ Below w.heap.size w w' := by
  have HR := Lib.hid (fun w => isRose.walk l hl w)
  rw [Bool.eq_false_iff.mpr h1] at HR
  have HI45 := Lib.hid (show (Tryd.prog.info? 45).map (·.size) = some (encL l).size by rw [encL_size, hl]; exact info45)
  have HI := Lib.hid (fun a b => infoArc a b)
  have H00 := Lib.hid (RoseAt.new w l #[.int .i64 0, .int .i64 0] 45)
  clear h1 hl
  go_enter Tryd.func44, Tryd.ntmps44
  go_wp2_with (first | (refine wpList_load_row (o := ⟨some 12, _, _, _, _, _⟩) rfl 45 (.tmp 2) rfl w.heap.size rfl 45 (encL l) (0, 0) _ H00.out.rose Tryd.underlying45 rfl HI45.out ?_) | (go_at_call 80; go_must (with_reducible refine (HR.out _).mono ?_); rintro _ w1 ⟨rfl, hb1⟩; have HM1 := Lib.hid (H00.out.below hb1); clear hb1) | (refine wpList_store_row rfl 33 (.tmp 4) (.tmp 20) rfl (w.heap.size + 1) #[.int .i64 0, .int .i64 0] rfl rfl 33 #[.int .i64 0, .int .i64 0] HM1.out.arc (HI.out _ _) rfl (arc_one _ _) ?_))
  (try simp only [Exit.inBlock, Exit.then])
  refine bodyPost_ret (results_ctt rfl _ _ (w.heap.size + 1) 33 #[.int .i64 0, .int .i64 0] (0, 0) _ rfl (arc_back 0 0 HM1.out) Tryd.underlying33 rfl (HI.out _ _)) rfl ⟨by first | rfl | (simp; done), below_setRow HM1.out.bel (by omega) _⟩
set_option maxHeartbeats 1600000 in
set_option maxRecDepth 100000 in
theorem Best.walk_width (l : List Int) (hl : l.length = 32) (h1 : roseOk l = true) (wd : Int) (hw : ¬ (1 ≤ wd ∧ wd ≤ 32)) (w : World) : Calls Tryd.prog 44 #[.agg (encL l), .int .i64 wd] w fun e w' => e = .returned (.tuple #[.agg #[.int .i64 0, .int .i64 0], .int .i64 0, .int .i64 1]) ∧ Below w.heap.size w w' := by
  have HR := Lib.hid (fun w => isRose.walk l hl w)
  rw [h1] at HR
  have HW := Lib.hid (fun w => wind_within.calls wd 1 32 false w (by rw [within_width, decide_eq_false hw]))
  have HI45 := Lib.hid (show (Tryd.prog.info? 45).map (·.size) = some (encL l).size by rw [encL_size, hl]; exact info45)
  have HI := Lib.hid (fun a b => infoArc a b)
  have H00 := Lib.hid (RoseAt.new w l #[.int .i64 0, .int .i64 0] 45)
  clear h1 hl hw
  go_enter Tryd.func44, Tryd.ntmps44
  go_wp2_with (first | (refine wpList_load_row (o := ⟨some 12, _, _, _, _, _⟩) rfl 45 (.tmp 2) rfl w.heap.size rfl 45 (encL l) (0, 0) _ H00.out.rose Tryd.underlying45 rfl HI45.out ?_) | (go_at_call 80; go_must (with_reducible refine (HR.out _).mono ?_); rintro _ w1 ⟨rfl, hb1⟩; have HM1 := Lib.hid (H00.out.below hb1); clear hb1) | (go_at_call 74; go_must (with_reducible refine (HW.out _).mono ?_); rintro _ w2 ⟨rfl, hd⟩; have hb2 : Below w1.heap.size w1 w2 := (by obtain ⟨nd, rfl⟩ := hd; exact pw_below_drewN (Below.refl _ _) nd); have HM2 := Lib.hid (HM1.out.below hb2); clear hb2 hd) | (refine wpList_store_row rfl 33 (.tmp 4) (.tmp 20) rfl (w.heap.size + 1) #[.int .i64 0, .int .i64 0] rfl rfl 33 #[.int .i64 0, .int .i64 0] HM2.out.arc (HI.out _ _) rfl (arc_one _ _) ?_))
  (try simp only [Exit.inBlock, Exit.then])
  refine bodyPost_ret (results_ctt rfl _ _ (w.heap.size + 1) 33 #[.int .i64 0, .int .i64 0] (0, 0) _ rfl (arc_back 0 0 HM2.out) Tryd.underlying33 rfl (HI.out _ _)) rfl ⟨by first | rfl | (simp; done), below_setRow HM2.out.bel (by omega) _⟩
set_option maxHeartbeats 1600000 in
set_option maxRecDepth 100000 in
theorem refBest.walk_rose (l : List Int) (hl : l.length = 32) (h1 : roseOk l ≠ true) (wd : Int) (w : World) : Calls Tryd.prog 45 #[.agg (encL l), .int .i64 wd] w fun e w' => e = .returned (.tuple #[.agg #[.int .i64 0, .int .i64 0], .int .i64 0, .int .i64 1]) ∧ Below w.heap.size w w' := by
  have HR := Lib.hid (fun w => refRose.walk l hl w)
  rw [if_neg h1] at HR
  have HI45 := Lib.hid (show (Tryd.prog.info? 45).map (·.size) = some (encL l).size by rw [encL_size, hl]; exact info45)
  have HI := Lib.hid (fun a b => infoArc a b)
  have H00 := Lib.hid (RoseAt.new w l #[.int .i64 0, .int .i64 0] 45)
  clear h1 hl
  go_enter Tryd.func45, Tryd.ntmps45
  go_wp2_with (first | (refine wpList_load_row (o := ⟨some 11, _, _, _, _, _⟩) rfl 45 (.tmp 2) rfl w.heap.size rfl 45 (encL l) (0, 0) _ H00.out.rose Tryd.underlying45 rfl HI45.out ?_) | (go_at_call 89; go_must (with_reducible refine (HR.out _).mono ?_); rintro _ w1 ⟨rfl, hb1⟩; have HM1 := Lib.hid (H00.out.below hb1); clear hb1) | (refine wpList_store_row rfl 33 (.tmp 4) (.tmp 15) rfl (w.heap.size + 1) #[.int .i64 0, .int .i64 0] rfl rfl 33 #[.int .i64 0, .int .i64 0] HM1.out.arc (HI.out _ _) rfl (arc_one _ _) ?_))
  (try simp only [Exit.inBlock, Exit.then])
  refine bodyPost_ret (results_ctt rfl _ _ (w.heap.size + 1) 33 #[.int .i64 0, .int .i64 0] (0, 0) _ rfl (arc_back 0 0 HM1.out) Tryd.underlying33 rfl (HI.out _ _)) rfl ⟨by first | rfl | (simp; done), below_setRow HM1.out.bel (by omega) _⟩
set_option maxHeartbeats 1600000 in
set_option maxRecDepth 100000 in
theorem refBest.walk_width (l : List Int) (hl : l.length = 32) (h1 : roseOk l = true) (wd : Int) (hw : ¬ (1 ≤ wd ∧ wd ≤ 32)) (w : World) : Calls Tryd.prog 45 #[.agg (encL l), .int .i64 wd] w fun e w' => e = .returned (.tuple #[.agg #[.int .i64 0, .int .i64 0], .int .i64 0, .int .i64 1]) ∧ Below w.heap.size w w' := by
  have HR := Lib.hid (fun w => refRose.walk l hl w)
  rw [if_pos h1] at HR
  have HI45 := Lib.hid (show (Tryd.prog.info? 45).map (·.size) = some (encL l).size by rw [encL_size, hl]; exact info45)
  have HI := Lib.hid (fun a b => infoArc a b)
  have H00 := Lib.hid (RoseAt.new w l #[.int .i64 0, .int .i64 0] 45)
  clear h1 hl
  by_cases hlo : wd < 1
  · have hd1 : decide (wd < 1) = true := decide_eq_true hlo
    clear hlo hw
    go_enter Tryd.func45, Tryd.ntmps45
    go_wp2_with (first | (refine wpList_load_row (o := ⟨some 11, _, _, _, _, _⟩) rfl 45 (.tmp 2) rfl w.heap.size rfl 45 (encL l) (0, 0) _ H00.out.rose Tryd.underlying45 rfl HI45.out ?_) | (go_at_call 89; go_must (with_reducible refine (HR.out _).mono ?_); rintro _ w1 ⟨rfl, hb1⟩; have HM1 := Lib.hid (H00.out.below hb1); clear hb1) | (refine wpList_store_row rfl 33 (.tmp 4) (.tmp 23) rfl (w.heap.size + 1) #[.int .i64 0, .int .i64 0] rfl rfl 33 #[.int .i64 0, .int .i64 0] HM1.out.arc (HI.out _ _) rfl (arc_one _ _) ?_))
    (try simp only [Exit.inBlock, Exit.then])
    refine bodyPost_ret (results_ctt rfl _ _ (w.heap.size + 1) 33 #[.int .i64 0, .int .i64 0] (0, 0) _ rfl (arc_back 0 0 HM1.out) Tryd.underlying33 rfl (HI.out _ _)) rfl ⟨by first | rfl | (simp; done), below_setRow HM1.out.bel (by omega) _⟩
  · have hd1 : decide (wd < 1) = false := decide_eq_false hlo
    have hd2 : decide (wd > 32) = true := decide_eq_true (by omega)
    clear hlo hw
    go_enter Tryd.func45, Tryd.ntmps45
    go_wp2_with (first | (refine wpList_load_row (o := ⟨some 11, _, _, _, _, _⟩) rfl 45 (.tmp 2) rfl w.heap.size rfl 45 (encL l) (0, 0) _ H00.out.rose Tryd.underlying45 rfl HI45.out ?_) | (go_at_call 89; go_must (with_reducible refine (HR.out _).mono ?_); rintro _ w1 ⟨rfl, hb1⟩; have HM1 := Lib.hid (H00.out.below hb1); clear hb1) | (refine wpList_store_row rfl 33 (.tmp 4) (.tmp 23) rfl (w.heap.size + 1) #[.int .i64 0, .int .i64 0] rfl rfl 33 #[.int .i64 0, .int .i64 0] HM1.out.arc (HI.out _ _) rfl (arc_one _ _) ?_))
    (try simp only [Exit.inBlock, Exit.then])
    refine bodyPost_ret (results_ctt rfl _ _ (w.heap.size + 1) 33 #[.int .i64 0, .int .i64 0] (0, 0) _ rfl (arc_back 0 0 HM1.out) Tryd.underlying33 rfl (HI.out _ _)) rfl ⟨by first | rfl | (simp; done), below_setRow HM1.out.bel (by omega) _⟩

end Go.Proofs.YthihlapmkcelpaaDoor.Q
