/- The law WindRoses walked: that it returns true for all roses, arcs and widths, in a world with the table of spaces. -/
import Derived.Test.YthihlapmkcelpaaDoorProg
import Derived.Below
import Derived.Deep.Draws
import Derived.Deep.AppendLies
import Derived.Maps.AppendAt
import Derived.OwnWalk
import Derived.Laws.BytesArg
import Derived.Laws.MakeOwn
import Derived.Laws.OwnMore
import Derived.Deep.OwnRows
import Derived.Tactics
import Derived.Lib.ConvBytes
import Derived.Laws.Slices
import Derived.WalkKit
import Derived.KernelRfl
import Derived.RowKit3
import Derived.Deep.LoopGhost
import Derived.Deep.QuietTactic
import Derived.BigQuiet
import Derived.WideLaws
import Derived.Deep.DeepCutAuto
import Derived.Deep.CutBlock
import Derived.Deep.RegionHeld3
import Derived.Laws.Rows
import Derived.Lib.AppendStr
import Derived.ArgAppend
import Derived.Laws.IdiomCopy
import Derived.OrdersHeld
import Derived.Laws.BitsLemmas
import Derived.RowKit
import Derived.Deep.DeepMust
import Derived.Deep.RegionWith
import Derived.IntWalk
import Derived.Laws.Bits64
import Derived.Laws.BitsAllLaws
import Derived.Laws.CopyOwn
import Derived.Laws.EntriesVeiled
import Derived.Laws.Tables
import Derived.Lib.Hide
import Derived.Lib.LaidTab
import Derived.Outline
import Derived.StillTailTactics
import Derived.Test.YthihlapmkcelpaaDoorShelf
import Derived.Test.YthihlapmkcelpaaDoorWWords
import Derived.Test.YthihlapmkcelpaaDoorWLast
import Derived.Test.YthihlapmkcelpaaDoorWTab
import Derived.Test.YthihlapmkcelpaaDoorWFour
import Derived.Test.YthihlapmkcelpaaDoorWQPut
import Derived.Test.YthihlapmkcelpaaDoorWApart
import Derived.Test.YthihlapmkcelpaaDoorWArr
import Derived.Test.YthihlapmkcelpaaDoorWZeros
import Derived.Test.YthihlapmkcelpaaDoorWFoot
import Derived.Test.YthihlapmkcelpaaDoorWKept
import Derived.Test.YthihlapmkcelpaaDoorWShare
import Derived.Test.YthihlapmkcelpaaDoorWN
import Derived.Test.YthihlapmkcelpaaDoorWFootNe
import Derived.Test.YthihlapmkcelpaaDoorWAt
import Derived.Test.YthihlapmkcelpaaDoorWEqStruct
import Derived.Test.YthihlapmkcelpaaDoorWRepsOne
import Derived.Test.YthihlapmkcelpaaDoorWInv
import Derived.Test.YthihlapmkcelpaaDoorWInvWords
import Derived.Test.YthihlapmkcelpaaDoorWGuard
import Derived.Test.YthihlapmkcelpaaDoorWNEv
import Derived.Test.YthihlapmkcelpaaDoorWMore
import Derived.Outline
import Derived.Lib.Hide
import Derived.Deep.DeepMust
import Derived.Deep.RegionWith
import Derived.IntWalk
import Derived.Laws.Tables
import Derived.Laws.BitsAllLaws
import Derived.Laws.CopyOwn
import Derived.StillTailTactics
import Derived.Laws.EntriesVeiled
import Derived.Test.YthihlapmkcelpaaDoorShelf
import Derived.Test.YthihlapmkcelpaaDoorQx2
import Derived.Test.YthihlapmkcelpaaDoorRoseC
import Derived.Test.YthihlapmkcelpaaDoorRoseD
namespace Go.Proofs.YthihlapmkcelpaaDoor.Q
open Go.RowKit Go.Proofs.YthihlapmkcelpaaDoorW.PrintWords Go.Proofs.YthihlapmkcelpaaDoorW.PrintLast Go.Proofs.YthihlapmkcelpaaDoorW.PrintMore
set_option linter.unusedVariables false
set_option linter.unusedSimpArgs false

set_option maxHeartbeats 1600000 in
set_option maxRecDepth 100000 in
theorem Roses.one (l : List Int) (f wd width : Int) (bf bw n g0 : Int) (w : World) (HS : Hid (SpaceW w)) (HI46 : Hid ((Tryd.prog.info? 46).map (·.size) = some (encL l).size))
    (H1 : Hid (∀ w : World, Calls Tryd.prog 36 #[.agg (encL l), .agg #[.int .i64 f, .int .i64 wd]] w fun e w' => e = .returned (.tuple #[.int .i64 0, .int .i64 1]) ∧ Below w.heap.size w w')) (H2 : Hid (∀ w : World, Calls Tryd.prog 43 #[.agg (encL l), .agg #[.int .i64 f, .int .i64 wd]] w fun e w' => e = .returned (.tuple #[.int .i64 0, .int .i64 1]) ∧ Below w.heap.size w w'))
    (H3 : Hid (∀ w : World, Calls Tryd.prog 44 #[.agg (encL l), .int .i64 width] w fun e w' => e = .returned (.tuple #[.agg #[.int .i64 bf, .int .i64 bw], .int .i64 n, .int .i64 g0]) ∧ Below w.heap.size w w')) (H4 : Hid (∀ w : World, Calls Tryd.prog 45 #[.agg (encL l), .int .i64 width] w fun e w' => e = .returned (.tuple #[.agg #[.int .i64 bf, .int .i64 bw], .int .i64 n, .int .i64 g0]) ∧ Below w.heap.size w w'))  : Calls Tryd.prog 10 #[.agg (encL l), .agg #[.int .i64 f, .int .i64 wd], .int .i64 width] w fun e w' => e = .returned (.bool true) ∧ Below w.heap.size w w' := by
  have HM := Lib.hid (RoseAt.new w l #[.int .i64 f, .int .i64 wd] 46)
  have HI := Lib.hid (fun a b => infoArc a b)
  go_enter Tryd.func10, Tryd.ntmps10
  go_wp2_with (first | (refine wpList_load_row rfl 46 (.tmp 3) rfl w.heap.size rfl 46 (encL l) (0, 0) _ HM.out.rose Tryd.underlying46 rfl HI46.out ?_) | (refine wpList_load_row rfl 33 (.tmp 4) rfl (w.heap.size + 1) rfl 33 #[.int .i64 f, .int .i64 wd] (0, 0) _ HM.out.arc Tryd.underlying33 rfl (HI.out _ _) ?_) | (go_at_call 36; (with_reducible refine (H1.out _).mono ?_); rintro _ w1 ⟨rfl, hb1⟩; have HN := Lib.hid (HM.out.below hb1); clear HM; have HM := HN; clear HN; clear hb1) | (go_at_call 43; (with_reducible refine (H2.out _).mono ?_); rintro _ w2 ⟨rfl, hb2⟩; have HN := Lib.hid (HM.out.below hb2); clear HM; have HM := HN; clear HN; clear hb2) | (go_at_call 44; (with_reducible refine (H3.out _).mono ?_); rintro _ w3 ⟨rfl, hb3⟩; have HN := Lib.hid (HM.out.below (hb3.alloc (below_size hb3) (.cells #[.int .i64 bf, .int .i64 bw] 33))); clear HM; have HM := HN; clear HN; have HB3 := Lib.hid (heap_alloc_new w3 (.cells #[.int .i64 bf, .int .i64 bw] 33)); clear hb3) | (go_at_call 45; (with_reducible refine (H4.out _).mono ?_); rintro _ w4 ⟨rfl, hb4⟩; have HN := Lib.hid (HM.out.below (hb4.alloc (below_size hb4) (.cells #[.int .i64 bf, .int .i64 bw] 33))); clear HM; have HM := HN; clear HN; have HB5 := Lib.hid (row_below HB3.out (hb4.alloc (below_size hb4) (.cells #[.int .i64 bf, .int .i64 bw] 33))); have HB4 := Lib.hid (heap_alloc_new w4 (.cells #[.int .i64 bf, .int .i64 bw] 33)); have hc30 := arc_from HB5.out; have hc31 := arc_width HB5.out; have hc40 := arc_from HB4.out; have hc41 := arc_width HB4.out; have hcw := HM.out.width; clear hb4) | (go_at_call 16; go_must (with_reducible refine (wind_known.walk _ (HS.out.below HM.out.bel)).mono ?_); rintro _ wk ⟨rfl, hbk⟩; have HBK := Lib.hid (HM.out.bel.trans (hbk.mono (below_size HM.out.bel))); clear hbk))
  go_ret
  exact ⟨rfl, HBK.out⟩
set_option maxHeartbeats 1600000 in
set_option maxRecDepth 100000 in
theorem Roses.two (l : List Int) (f wd width : Int) (x : Int) (w : World) (HS : Hid (SpaceW w)) (HI46 : Hid ((Tryd.prog.info? 46).map (·.size) = some (encL l).size))
    (H1 : Hid (∀ w : World, Calls Tryd.prog 36 #[.agg (encL l), .agg #[.int .i64 f, .int .i64 wd]] w fun e w' => e = .returned (.tuple #[.int .i64 x, .int .i64 0]) ∧ Below w.heap.size w w')) (H2 : Hid (∀ w : World, Calls Tryd.prog 43 #[.agg (encL l), .agg #[.int .i64 f, .int .i64 wd]] w fun e w' => e = .returned (.tuple #[.int .i64 x, .int .i64 0]) ∧ Below w.heap.size w w'))
    (H3 : Hid (∀ w : World, Calls Tryd.prog 44 #[.agg (encL l), .int .i64 width] w fun e w' => e = .returned (.tuple #[.agg #[.int .i64 0, .int .i64 0], .int .i64 0, .int .i64 1]) ∧ Below w.heap.size w w')) (H4 : Hid (∀ w : World, Calls Tryd.prog 45 #[.agg (encL l), .int .i64 width] w fun e w' => e = .returned (.tuple #[.agg #[.int .i64 0, .int .i64 0], .int .i64 0, .int .i64 1]) ∧ Below w.heap.size w w'))  : Calls Tryd.prog 10 #[.agg (encL l), .agg #[.int .i64 f, .int .i64 wd], .int .i64 width] w fun e w' => e = .returned (.bool true) ∧ Below w.heap.size w w' := by
  have HM := Lib.hid (RoseAt.new w l #[.int .i64 f, .int .i64 wd] 46)
  have HI := Lib.hid (fun a b => infoArc a b)
  go_enter Tryd.func10, Tryd.ntmps10
  go_wp2_with (first | (refine wpList_load_row rfl 46 (.tmp 3) rfl w.heap.size rfl 46 (encL l) (0, 0) _ HM.out.rose Tryd.underlying46 rfl HI46.out ?_) | (refine wpList_load_row rfl 33 (.tmp 4) rfl (w.heap.size + 1) rfl 33 #[.int .i64 f, .int .i64 wd] (0, 0) _ HM.out.arc Tryd.underlying33 rfl (HI.out _ _) ?_) | (go_at_call 36; (with_reducible refine (H1.out _).mono ?_); rintro _ w1 ⟨rfl, hb1⟩; have HN := Lib.hid (HM.out.below hb1); clear HM; have HM := HN; clear HN; clear hb1) | (go_at_call 43; (with_reducible refine (H2.out _).mono ?_); rintro _ w2 ⟨rfl, hb2⟩; have HN := Lib.hid (HM.out.below hb2); clear HM; have HM := HN; clear HN; clear hb2) | (go_at_call 44; (with_reducible refine (H3.out _).mono ?_); rintro _ w3 ⟨rfl, hb3⟩; have HN := Lib.hid (HM.out.below (hb3.alloc (below_size hb3) (.cells #[.int .i64 0, .int .i64 0] 33))); clear HM; have HM := HN; clear HN; have HB3 := Lib.hid (heap_alloc_new w3 (.cells #[.int .i64 0, .int .i64 0] 33)); clear hb3) | (go_at_call 45; (with_reducible refine (H4.out _).mono ?_); rintro _ w4 ⟨rfl, hb4⟩; have HN := Lib.hid (HM.out.below (hb4.alloc (below_size hb4) (.cells #[.int .i64 0, .int .i64 0] 33))); clear HM; have HM := HN; clear HN; have HB5 := Lib.hid (row_below HB3.out (hb4.alloc (below_size hb4) (.cells #[.int .i64 0, .int .i64 0] 33))); have HB4 := Lib.hid (heap_alloc_new w4 (.cells #[.int .i64 0, .int .i64 0] 33)); have hc30 := arc_from HB5.out; have hc31 := arc_width HB5.out; have hc40 := arc_from HB4.out; have hc41 := arc_width HB4.out; have hcw := HM.out.width; clear hb4) | (go_at_call 16; go_must (with_reducible refine (wind_known.walk _ (HS.out.below HM.out.bel)).mono ?_); rintro _ wk ⟨rfl, hbk⟩; have HBK := Lib.hid (HM.out.bel.trans (hbk.mono (below_size HM.out.bel))); clear hbk))
  go_ret
  exact ⟨rfl, HBK.out⟩
set_option maxHeartbeats 1600000 in
set_option maxRecDepth 100000 in
theorem Roses.three (l : List Int) (f wd width : Int) (x bf bw n : Int) (w : World) (HS : Hid (SpaceW w)) (HI46 : Hid ((Tryd.prog.info? 46).map (·.size) = some (encL l).size))
    (H1 : Hid (∀ w : World, Calls Tryd.prog 36 #[.agg (encL l), .agg #[.int .i64 f, .int .i64 wd]] w fun e w' => e = .returned (.tuple #[.int .i64 x, .int .i64 0]) ∧ Below w.heap.size w w')) (H2 : Hid (∀ w : World, Calls Tryd.prog 43 #[.agg (encL l), .agg #[.int .i64 f, .int .i64 wd]] w fun e w' => e = .returned (.tuple #[.int .i64 x, .int .i64 0]) ∧ Below w.heap.size w w'))
    (H3 : Hid (∀ w : World, Calls Tryd.prog 44 #[.agg (encL l), .int .i64 width] w fun e w' => e = .returned (.tuple #[.agg #[.int .i64 bf, .int .i64 bw], .int .i64 n, .int .i64 0]) ∧ Below w.heap.size w w')) (H4 : Hid (∀ w : World, Calls Tryd.prog 45 #[.agg (encL l), .int .i64 width] w fun e w' => e = .returned (.tuple #[.agg #[.int .i64 bf, .int .i64 bw], .int .i64 n, .int .i64 0]) ∧ Below w.heap.size w w')) (hd : (wd != width) = true) : Calls Tryd.prog 10 #[.agg (encL l), .agg #[.int .i64 f, .int .i64 wd], .int .i64 width] w fun e w' => e = .returned (.bool true) ∧ Below w.heap.size w w' := by
  have HM := Lib.hid (RoseAt.new w l #[.int .i64 f, .int .i64 wd] 46)
  have HI := Lib.hid (fun a b => infoArc a b)
  go_enter Tryd.func10, Tryd.ntmps10
  go_wp2_with (first | (refine wpList_load_row rfl 46 (.tmp 3) rfl w.heap.size rfl 46 (encL l) (0, 0) _ HM.out.rose Tryd.underlying46 rfl HI46.out ?_) | (refine wpList_load_row rfl 33 (.tmp 4) rfl (w.heap.size + 1) rfl 33 #[.int .i64 f, .int .i64 wd] (0, 0) _ HM.out.arc Tryd.underlying33 rfl (HI.out _ _) ?_) | (go_at_call 36; (with_reducible refine (H1.out _).mono ?_); rintro _ w1 ⟨rfl, hb1⟩; have HN := Lib.hid (HM.out.below hb1); clear HM; have HM := HN; clear HN; clear hb1) | (go_at_call 43; (with_reducible refine (H2.out _).mono ?_); rintro _ w2 ⟨rfl, hb2⟩; have HN := Lib.hid (HM.out.below hb2); clear HM; have HM := HN; clear HN; clear hb2) | (go_at_call 44; (with_reducible refine (H3.out _).mono ?_); rintro _ w3 ⟨rfl, hb3⟩; have HN := Lib.hid (HM.out.below (hb3.alloc (below_size hb3) (.cells #[.int .i64 bf, .int .i64 bw] 33))); clear HM; have HM := HN; clear HN; have HB3 := Lib.hid (heap_alloc_new w3 (.cells #[.int .i64 bf, .int .i64 bw] 33)); clear hb3) | (go_at_call 45; (with_reducible refine (H4.out _).mono ?_); rintro _ w4 ⟨rfl, hb4⟩; have HN := Lib.hid (HM.out.below (hb4.alloc (below_size hb4) (.cells #[.int .i64 bf, .int .i64 bw] 33))); clear HM; have HM := HN; clear HN; have HB5 := Lib.hid (row_below HB3.out (hb4.alloc (below_size hb4) (.cells #[.int .i64 bf, .int .i64 bw] 33))); have HB4 := Lib.hid (heap_alloc_new w4 (.cells #[.int .i64 bf, .int .i64 bw] 33)); have hc30 := arc_from HB5.out; have hc31 := arc_width HB5.out; have hc40 := arc_from HB4.out; have hc41 := arc_width HB4.out; have hcw := HM.out.width; clear hb4) | (go_at_call 16; go_must (with_reducible refine (wind_known.walk _ (HS.out.below HM.out.bel)).mono ?_); rintro _ wk ⟨rfl, hbk⟩; have HBK := Lib.hid (HM.out.bel.trans (hbk.mono (below_size HM.out.bel))); clear hbk))
  go_ret
  exact ⟨rfl, HBK.out⟩
set_option maxHeartbeats 1600000 in
set_option maxRecDepth 100000 in
theorem Roses.four (l : List Int) (f wd width : Int) (x bf bw n : Int) (w : World) (HS : Hid (SpaceW w)) (HI46 : Hid ((Tryd.prog.info? 46).map (·.size) = some (encL l).size))
    (H1 : Hid (∀ w : World, Calls Tryd.prog 36 #[.agg (encL l), .agg #[.int .i64 f, .int .i64 wd]] w fun e w' => e = .returned (.tuple #[.int .i64 x, .int .i64 0]) ∧ Below w.heap.size w w')) (H2 : Hid (∀ w : World, Calls Tryd.prog 43 #[.agg (encL l), .agg #[.int .i64 f, .int .i64 wd]] w fun e w' => e = .returned (.tuple #[.int .i64 x, .int .i64 0]) ∧ Below w.heap.size w w'))
    (H3 : Hid (∀ w : World, Calls Tryd.prog 44 #[.agg (encL l), .int .i64 width] w fun e w' => e = .returned (.tuple #[.agg #[.int .i64 bf, .int .i64 bw], .int .i64 n, .int .i64 0]) ∧ Below w.heap.size w w')) (H4 : Hid (∀ w : World, Calls Tryd.prog 45 #[.agg (encL l), .int .i64 width] w fun e w' => e = .returned (.tuple #[.agg #[.int .i64 bf, .int .i64 bw], .int .i64 n, .int .i64 0]) ∧ Below w.heap.size w w')) (hd : (wd != width) = false) (hx : decide (x ≤ n) = true) : Calls Tryd.prog 10 #[.agg (encL l), .agg #[.int .i64 f, .int .i64 wd], .int .i64 width] w fun e w' => e = .returned (.bool true) ∧ Below w.heap.size w w' := by
  have HM := Lib.hid (RoseAt.new w l #[.int .i64 f, .int .i64 wd] 46)
  have HI := Lib.hid (fun a b => infoArc a b)
  go_enter Tryd.func10, Tryd.ntmps10
  go_wp2_with (first | (refine wpList_load_row rfl 46 (.tmp 3) rfl w.heap.size rfl 46 (encL l) (0, 0) _ HM.out.rose Tryd.underlying46 rfl HI46.out ?_) | (refine wpList_load_row rfl 33 (.tmp 4) rfl (w.heap.size + 1) rfl 33 #[.int .i64 f, .int .i64 wd] (0, 0) _ HM.out.arc Tryd.underlying33 rfl (HI.out _ _) ?_) | (go_at_call 36; (with_reducible refine (H1.out _).mono ?_); rintro _ w1 ⟨rfl, hb1⟩; have HN := Lib.hid (HM.out.below hb1); clear HM; have HM := HN; clear HN; clear hb1) | (go_at_call 43; (with_reducible refine (H2.out _).mono ?_); rintro _ w2 ⟨rfl, hb2⟩; have HN := Lib.hid (HM.out.below hb2); clear HM; have HM := HN; clear HN; clear hb2) | (go_at_call 44; (with_reducible refine (H3.out _).mono ?_); rintro _ w3 ⟨rfl, hb3⟩; have HN := Lib.hid (HM.out.below (hb3.alloc (below_size hb3) (.cells #[.int .i64 bf, .int .i64 bw] 33))); clear HM; have HM := HN; clear HN; have HB3 := Lib.hid (heap_alloc_new w3 (.cells #[.int .i64 bf, .int .i64 bw] 33)); clear hb3) | (go_at_call 45; (with_reducible refine (H4.out _).mono ?_); rintro _ w4 ⟨rfl, hb4⟩; have HN := Lib.hid (HM.out.below (hb4.alloc (below_size hb4) (.cells #[.int .i64 bf, .int .i64 bw] 33))); clear HM; have HM := HN; clear HN; have HB5 := Lib.hid (row_below HB3.out (hb4.alloc (below_size hb4) (.cells #[.int .i64 bf, .int .i64 bw] 33))); have HB4 := Lib.hid (heap_alloc_new w4 (.cells #[.int .i64 bf, .int .i64 bw] 33)); have hc30 := arc_from HB5.out; have hc31 := arc_width HB5.out; have hc40 := arc_from HB4.out; have hc41 := arc_width HB4.out; have hcw := HM.out.width; clear hb4) | (go_at_call 16; go_must (with_reducible refine (wind_known.walk _ (HS.out.below HM.out.bel)).mono ?_); rintro _ wk ⟨rfl, hbk⟩; have HBK := Lib.hid (HM.out.bel.trans (hbk.mono (below_size HM.out.bel))); clear hbk))
  go_ret
  exact ⟨rfl, HBK.out⟩
theorem Best.walk (l : List Int) (hl : l.length = 32) (wd a b m e0 : Int) (h : bestP l wd = (a, b, m, e0)) (w : World) : Calls Tryd.prog 44 #[.agg (encL l), .int .i64 wd] w fun e w' => e = .returned (.tuple #[.agg #[.int .i64 a, .int .i64 b], .int .i64 m, .int .i64 e0]) ∧ Below w.heap.size w w' := by
  by_cases h1 : roseOk l = true
  · by_cases hw : 1 ≤ wd ∧ wd ≤ 32
    · obtain ⟨n, rfl⟩ := Int.eq_ofNat_of_zero_le (show 0 ≤ wd by omega)
      rw [bestP_ok h1 (by omega) (by omega)] at h
      have hk := Best.walk_ok l hl h1 n (by omega) (by omega) w
      rw [bF_all, bW_all, bM_all] at hk
      obtain ⟨rfl, rfl, rfl, rfl⟩ : (rb l n 32 : Int) = a ∧ (n : Int) = b ∧ sumTo l (rb l n 32) n = m ∧ 0 = e0 := by simpa using h
      exact hk
    · rw [bestP_width h1 hw] at h
      obtain ⟨rfl, rfl, rfl, rfl⟩ : 0 = a ∧ 0 = b ∧ 0 = m ∧ 1 = e0 := by simpa using h
      exact Best.walk_width l hl h1 wd hw w
  · rw [bestP_rose h1] at h
    obtain ⟨rfl, rfl, rfl, rfl⟩ : 0 = a ∧ 0 = b ∧ 0 = m ∧ 1 = e0 := by simpa using h
    exact Best.walk_rose l hl h1 wd w
theorem refBest.walk (l : List Int) (hl : l.length = 32) (wd a b m e0 : Int) (h : bestP l wd = (a, b, m, e0)) (w : World) : Calls Tryd.prog 45 #[.agg (encL l), .int .i64 wd] w fun e w' => e = .returned (.tuple #[.agg #[.int .i64 a, .int .i64 b], .int .i64 m, .int .i64 e0]) ∧ Below w.heap.size w w' := by
  by_cases h1 : roseOk l = true
  · by_cases hw : 1 ≤ wd ∧ wd ≤ 32
    · obtain ⟨n, rfl⟩ := Int.eq_ofNat_of_zero_le (show 0 ≤ wd by omega)
      rw [bestP_ok h1 (by omega) (by omega)] at h
      have hk := refBest.walk_ok l hl h1 n (by omega) (by omega) w
      obtain ⟨rfl, rfl, rfl, rfl⟩ : (rb l n 32 : Int) = a ∧ (n : Int) = b ∧ sumTo l (rb l n 32) n = m ∧ 0 = e0 := by simpa using h
      exact hk
    · rw [bestP_width h1 hw] at h
      obtain ⟨rfl, rfl, rfl, rfl⟩ : 0 = a ∧ 0 = b ∧ 0 = m ∧ 1 = e0 := by simpa using h
      exact refBest.walk_width l hl h1 wd hw w
  · rw [bestP_rose h1] at h
    obtain ⟨rfl, rfl, rfl, rfl⟩ : 0 = a ∧ 0 = b ∧ 0 = m ∧ 1 = e0 := by simpa using h
    exact refBest.walk_rose l hl h1 wd w
theorem refSum.at_ (l : List Int) (hl : l.length = 32) (f wd s e0 : Int) (h : sumP l f wd = (s, e0)) (w : World) : Calls Tryd.prog 43 #[.agg (encL l), .agg #[.int .i64 f, .int .i64 wd]] w fun e w' => e = .returned (.tuple #[.int .i64 s, .int .i64 e0]) ∧ Below w.heap.size w w' := by
  have hw := refSum.walk l hl f wd w
  rw [h] at hw
  exact hw
theorem WindRoses.walk (l : List Int) (hl : l.length = 32) (f wd width : Int) (w : World) (HS : Hid (SpaceW w)) : Calls Tryd.prog 10 #[.agg (encL l), .agg #[.int .i64 f, .int .i64 wd], .int .i64 width] w fun e w' => e = .returned (.bool true) ∧ Below w.heap.size w w' := by
  have HI46 := Lib.hid (show (Tryd.prog.info? 46).map (·.size) = some (encL l).size by rw [encL_size, hl]; exact info46)
  obtain ⟨a, b, m, e0, hb⟩ : ∃ a b m e0, bestP l width = (a, b, m, e0) := ⟨_, _, _, _, rfl⟩
  have HB := Lib.hid (fun w => Best.walk l hl width a b m e0 hb w)
  have HB2 := Lib.hid (fun w => refBest.walk l hl width a b m e0 hb w)
  by_cases h1 : roseOk l = true
  · by_cases h2 : arcOk f wd = true
    · have hr := of_decide_eq_true h2
      obtain ⟨p, rfl⟩ := Int.eq_ofNat_of_zero_le hr.1.1
      obtain ⟨r, rfl⟩ := Int.eq_ofNat_of_zero_le (show 0 ≤ wd by omega)
      have hs := sumP_ok h1 (p := p) (r := r) (by omega) (by omega) (by omega)
      have H1 := Lib.hid (fun w => Sum.at_ l hl p r _ _ hs w)
      have H2 := Lib.hid (fun w => refSum.at_ l hl p r _ _ hs w)
      by_cases hw : 1 ≤ width ∧ width ≤ 32
      · obtain ⟨n, rfl⟩ := Int.eq_ofNat_of_zero_le (show 0 ≤ width by omega)
        rw [bestP_ok h1 (by omega) (by omega)] at hb
        obtain ⟨rfl, rfl, rfl, rfl⟩ : (rb l n 32 : Int) = a ∧ (n : Int) = b ∧ sumTo l (rb l n 32) n = m ∧ 0 = e0 := by simpa using hb
        by_cases he : r = n
        · subst he
          exact Roses.four l p r r _ _ _ _ w HS HI46 H1 H2 HB HB2 (by simp) (decide_eq_true (rb_best l r 32 p (by omega)))
        · exact Roses.three l p r n _ _ _ _ w HS HI46 H1 H2 HB HB2 (bne_iff_ne.mpr (by omega))
      · rw [bestP_width h1 hw] at hb
        obtain ⟨rfl, rfl, rfl, rfl⟩ : 0 = a ∧ 0 = b ∧ 0 = m ∧ 1 = e0 := by simpa using hb
        exact Roses.two l p r width _ w HS HI46 H1 H2 HB HB2
    · have hs := sumP_arc h1 h2
      exact Roses.one l f wd width a b m e0 w HS HI46 (Lib.hid (fun w => Sum.at_ l hl f wd _ _ hs w)) (Lib.hid (fun w => refSum.at_ l hl f wd _ _ hs w)) HB HB2
  · have hs := sumP_rose h1 f wd
    exact Roses.one l f wd width a b m e0 w HS HI46 (Lib.hid (fun w => Sum.at_ l hl f wd _ _ hs w)) (Lib.hid (fun w => refSum.at_ l hl f wd _ _ hs w)) HB HB2
def wigeonlaw03_WindRoses.f (l : List Int) (f wd width : Int) : Option Bool := some true
theorem wigeonlaw03_WindRoses.calls (l : List Int) (hl : l.length = 32) (f wd width : Int) (r : Bool) (w : World) (HS : Hid (SpaceW w)) (h : wigeonlaw03_WindRoses.f l f wd width = some r) :
    Calls Tryd.prog 10 #[.agg (encL l), .agg #[.int .i64 f, .int .i64 wd], .int .i64 width] w fun e w' => e = .returned (.bool r) ∧ Below w.heap.size w w' := by
  obtain rfl : true = r := Option.some.inj h
  exact WindRoses.walk l hl f wd width w HS

end Go.Proofs.YthihlapmkcelpaaDoor.Q
