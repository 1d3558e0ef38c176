/- The law WindAdds walked: that it returns true for all roses, arcs and cuts, in a world with the table of spaces. -/
import Derived.Test.YthihlapmkcelpaaDoorProg
import Derived.Below
import Derived.Deep.Draws
import Derived.Deep.AppendLies
import Derived.Maps.AppendAt
import Derived.OwnWalk
import Derived.Laws.BytesArg
import Derived.Laws.MakeOwn
import Derived.Laws.OwnMore
import Derived.Deep.OwnRows
import Derived.Tactics
import Derived.Lib.ConvBytes
import Derived.Laws.Slices
import Derived.WalkKit
import Derived.KernelRfl
import Derived.RowKit3
import Derived.Deep.LoopGhost
import Derived.Deep.QuietTactic
import Derived.BigQuiet
import Derived.WideLaws
import Derived.Deep.DeepCutAuto
import Derived.Deep.CutBlock
import Derived.Deep.RegionHeld3
import Derived.Laws.Rows
import Derived.Lib.AppendStr
import Derived.ArgAppend
import Derived.Laws.IdiomCopy
import Derived.OrdersHeld
import Derived.Laws.BitsLemmas
import Derived.RowKit
import Derived.Deep.DeepMust
import Derived.Deep.RegionWith
import Derived.IntWalk
import Derived.Laws.Bits64
import Derived.Laws.BitsAllLaws
import Derived.Laws.CopyOwn
import Derived.Laws.EntriesVeiled
import Derived.Laws.Tables
import Derived.Lib.Hide
import Derived.Lib.LaidTab
import Derived.Outline
import Derived.StillTailTactics
import Derived.Test.YthihlapmkcelpaaDoorShelf
import Derived.Test.YthihlapmkcelpaaDoorWWords
import Derived.Test.YthihlapmkcelpaaDoorWLast
import Derived.Test.YthihlapmkcelpaaDoorWTab
import Derived.Test.YthihlapmkcelpaaDoorWFour
import Derived.Test.YthihlapmkcelpaaDoorWQPut
import Derived.Test.YthihlapmkcelpaaDoorWApart
import Derived.Test.YthihlapmkcelpaaDoorWArr
import Derived.Test.YthihlapmkcelpaaDoorWZeros
import Derived.Test.YthihlapmkcelpaaDoorWFoot
import Derived.Test.YthihlapmkcelpaaDoorWKept
import Derived.Test.YthihlapmkcelpaaDoorWShare
import Derived.Test.YthihlapmkcelpaaDoorWN
import Derived.Test.YthihlapmkcelpaaDoorWFootNe
import Derived.Test.YthihlapmkcelpaaDoorWAt
import Derived.Test.YthihlapmkcelpaaDoorWEqStruct
import Derived.Test.YthihlapmkcelpaaDoorWRepsOne
import Derived.Test.YthihlapmkcelpaaDoorWInv
import Derived.Test.YthihlapmkcelpaaDoorWInvWords
import Derived.Test.YthihlapmkcelpaaDoorWGuard
import Derived.Test.YthihlapmkcelpaaDoorWNEv
import Derived.Test.YthihlapmkcelpaaDoorWMore
import Derived.Outline
import Derived.Lib.Hide
import Derived.Deep.DeepMust
import Derived.Deep.RegionWith
import Derived.IntWalk
import Derived.Laws.Tables
import Derived.Laws.BitsAllLaws
import Derived.Laws.CopyOwn
import Derived.StillTailTactics
import Derived.Laws.EntriesVeiled
import Derived.Test.YthihlapmkcelpaaDoorShelf
import Derived.Test.YthihlapmkcelpaaDoorQx2
import Derived.Test.YthihlapmkcelpaaDoorRose
namespace Go.Proofs.YthihlapmkcelpaaDoor.Q
open Go.RowKit Go.Proofs.YthihlapmkcelpaaDoorW.PrintWords Go.Proofs.YthihlapmkcelpaaDoorW.PrintLast Go.Proofs.YthihlapmkcelpaaDoorW.PrintMore
set_option linter.unusedVariables false
set_option linter.unusedSimpArgs false

theorem sumTo_add (l : List Int) (f i j : Nat) : sumTo l f (i + j) = sumTo l f i + sumTo l ((f + i) % 32) j := by
  induction j with
  | zero => show sumTo l f i = sumTo l f i + 0; omega
  | succ j ih =>
    show sumTo l f (i + j) + rd l (((f + (i + j)) % 32 : Nat) : Int) = sumTo l f i + (sumTo l ((f + i) % 32) j + rd l ((((f + i) % 32 + j) % 32 : Nat) : Int))
    rw [ih, show ((f + i) % 32 + j) % 32 = (f + (i + j)) % 32 by omega]
    omega
theorem sumTo_start (l : List Int) (f : Nat) (n : Nat) : sumTo l (f % 32) n = sumTo l f n := by
  induction n with
  | zero => rfl
  | succ n ih =>
    show sumTo l (f % 32) n + _ = sumTo l f n + _
    rw [ih, show (f % 32 + n) % 32 = (f + n) % 32 by omega]
theorem sumTo_round (l : List Int) {f : Nat} (hf : f < 32) : sumTo l f 32 = sumTo l 0 32 := by
  have h1 := sumTo_add l 0 f (32 - f)
  rw [show f + (32 - f) = 32 by omega, Nat.zero_add, sumTo_start] at h1
  have h2 := sumTo_add l f (32 - f) f
  rw [show 32 - f + f = 32 by omega, show (f + (32 - f)) % 32 = 0 by omega] at h2
  omega
theorem sumP_ok {l : List Int} (h : roseOk l = true) {p r : Nat} (hp : p < 32) (h1 : 1 ≤ r) (h2 : r ≤ 32) : sumP l (p : Int) (r : Int) = (sumTo l p r, 0) := by
  unfold sumP
  have ha : arcOk (p : Int) (r : Int) = true := decide_eq_true (by omega)
  rw [if_pos h, if_pos ha, Int.toNat_natCast, Int.toNat_natCast]
theorem sumP_rose {l : List Int} (h : roseOk l ≠ true) (f wd : Int) : sumP l f wd = (0, 1) := by unfold sumP; rw [if_neg h]
theorem sumP_arc {l : List Int} (h : roseOk l = true) {f wd : Int} (ha : arcOk f wd ≠ true) : sumP l f wd = (0, 1) := by unfold sumP; rw [if_pos h, if_neg ha]
theorem cut_at (cut : Int) {r : Nat} (h1 : 2 ≤ r) (h2 : r ≤ 32) : ∃ c m d : Nat, 1 ≤ m ∧ m < r ∧ m = d + 1 ∧ IntKind.u64.wrap cut = (c : Int) ∧ Int.tmod (c : Int) ((r : Int) - 1) = (d : Int) ∧ (c : Int) % ((r : Int) - 1) = (d : Int) := by
  have h0 : 0 ≤ IntKind.u64.wrap cut := wrap_u64_nonneg cut
  obtain ⟨c, hc⟩ := Int.eq_ofNat_of_zero_le h0
  clear h0
  refine ⟨c, c % (r - 1) + 1, c % (r - 1), by omega, by have := Nat.mod_lt c (show 0 < r - 1 by omega); omega, rfl, hc, ?_, ?_⟩
  · rw [show (r : Int) - 1 = ((r - 1 : Nat) : Int) by omega, ← Int.ofNat_tmod]
  · rw [show (r : Int) - 1 = ((r - 1 : Nat) : Int) by omega, ← Int.natCast_emod]
theorem wrap_le {z : Int} (h0 : 0 ≤ z) (h1 : z ≤ 100) : wrap64 z = z := by
  unfold wrap64
  omega
/-- Sum's contract, the result named. -/
theorem Sum.at_ (l : List Int) (hl : l.length = 32) (f wd s e0 : Int) (h : sumP l f wd = (s, e0)) (w : World) : Calls Tryd.prog 36 #[.agg (encL l), .agg #[.int .i64 f, .int .i64 wd]] w fun e w' => e = .returned (.tuple #[.int .i64 s, .int .i64 e0]) ∧ Below w.heap.size w w' := by
  have hw := Sum.walk l hl f wd w
  rw [h] at hw
  exact hw
set_option maxHeartbeats 1600000 in
set_option maxRecDepth 100000 in
theorem Adds.one (l : List Int) (p r q d : Nat) (sa sn sr : Int) (cut : Int) (w : World) (HS : Hid (SpaceW w)) (HI46 : Hid ((Tryd.prog.info? 46).map (·.size) = some (encL l).size)) (H1 : Hid (∀ w : World, Calls Tryd.prog 36 #[.agg (encL l), .agg #[.int .i64 0, .int .i64 32]] w fun e w' => e = .returned (.tuple #[.int .i64 sa, .int .i64 0]) ∧ Below w.heap.size w w')) (H2 : Hid (∀ w : World, Calls Tryd.prog 36 #[.agg (encL l), .agg #[.int .i64 (p : Int), .int .i64 (r : Int)]] w fun e w' => e = .returned (.tuple #[.int .i64 sn, .int .i64 0]) ∧ Below w.heap.size w w')) (hdl : decide ((r : Int) < 32) = true) (hw1 : IntKind.i64.wrap ((p : Int) + (r : Int)) = (p : Int) + (r : Int)) (hw2 : ((p : Int) + (r : Int)) % 32 = (q : Int)) (hw3 : IntKind.i64.wrap (32 - (r : Int)) = (d : Int)) (H3 : Hid (∀ w : World, Calls Tryd.prog 36 #[.agg (encL l), .agg #[.int .i64 (q : Int), .int .i64 (d : Int)]] w fun e w' => e = .returned (.tuple #[.int .i64 sr, .int .i64 0]) ∧ Below w.heap.size w w')) (hs1 : IntKind.i64.wrap (sn + sr) = sa) (hd2 : decide ((r : Int) < 2) = true) : Calls Tryd.prog 8 #[.agg (encL l), .agg #[.int .i64 (p : Int), .int .i64 (r : Int)], .int .i64 cut] w fun e w' => e = .returned (.bool true) ∧ Below w.heap.size w w' := by
  have HM := Lib.hid (RoseAt.new w l #[.int .i64 (p : Int), .int .i64 (r : Int)] 46)
  go_enter Tryd.func8, Tryd.ntmps8
  go_wp2_with (first | (refine wpList_load_row rfl 46 (.tmp 3) rfl w.heap.size rfl 46 (encL l) (0, 0) _ HM.out.rose Tryd.underlying46 rfl HI46.out ?_) | (go_at_call 36; (with_reducible refine (H1.out _).mono ?_); rintro _ w1 ⟨rfl, hb1⟩; have HN := Lib.hid (HM.out.below hb1); clear HM; have HM := HN; clear HN; (try clear hc0 hc1); have hc0 := HM.out.from_; have hc1 := HM.out.width; clear hb1) | (go_at_call 36; (with_reducible refine (H2.out _).mono ?_); rintro _ w1 ⟨rfl, hb1⟩; have HN := Lib.hid (HM.out.below hb1); clear HM; have HM := HN; clear HN; (try clear hc0 hc1); have hc0 := HM.out.from_; have hc1 := HM.out.width; clear hb1) | (go_at_call 36; (with_reducible refine (H3.out _).mono ?_); rintro _ w1 ⟨rfl, hb1⟩; have HN := Lib.hid (HM.out.below hb1); clear HM; have HM := HN; clear HN; (try clear hc0 hc1); have hc0 := HM.out.from_; have hc1 := HM.out.width; clear hb1) | (go_at_call 16; go_must (with_reducible refine (wind_known.walk _ (HS.out.below HM.out.bel)).mono ?_); rintro _ wk ⟨rfl, hbk⟩; have HBK := Lib.hid (HM.out.bel.trans (hbk.mono (below_size HM.out.bel))); clear hbk))
  go_ret
  exact ⟨rfl, HBK.out⟩
set_option maxHeartbeats 1600000 in
set_option maxRecDepth 100000 in
theorem Adds.two (l : List Int) (p r m d2 q2 d3 : Nat) (sa sn sx sy : Int) (cut : Int) (w : World) (HS : Hid (SpaceW w)) (HI46 : Hid ((Tryd.prog.info? 46).map (·.size) = some (encL l).size)) (H1 : Hid (∀ w : World, Calls Tryd.prog 36 #[.agg (encL l), .agg #[.int .i64 0, .int .i64 32]] w fun e w' => e = .returned (.tuple #[.int .i64 sa, .int .i64 0]) ∧ Below w.heap.size w w')) (H2 : Hid (∀ w : World, Calls Tryd.prog 36 #[.agg (encL l), .agg #[.int .i64 (p : Int), .int .i64 (r : Int)]] w fun e w' => e = .returned (.tuple #[.int .i64 sn, .int .i64 0]) ∧ Below w.heap.size w w')) (hdl : decide ((r : Int) < 32) = false) (hr2 : 2 ≤ (r : Int)) (hr32 : (r : Int) ≤ 32) (hd2 : decide ((r : Int) < 2) = false) (hma : Int.tmod (IntKind.u64.wrap cut) ((r : Int) - 1) = (d2 : Int)) (hm5 : wrap64 (d2 : Int) = (d2 : Int)) (hm6 : wrap64 (1 + (d2 : Int)) = (m : Int)) (H4 : Hid (∀ w : World, Calls Tryd.prog 36 #[.agg (encL l), .agg #[.int .i64 (p : Int), .int .i64 (m : Int)]] w fun e w' => e = .returned (.tuple #[.int .i64 sx, .int .i64 0]) ∧ Below w.heap.size w w')) (hw4 : IntKind.i64.wrap ((p : Int) + (m : Int)) = (p : Int) + (m : Int)) (hw5 : ((p : Int) + (m : Int)) % 32 = (q2 : Int)) (hw6 : IntKind.i64.wrap ((r : Int) - (m : Int)) = (d3 : Int)) (H5 : Hid (∀ w : World, Calls Tryd.prog 36 #[.agg (encL l), .agg #[.int .i64 (q2 : Int), .int .i64 (d3 : Int)]] w fun e w' => e = .returned (.tuple #[.int .i64 sy, .int .i64 0]) ∧ Below w.heap.size w w')) (hs2 : IntKind.i64.wrap (sx + sy) = sn) : Calls Tryd.prog 8 #[.agg (encL l), .agg #[.int .i64 (p : Int), .int .i64 (r : Int)], .int .i64 cut] w fun e w' => e = .returned (.bool true) ∧ Below w.heap.size w w' := by
  have HM := Lib.hid (RoseAt.new w l #[.int .i64 (p : Int), .int .i64 (r : Int)] 46)
  go_enter Tryd.func8, Tryd.ntmps8
  go_wp2_with (first | (refine wpList_load_row rfl 46 (.tmp 3) rfl w.heap.size rfl 46 (encL l) (0, 0) _ HM.out.rose Tryd.underlying46 rfl HI46.out ?_) | (go_at_call 36; (with_reducible refine (H1.out _).mono ?_); rintro _ w1 ⟨rfl, hb1⟩; have HN := Lib.hid (HM.out.below hb1); clear HM; have HM := HN; clear HN; (try clear hc0 hc1); have hc0 := HM.out.from_; have hc1 := HM.out.width; clear hb1) | (go_at_call 36; (with_reducible refine (H2.out _).mono ?_); rintro _ w1 ⟨rfl, hb1⟩; have HN := Lib.hid (HM.out.below hb1); clear HM; have HM := HN; clear HN; (try clear hc0 hc1); have hc0 := HM.out.from_; have hc1 := HM.out.width; clear hb1) | (go_at_call 36; (with_reducible refine (H4.out _).mono ?_); rintro _ w1 ⟨rfl, hb1⟩; have HN := Lib.hid (HM.out.below hb1); clear HM; have HM := HN; clear HN; (try clear hc0 hc1); have hc0 := HM.out.from_; have hc1 := HM.out.width; clear hb1) | (go_at_call 36; (with_reducible refine (H5.out _).mono ?_); rintro _ w1 ⟨rfl, hb1⟩; have HN := Lib.hid (HM.out.below hb1); clear HM; have HM := HN; clear HN; (try clear hc0 hc1); have hc0 := HM.out.from_; have hc1 := HM.out.width; clear hb1) | (go_at_call 16; go_must (with_reducible refine (wind_known.walk _ (HS.out.below HM.out.bel)).mono ?_); rintro _ wk ⟨rfl, hbk⟩; have HBK := Lib.hid (HM.out.bel.trans (hbk.mono (below_size HM.out.bel))); clear hbk))
  go_ret
  exact ⟨rfl, HBK.out⟩
set_option maxHeartbeats 1600000 in
set_option maxRecDepth 100000 in
theorem Adds.both (l : List Int) (p r m d2 q2 d3 q d : Nat) (sa sn sx sy sr : Int) (cut : Int) (w : World) (HS : Hid (SpaceW w)) (HI46 : Hid ((Tryd.prog.info? 46).map (·.size) = some (encL l).size)) (H1 : Hid (∀ w : World, Calls Tryd.prog 36 #[.agg (encL l), .agg #[.int .i64 0, .int .i64 32]] w fun e w' => e = .returned (.tuple #[.int .i64 sa, .int .i64 0]) ∧ Below w.heap.size w w')) (H2 : Hid (∀ w : World, Calls Tryd.prog 36 #[.agg (encL l), .agg #[.int .i64 (p : Int), .int .i64 (r : Int)]] w fun e w' => e = .returned (.tuple #[.int .i64 sn, .int .i64 0]) ∧ Below w.heap.size w w')) (hdl : decide ((r : Int) < 32) = true) (hw1 : IntKind.i64.wrap ((p : Int) + (r : Int)) = (p : Int) + (r : Int)) (hw2 : ((p : Int) + (r : Int)) % 32 = (q : Int)) (hw3 : IntKind.i64.wrap (32 - (r : Int)) = (d : Int)) (H3 : Hid (∀ w : World, Calls Tryd.prog 36 #[.agg (encL l), .agg #[.int .i64 (q : Int), .int .i64 (d : Int)]] w fun e w' => e = .returned (.tuple #[.int .i64 sr, .int .i64 0]) ∧ Below w.heap.size w w')) (hs1 : IntKind.i64.wrap (sn + sr) = sa) (hr2 : 2 ≤ (r : Int)) (hr32 : (r : Int) ≤ 32) (hd2 : decide ((r : Int) < 2) = false) (hma : Int.tmod (IntKind.u64.wrap cut) ((r : Int) - 1) = (d2 : Int)) (hm5 : wrap64 (d2 : Int) = (d2 : Int)) (hm6 : wrap64 (1 + (d2 : Int)) = (m : Int)) (H4 : Hid (∀ w : World, Calls Tryd.prog 36 #[.agg (encL l), .agg #[.int .i64 (p : Int), .int .i64 (m : Int)]] w fun e w' => e = .returned (.tuple #[.int .i64 sx, .int .i64 0]) ∧ Below w.heap.size w w')) (hw4 : IntKind.i64.wrap ((p : Int) + (m : Int)) = (p : Int) + (m : Int)) (hw5 : ((p : Int) + (m : Int)) % 32 = (q2 : Int)) (hw6 : IntKind.i64.wrap ((r : Int) - (m : Int)) = (d3 : Int)) (H5 : Hid (∀ w : World, Calls Tryd.prog 36 #[.agg (encL l), .agg #[.int .i64 (q2 : Int), .int .i64 (d3 : Int)]] w fun e w' => e = .returned (.tuple #[.int .i64 sy, .int .i64 0]) ∧ Below w.heap.size w w')) (hs2 : IntKind.i64.wrap (sx + sy) = sn) : Calls Tryd.prog 8 #[.agg (encL l), .agg #[.int .i64 (p : Int), .int .i64 (r : Int)], .int .i64 cut] w fun e w' => e = .returned (.bool true) ∧ Below w.heap.size w w' := by
  have HM := Lib.hid (RoseAt.new w l #[.int .i64 (p : Int), .int .i64 (r : Int)] 46)
  go_enter Tryd.func8, Tryd.ntmps8
  go_wp2_with (first | (refine wpList_load_row rfl 46 (.tmp 3) rfl w.heap.size rfl 46 (encL l) (0, 0) _ HM.out.rose Tryd.underlying46 rfl HI46.out ?_) | (go_at_call 36; (with_reducible refine (H1.out _).mono ?_); rintro _ w1 ⟨rfl, hb1⟩; have HN := Lib.hid (HM.out.below hb1); clear HM; have HM := HN; clear HN; (try clear hc0 hc1); have hc0 := HM.out.from_; have hc1 := HM.out.width; clear hb1) | (go_at_call 36; (with_reducible refine (H2.out _).mono ?_); rintro _ w1 ⟨rfl, hb1⟩; have HN := Lib.hid (HM.out.below hb1); clear HM; have HM := HN; clear HN; (try clear hc0 hc1); have hc0 := HM.out.from_; have hc1 := HM.out.width; clear hb1) | (go_at_call 36; (with_reducible refine (H3.out _).mono ?_); rintro _ w1 ⟨rfl, hb1⟩; have HN := Lib.hid (HM.out.below hb1); clear HM; have HM := HN; clear HN; (try clear hc0 hc1); have hc0 := HM.out.from_; have hc1 := HM.out.width; clear hb1) | (go_at_call 36; (with_reducible refine (H4.out _).mono ?_); rintro _ w1 ⟨rfl, hb1⟩; have HN := Lib.hid (HM.out.below hb1); clear HM; have HM := HN; clear HN; (try clear hc0 hc1); have hc0 := HM.out.from_; have hc1 := HM.out.width; clear hb1) | (go_at_call 36; (with_reducible refine (H5.out _).mono ?_); rintro _ w1 ⟨rfl, hb1⟩; have HN := Lib.hid (HM.out.below hb1); clear HM; have HM := HN; clear HN; (try clear hc0 hc1); have hc0 := HM.out.from_; have hc1 := HM.out.width; clear hb1) | (go_at_call 16; go_must (with_reducible refine (wind_known.walk _ (HS.out.below HM.out.bel)).mono ?_); rintro _ wk ⟨rfl, hbk⟩; have HBK := Lib.hid (HM.out.bel.trans (hbk.mono (below_size HM.out.bel))); clear hbk))
  go_ret
  exact ⟨rfl, HBK.out⟩
set_option maxHeartbeats 1600000 in
set_option maxRecDepth 100000 in
theorem Adds.arcBad (l : List Int) (f wd sa cut : Int) (e0 : Int) (w : World) (HS : Hid (SpaceW w)) (HI46 : Hid ((Tryd.prog.info? 46).map (·.size) = some (encL l).size)) (H1 : Hid (∀ w : World, Calls Tryd.prog 36 #[.agg (encL l), .agg #[.int .i64 0, .int .i64 32]] w fun e w' => e = .returned (.tuple #[.int .i64 sa, .int .i64 0]) ∧ Below w.heap.size w w')) (H2 : Hid (∀ w : World, Calls Tryd.prog 36 #[.agg (encL l), .agg #[.int .i64 f, .int .i64 wd]] w fun e w' => e = .returned (.tuple #[.int .i64 0, .int .i64 1]) ∧ Below w.heap.size w w')) : Calls Tryd.prog 8 #[.agg (encL l), .agg #[.int .i64 f, .int .i64 wd], .int .i64 cut] w fun e w' => e = .returned (.bool true) ∧ Below w.heap.size w w' := by
  have HM := Lib.hid (RoseAt.new w l #[.int .i64 f, .int .i64 wd] 46)
  go_enter Tryd.func8, Tryd.ntmps8
  go_wp2_with (first | (refine wpList_load_row rfl 46 (.tmp 3) rfl w.heap.size rfl 46 (encL l) (0, 0) _ HM.out.rose Tryd.underlying46 rfl HI46.out ?_) | (go_at_call 36; (with_reducible refine (H1.out _).mono ?_); rintro _ w1 ⟨rfl, hb1⟩; have HN := Lib.hid (HM.out.below hb1); clear HM; have HM := HN; clear HN; (try clear hc0 hc1); have hc0 := HM.out.from_; have hc1 := HM.out.width; clear hb1) | (go_at_call 36; (with_reducible refine (H2.out _).mono ?_); rintro _ w1 ⟨rfl, hb1⟩; have HN := Lib.hid (HM.out.below hb1); clear HM; have HM := HN; clear HN; (try clear hc0 hc1); have hc0 := HM.out.from_; have hc1 := HM.out.width; clear hb1) | (go_at_call 16; go_must (with_reducible refine (wind_known.walk _ (HS.out.below HM.out.bel)).mono ?_); rintro _ wk ⟨rfl, hbk⟩; have HBK := Lib.hid (HM.out.bel.trans (hbk.mono (below_size HM.out.bel))); clear hbk))
  go_ret
  exact ⟨rfl, HBK.out⟩
set_option maxHeartbeats 1600000 in
set_option maxRecDepth 100000 in
theorem Adds.roseBad (l : List Int) (f wd cut : Int) (w : World) (HS : Hid (SpaceW w)) (HI46 : Hid ((Tryd.prog.info? 46).map (·.size) = some (encL l).size)) (H1 : Hid (∀ w : World, Calls Tryd.prog 36 #[.agg (encL l), .agg #[.int .i64 0, .int .i64 32]] w fun e w' => e = .returned (.tuple #[.int .i64 0, .int .i64 1]) ∧ Below w.heap.size w w')) (H2 : Hid (∀ w : World, Calls Tryd.prog 36 #[.agg (encL l), .agg #[.int .i64 f, .int .i64 wd]] w fun e w' => e = .returned (.tuple #[.int .i64 0, .int .i64 1]) ∧ Below w.heap.size w w')) : Calls Tryd.prog 8 #[.agg (encL l), .agg #[.int .i64 f, .int .i64 wd], .int .i64 cut] w fun e w' => e = .returned (.bool true) ∧ Below w.heap.size w w' := by
  have HM := Lib.hid (RoseAt.new w l #[.int .i64 f, .int .i64 wd] 46)
  go_enter Tryd.func8, Tryd.ntmps8
  go_wp2_with (first | (refine wpList_load_row rfl 46 (.tmp 3) rfl w.heap.size rfl 46 (encL l) (0, 0) _ HM.out.rose Tryd.underlying46 rfl HI46.out ?_) | (go_at_call 36; (with_reducible refine (H1.out _).mono ?_); rintro _ w1 ⟨rfl, hb1⟩; have HN := Lib.hid (HM.out.below hb1); clear HM; have HM := HN; clear HN; (try clear hc0 hc1); have hc0 := HM.out.from_; have hc1 := HM.out.width; clear hb1) | (go_at_call 36; (with_reducible refine (H2.out _).mono ?_); rintro _ w1 ⟨rfl, hb1⟩; have HN := Lib.hid (HM.out.below hb1); clear HM; have HM := HN; clear HN; (try clear hc0 hc1); have hc0 := HM.out.from_; have hc1 := HM.out.width; clear hb1) | (go_at_call 16; go_must (with_reducible refine (wind_known.walk _ (HS.out.below HM.out.bel)).mono ?_); rintro _ wk ⟨rfl, hbk⟩; have HBK := Lib.hid (HM.out.bel.trans (hbk.mono (below_size HM.out.bel))); clear hbk))
  go_ret
  exact ⟨rfl, HBK.out⟩
theorem cut_fact (cut : Int) {r : Nat} (h1 : 2 ≤ r) (h2 : r ≤ 32) : ∃ d m : Nat, m = d + 1 ∧ m < r ∧ Int.tmod (IntKind.u64.wrap cut) ((r : Int) - 1) = (d : Int) ∧ wrap64 (d : Int) = (d : Int) ∧ wrap64 (1 + (d : Int)) = (m : Int) := by
  obtain ⟨c, m, d, hm1, hm2, hm3, hc, ht, _⟩ := cut_at cut h1 h2
  refine ⟨d, m, hm3, hm2, by rw [hc]; exact ht, wrap_le (by clear hc ht; omega) (by clear hc ht; omega), ?_⟩
  clear hc ht
  rw [wrap_le (by omega) (by omega)]
  omega
theorem add_fact (p r : Nat) (hp : p < 32) (hr : r ≤ 32) : IntKind.i64.wrap ((p : Int) + (r : Int)) = (p : Int) + (r : Int) ∧ ((p : Int) + (r : Int)) % 32 = (((p + r) % 32 : Nat) : Int) := ⟨IntWalk.i64_in _ (by omega), by omega⟩
theorem sub_fact (r m : Nat) (hr : r ≤ 32) (hm : m ≤ r) : IntKind.i64.wrap ((r : Int) - (m : Int)) = ((r - m : Nat) : Int) := by rw [IntWalk.i64_in _ (by omega)]; omega
theorem split_fact {l : List Int} (h1 : roseOk l = true) (p r m : Nat) (hm : m ≤ r) (hr : r ≤ 32) : IntKind.i64.wrap (sumTo l p m + sumTo l ((p + m) % 32) (r - m)) = sumTo l p r := by
  have h := sumTo_add l p m (r - m)
  rw [show m + (r - m) = r by omega] at h
  have hg := sumTo_range h1 p r
  rw [← h, IntWalk.i64_in _ (by omega)]
theorem WindAdds.walk (l : List Int) (hl : l.length = 32) (f wd cut : Int) (w : World) (HS : Hid (SpaceW w)) : Calls Tryd.prog 8 #[.agg (encL l), .agg #[.int .i64 f, .int .i64 wd], .int .i64 cut] w fun e w' => e = .returned (.bool true) ∧ Below w.heap.size w w' := by
  have HI46 := Lib.hid (show (Tryd.prog.info? 46).map (·.size) = some (encL l).size by rw [encL_size, hl]; exact info46)
  by_cases h1 : roseOk l = true
  · have H1 := Lib.hid (fun w => Sum.at_ l hl 0 32 _ _ (sumP_ok (p := 0) (r := 32) h1 (by decide) (by decide) (by decide)) w)
    by_cases h2 : arcOk f wd = true
    · have hr := of_decide_eq_true h2
      obtain ⟨p, rfl⟩ := Int.eq_ofNat_of_zero_le hr.1.1
      obtain ⟨r, rfl⟩ := Int.eq_ofNat_of_zero_le (show 0 ≤ wd by omega)
      have hp : p < 32 := by omega
      have hr1 : 1 ≤ r := by omega
      have hr2 : r ≤ 32 := by omega
      clear hr h2
      have at_ : ∀ f r : Nat, f < 32 → 1 ≤ r → r ≤ 32 → Hid (∀ w : World, Calls Tryd.prog 36 #[.agg (encL l), .agg #[.int .i64 (f : Int), .int .i64 (r : Int)]] w fun e w' => e = .returned (.tuple #[.int .i64 (sumTo l f r), .int .i64 0]) ∧ Below w.heap.size w w') := fun f r hf hr1 hr2 => Lib.hid (fun w => Sum.at_ l hl (f : Int) (r : Int) _ _ (sumP_ok h1 hf hr1 hr2) w)
      by_cases hlt : r < 32
      · have hs1 : IntKind.i64.wrap (sumTo l p r + sumTo l ((p + r) % 32) (32 - r)) = sumTo l 0 32 := by rw [split_fact h1 p 32 r (by omega) (by omega), sumTo_round l hp]
        have a1 := add_fact p r hp hr2
        have a2 := sub_fact 32 r (by omega) hr2
        by_cases h2 : r < 2
        · exact Adds.one l p r ((p + r) % 32) (32 - r) _ _ _ cut w HS HI46 H1 (at_ p r hp hr1 hr2) (decide_eq_true (by omega)) a1.1 a1.2 a2 (at_ _ _ (by omega) (by omega) (by omega)) hs1 (decide_eq_true (by omega))
        · obtain ⟨d, m, hdm, hmr, c1, c2, c3⟩ := cut_fact cut (r := r) (by omega) hr2
          have b1 := add_fact p m hp (by clear c1 c2 c3; omega)
          have b2 := sub_fact r m hr2 (by clear c1 c2 c3; omega)
          have hs2 := split_fact h1 p r m (by clear c1 c2 c3; omega) hr2
          have q4 := at_ p m hp (by clear c1 c2 c3; omega) (by clear c1 c2 c3; omega)
          have q5 := at_ ((p + m) % 32) (r - m) (by clear c1 c2 c3; omega) (by clear c1 c2 c3; omega) (by clear c1 c2 c3; omega)
          exact Adds.both l p r m d ((p + m) % 32) (r - m) ((p + r) % 32) (32 - r) _ _ _ _ _ cut w HS HI46 H1 (at_ p r hp hr1 hr2) (decide_eq_true (by clear c1 c2 c3; omega)) a1.1 a1.2 a2 (at_ _ _ (by clear c1 c2 c3; omega) (by clear c1 c2 c3; omega) (by clear c1 c2 c3; omega)) hs1 (by clear c1 c2 c3; omega) (by clear c1 c2 c3; omega) (decide_eq_false (by clear c1 c2 c3; omega)) c1 c2 c3 q4 b1.1 b1.2 b2 q5 hs2
      · obtain ⟨d, m, hdm, hmr, c1, c2, c3⟩ := cut_fact cut (r := r) (by omega) hr2
        have b1 := add_fact p m hp (by clear c1 c2 c3; omega)
        have b2 := sub_fact r m hr2 (by clear c1 c2 c3; omega)
        have hs2 := split_fact h1 p r m (by clear c1 c2 c3; omega) hr2
        have q4 := at_ p m hp (by clear c1 c2 c3; omega) (by clear c1 c2 c3; omega)
        have q5 := at_ ((p + m) % 32) (r - m) (by clear c1 c2 c3; omega) (by clear c1 c2 c3; omega) (by clear c1 c2 c3; omega)
        exact Adds.two l p r m d ((p + m) % 32) (r - m) _ _ _ _ cut w HS HI46 H1 (at_ p r hp hr1 hr2) (decide_eq_false (by clear c1 c2 c3; omega)) (by clear c1 c2 c3; omega) (by clear c1 c2 c3; omega) (decide_eq_false (by clear c1 c2 c3; omega)) c1 c2 c3 q4 b1.1 b1.2 b2 q5 hs2
    · exact Adds.arcBad l f wd _ cut 1 w HS HI46 H1 (Lib.hid (fun w => Sum.at_ l hl f wd _ _ (sumP_arc h1 h2) w))
  · exact Adds.roseBad l f wd cut w HS HI46 (Lib.hid (fun w => Sum.at_ l hl 0 32 _ _ (sumP_rose h1 0 32) w)) (Lib.hid (fun w => Sum.at_ l hl f wd _ _ (sumP_rose h1 f wd) w))
def wigeonlaw03_WindAdds.f (l : List Int) (f wd cut : Int) : Option Bool := some true
theorem wigeonlaw03_WindAdds.calls (l : List Int) (hl : l.length = 32) (f wd cut : Int) (r : Bool) (w : World) (HS : Hid (SpaceW w)) (h : wigeonlaw03_WindAdds.f l f wd cut = some r) :
    Calls Tryd.prog 8 #[.agg (encL l), .agg #[.int .i64 f, .int .i64 wd], .int .i64 cut] w fun e w' => e = .returned (.bool r) ∧ Below w.heap.size w w' := by
  obtain rfl : true = r := Option.some.inj h
  exact WindAdds.walk l hl f wd cut w HS

end Go.Proofs.YthihlapmkcelpaaDoor.Q
