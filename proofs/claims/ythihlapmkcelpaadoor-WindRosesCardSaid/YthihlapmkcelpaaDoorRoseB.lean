/- The best arc of a width: what it is, and the program's Best walked. For all roses that are valid, widths 1 to 32. -/
import Derived.Test.YthihlapmkcelpaaDoorProg
import Derived.Below
import Derived.Deep.Draws
import Derived.Deep.AppendLies
import Derived.Maps.AppendAt
import Derived.OwnWalk
import Derived.Laws.BytesArg
import Derived.Laws.MakeOwn
import Derived.Laws.OwnMore
import Derived.Deep.OwnRows
import Derived.Tactics
import Derived.Lib.ConvBytes
import Derived.Laws.Slices
import Derived.WalkKit
import Derived.KernelRfl
import Derived.RowKit3
import Derived.Deep.LoopGhost
import Derived.Deep.QuietTactic
import Derived.BigQuiet
import Derived.WideLaws
import Derived.Deep.DeepCutAuto
import Derived.Deep.CutBlock
import Derived.Deep.RegionHeld3
import Derived.Laws.Rows
import Derived.Lib.AppendStr
import Derived.ArgAppend
import Derived.Laws.IdiomCopy
import Derived.OrdersHeld
import Derived.Laws.BitsLemmas
import Derived.RowKit
import Derived.Deep.DeepMust
import Derived.Deep.RegionWith
import Derived.IntWalk
import Derived.Laws.Bits64
import Derived.Laws.BitsAllLaws
import Derived.Laws.CopyOwn
import Derived.Laws.EntriesVeiled
import Derived.Laws.Tables
import Derived.Lib.Hide
import Derived.Lib.LaidTab
import Derived.Outline
import Derived.StillTailTactics
import Derived.Test.YthihlapmkcelpaaDoorShelf
import Derived.Test.YthihlapmkcelpaaDoorWWords
import Derived.Test.YthihlapmkcelpaaDoorWLast
import Derived.Test.YthihlapmkcelpaaDoorWTab
import Derived.Test.YthihlapmkcelpaaDoorWFour
import Derived.Test.YthihlapmkcelpaaDoorWQPut
import Derived.Test.YthihlapmkcelpaaDoorWApart
import Derived.Test.YthihlapmkcelpaaDoorWArr
import Derived.Test.YthihlapmkcelpaaDoorWZeros
import Derived.Test.YthihlapmkcelpaaDoorWFoot
import Derived.Test.YthihlapmkcelpaaDoorWKept
import Derived.Test.YthihlapmkcelpaaDoorWShare
import Derived.Test.YthihlapmkcelpaaDoorWN
import Derived.Test.YthihlapmkcelpaaDoorWFootNe
import Derived.Test.YthihlapmkcelpaaDoorWAt
import Derived.Test.YthihlapmkcelpaaDoorWEqStruct
import Derived.Test.YthihlapmkcelpaaDoorWRepsOne
import Derived.Test.YthihlapmkcelpaaDoorWInv
import Derived.Test.YthihlapmkcelpaaDoorWInvWords
import Derived.Test.YthihlapmkcelpaaDoorWGuard
import Derived.Test.YthihlapmkcelpaaDoorWNEv
import Derived.Test.YthihlapmkcelpaaDoorWMore
import Derived.Outline
import Derived.Lib.Hide
import Derived.Deep.DeepMust
import Derived.Deep.RegionWith
import Derived.IntWalk
import Derived.Laws.Tables
import Derived.Laws.BitsAllLaws
import Derived.Laws.CopyOwn
import Derived.StillTailTactics
import Derived.Laws.EntriesVeiled
import Derived.Test.YthihlapmkcelpaaDoorShelf
import Derived.Test.YthihlapmkcelpaaDoorQx2
import Derived.Test.YthihlapmkcelpaaDoorRoseA
namespace Go.Proofs.YthihlapmkcelpaaDoor.Q
open Go.RowKit Go.Proofs.YthihlapmkcelpaaDoorW.PrintWords Go.Proofs.YthihlapmkcelpaaDoorW.PrintLast Go.Proofs.YthihlapmkcelpaaDoorW.PrintMore
set_option linter.unusedVariables false
set_option linter.unusedSimpArgs false

/-- Which arc of a width is the best among the first ones: its first point. -/
def rb (l : List Int) (wd : Nat) : Nat → Nat
  | 0 => 0
  | p + 1 => if sumTo l (rb l wd p) wd < sumTo l p wd then p else rb l wd p
theorem rb_lt (l : List Int) (wd : Nat) : ∀ n, n ≤ 32 → rb l wd n < 32 := by
  intro n
  induction n with
  | zero => intro _; show 0 < 32; omega
  | succ n ih =>
    intro hn
    have := ih (by omega)
    unfold rb
    split <;> omega
theorem rb_best (l : List Int) (wd : Nat) (n : Nat) : ∀ p, p < n → sumTo l p wd ≤ sumTo l (rb l wd n) wd := by
  induction n with
  | zero => intro p hp; omega
  | succ n ih =>
    intro p hp
    unfold rb
    by_cases h : sumTo l (rb l wd n) wd < sumTo l n wd
    · rw [if_pos h]
      by_cases e : p = n
      · rw [e]; exact Int.le_refl _
      · have := ih p (by omega); omega
    · rw [if_neg h]
      by_cases e : p = n
      · rw [e]; omega
      · exact ih p (by omega)
theorem rb_one (l : List Int) (wd : Nat) : rb l wd 1 = 0 := by
  show (if sumTo l 0 wd < sumTo l 0 wd then 0 else 0) = 0
  split <;> rfl
/-- Point, width and sum of the best of the first arcs. -/
def bF (l : List Int) (wd : Nat) (n : Nat) : Int := if n = 0 then 0 else (rb l wd n : Int)
def bW (wd : Nat) (n : Nat) : Int := if n = 0 then 0 else (wd : Int)
def bM (l : List Int) (wd : Nat) (n : Nat) : Int := if n = 0 then -1 else sumTo l (rb l wd n) wd
theorem best_more {l : List Int} (h : roseOk l = true) (wd p : Nat) (hm : bM l wd p < sumTo l p wd) : bF l wd (p + 1) = (p : Int) ∧ bW wd (p + 1) = (wd : Int) ∧ bM l wd (p + 1) = sumTo l p wd := by
  have e : rb l wd (p + 1) = p := by
    by_cases h0 : p = 0
    · subst h0; exact rb_one l wd
    · unfold bM at hm
      rw [if_neg h0] at hm
      show (if sumTo l (rb l wd p) wd < sumTo l p wd then p else rb l wd p) = p
      rw [if_pos hm]
  refine ⟨?_, ?_, ?_⟩
  · unfold bF; rw [if_neg (by omega), e]
  · unfold bW; rw [if_neg (by omega)]
  · unfold bM; rw [if_neg (by omega), e]
theorem best_less {l : List Int} (h : roseOk l = true) (wd p : Nat) (hm : ¬ bM l wd p < sumTo l p wd) : bF l wd (p + 1) = bF l wd p ∧ bW wd (p + 1) = bW wd p ∧ bM l wd (p + 1) = bM l wd p := by
  have hg := sumTo_range h p wd
  have h0 : p ≠ 0 := by
    intro h0
    unfold bM at hm
    rw [if_pos h0] at hm
    omega
  have hm2 : ¬ sumTo l (rb l wd p) wd < sumTo l p wd := by
    unfold bM at hm
    rwa [if_neg h0] at hm
  have e : rb l wd (p + 1) = rb l wd p := by
    show (if sumTo l (rb l wd p) wd < sumTo l p wd then p else rb l wd p) = rb l wd p
    rw [if_neg hm2]
  refine ⟨?_, ?_, ?_⟩
  · unfold bF; rw [if_neg (by omega), if_neg h0, e]
  · unfold bW; rw [if_neg (by omega), if_neg h0]
  · unfold bM; rw [if_neg (by omega), if_neg h0, e]
/-- The rose, the result's cells, and the best one so far in block g. -/
structure BestAt (w : World) (l : List Int) (g : Nat) (a b : Int) (w' : World) : Prop where
  rose : w'.heap[w.heap.size]? = some (.cells (encL l) 45 (0, 0))
  res : w'.heap[w.heap.size + 1]? = some (.cells #[.int .i64 0, .int .i64 0] 33 (0, 0))
  best : w'.heap[g]? = some (.cells #[.int .i64 a, .int .i64 b] 33 (0, 0))
  far : w.heap.size + 1 < g
  bel : Below w.heap.size w w'
theorem BestAt.below {w w' w'' : World} {l : List Int} {g : Nat} {a b : Int} (H : BestAt w l g a b w') (hb : Below w'.heap.size w' w'') : BestAt w l g a b w'' :=
  ⟨(hb.block _ (Array.getElem?_eq_some_iff.1 H.rose).1).trans H.rose, (hb.block _ (Array.getElem?_eq_some_iff.1 H.res).1).trans H.res, (hb.block _ (Array.getElem?_eq_some_iff.1 H.best).1).trans H.best, H.far, H.bel.trans (hb.mono (below_size H.bel))⟩
theorem BestAt.lt {w w' : World} {l : List Int} {g : Nat} {a b : Int} (H : BestAt w l g a b w') : g < w'.heap.size := (Array.getElem?_eq_some_iff.1 H.best).1
theorem BestAt.alloc {w w' : World} {l : List Int} {g : Nat} {a b : Int} (H : BestAt w l g a b w') (o : Obj) : BestAt w l g a b (w'.alloc o) := H.below ((Below.refl _ _).alloc (Nat.le_refl _) _)
theorem BestAt.setNew {w w' : World} {l : List Int} {g : Nat} {a b : Int} (H : BestAt w l g a b w') (k : Nat) (hk : g < k) (cs : Array Value) : BestAt w l g a b (w'.setRow k cs) := by
  have hf := H.far
  refine ⟨?_, ?_, ?_, H.far, below_setRow H.bel (by omega) _⟩
  · rw [setRow_other _ _ _ _ (by omega)]; exact H.rose
  · rw [setRow_other _ _ _ _ (by omega)]; exact H.res
  · rw [setRow_other _ _ _ _ (by omega)]; exact H.best
theorem BestAt.set {w w' : World} {l : List Int} {g : Nat} {a b : Int} (H : BestAt w l g a b w') (a' b' : Int) : BestAt w l g a' b' (w'.setRow g #[.int .i64 a', .int .i64 b']) := by
  have hf := H.far
  refine ⟨?_, ?_, setRow_heap _ _ _ _ _ _ H.best, H.far, below_setRow H.bel (by omega) _⟩
  · rw [setRow_other _ _ _ _ (by omega)]; exact H.rose
  · rw [setRow_other _ _ _ _ (by omega)]; exact H.res
theorem ctA : (#[Value.int .i64 0, .int .i64 0] : Array Value).size = 2 := rfl
theorem infoArc (a b : Int) : (Tryd.prog.info? 33).map (·.size) = some (#[Value.int .i64 a, .int .i64 b] : Array Value).size := by kernel_rfl
def zeroA : Array Value := #[.int .i64 0, .int .i64 0]
theorem BestAt.new {w w2 : World} {l : List Int} (H : RoseAt w l #[.int .i64 0, .int .i64 0] 45 w2) (a b : Int) : BestAt w l w2.heap.size a b (w2.alloc (.cells #[.int .i64 a, .int .i64 b] 33)) := by
  have h0 := (Array.getElem?_eq_some_iff.1 H.arc).1
  have ha := H.below ((Below.refl w2.heap.size w2).alloc (Nat.le_refl _) (.cells #[.int .i64 a, .int .i64 b] 33))
  exact ⟨ha.rose, ha.arc, heap_alloc_new w2 _, by omega, ha.bel⟩
theorem row_below {w w' : World} {g : Nat} {o : Obj} (h : w.heap[g]? = some o) (hb : Below w.heap.size w w') : w'.heap[g]? = some o := (hb.block _ (Array.getElem?_eq_some_iff.1 h).1).trans h
theorem bF_all (l : List Int) (n : Nat) : bF l n 32 = (rb l n 32 : Int) := by unfold bF; rw [if_neg (by omega)]
theorem bW_all (n : Nat) : bW n 32 = (n : Int) := by unfold bW; rw [if_neg (by omega)]
theorem bM_all (l : List Int) (n : Nat) : bM l n 32 = sumTo l (rb l n 32) n := by unfold bM; rw [if_neg (by omega)]
theorem arc_one (a b : Int) : (#[Value.int .i64 a, .int .i64 b] : Array Value).all (·.oneCell') = true := by simp [Value.oneCell']
set_option maxHeartbeats 1600000 in
set_option maxRecDepth 100000 in
theorem Best.walk_ok (l : List Int) (hl : l.length = 32) (h1 : roseOk l = true) (n : Nat) (hn1 : 1 ≤ n) (hn2 : n ≤ 32) (w : World) : Calls Tryd.prog 44 #[.agg (encL l), .int .i64 (n : Int)] w fun e w' => e = .returned (.tuple #[.agg #[.int .i64 (bF l n 32), .int .i64 (bW n 32)], .int .i64 (bM l n 32), .int .i64 0]) ∧ Below w.heap.size w w' := by
  have HR := Lib.hid (fun w => isRose.walk l hl w)
  rw [h1] at HR
  have HW := Lib.hid (fun w => wind_within.calls (n : Int) 1 32 true w (by unfold wind_within.f; rw [if_pos (by omega)]; exact congrArg some (decide_eq_true (by omega))))
  have HI45 := Lib.hid (show (Tryd.prog.info? 45).map (·.size) = some (encL l).size by rw [encL_size, hl]; exact info45)
  have HI := Lib.hid (fun a b => infoArc a b)
  have HS := Lib.hid (fun (p : Nat) (hp : p < 32) w => sum.walk l hl h1 p n hn2 hp w)
  have HK := Lib.hid h1
  have H00 := Lib.hid (RoseAt.new w l #[.int .i64 0, .int .i64 0] 45)
  clear h1 hl
  go_enter Tryd.func44, Tryd.ntmps44
  go_wp2_with (first | (refine wpList_load_row (o := ⟨some 12, _, _, _, _, _⟩) rfl 45 (.tmp 2) rfl w.heap.size rfl 45 (encL l) (0, 0) _ H00.out.rose Tryd.underlying45 rfl HI45.out ?_) | (go_at_call 80; go_must (with_reducible refine (HR.out _).mono ?_); rintro _ w1 ⟨rfl, hb1⟩; have HM1 := Lib.hid (H00.out.below hb1); clear hb1) | (go_at_call 74; go_must (with_reducible refine (HW.out _).mono ?_); rintro _ w2 ⟨rfl, hd⟩; have hb2 : Below w1.heap.size w1 w2 := (by obtain ⟨nd, rfl⟩ := hd; exact pw_below_drewN (Below.refl _ _) nd); have HM2 := Lib.hid (HM1.out.below hb2); have HB2 := Lib.hid (BestAt.new HM2.out 0 0); clear hb2 hd))
  generalize w2.heap.size = g at *
  generalize w2.alloc (.cells #[.int .i64 0, .int .i64 0] 33) = W0 at *
  go_loopw [8, 22] (fun v v2 w' => ∃ p : Nat, p ≤ 32 ∧ v = .int .i64 (bM l n p) ∧ v2 = .int .i64 (p : Int) ∧ BestAt w l g (bF l n p) (bW n p) w') (fun _ v2 _ => 32 - (intOf v2).toNat)
  case atStart => exact ⟨0, by omega, rfl, rfl, HB2.out⟩
  case round =>
    obtain ⟨p, hp, rfl, rfl, hM⟩ := hrel
    have HM := Lib.hid hM
    clear hM HB2 HM1 HM2
    by_cases hlt : p < 32
    · have HSp := Lib.hid (HS.out p hlt)
      have HM2 := Lib.hid (HM.out.alloc (.cells #[.int .i64 (p : Int), .int .i64 (n : Int)] 33))
      have HP2 := Lib.hid (heap_alloc_new wr (.cells #[.int .i64 (p : Int), .int .i64 (n : Int)] 33))
      clear HS HR HW
      by_cases hm : bM l n p < sumTo l p n
      · have hd := decide_eq_true (show sumTo l p n > bM l n p from hm)
        have HN := Lib.hid (best_more HK.out n p hm)
        clear hm
        generalize sumTo l p n = s at *
        generalize bM l n p = m at *
        generalize bF l n p = a at *
        generalize bW n p = b at *
        go_wp2_with (first | (refine wpList_load_row (o := ⟨some 28, _, _, _, _, _⟩) rfl 45 (.tmp 2) rfl w.heap.size rfl 45 (encL l) (0, 0) _ HM2.out.rose Tryd.underlying45 rfl HI45.out ?_) | (refine wpList_load_row (o := ⟨some 29, _, _, _, _, _⟩) rfl 33 (.tmp 10) rfl wr.heap.size rfl 33 #[.int .i64 (p : Int), .int .i64 (n : Int)] (0, 0) _ HP2.out Tryd.underlying33 rfl (HI.out _ _) ?_) | (go_at_call 81; go_must (with_reducible refine (HSp.out _).mono ?_); rintro _ w3 ⟨rfl, hb3⟩; have HM3 := Lib.hid (HM2.out.below hb3); have HP3 := Lib.hid (row_below HP2.out hb3); clear hb3) | (refine wpList_load_row (o := ⟨some 34, _, _, _, _, _⟩) rfl 33 (.tmp 10) rfl wr.heap.size rfl 33 #[.int .i64 (p : Int), .int .i64 (n : Int)] (0, 0) _ HP3.out Tryd.underlying33 rfl (HI.out _ _) ?_) | (refine wpList_store_row rfl 33 (.tmp 7) (.tmp 34) rfl g #[.int .i64 (p : Int), .int .i64 (n : Int)] rfl rfl 33 #[.int .i64 a, .int .i64 b] HM3.out.best (HI.out _ _) rfl (arc_one _ _) ?_))
        exact ⟨⟨p + 1, by omega, by rw [HN.out.2.2], by go_num, by rw [HN.out.1, HN.out.2.1]; exact HM3.out.set _ _⟩, by simp [intOf]; omega⟩
      · have hd := decide_eq_false (show ¬ sumTo l p n > bM l n p from hm)
        have HN := Lib.hid (best_less HK.out n p hm)
        clear hm
        generalize sumTo l p n = s at *
        generalize bM l n p = m at *
        generalize bF l n p = a at *
        generalize bW n p = b at *
        go_wp2_with (first | (refine wpList_load_row (o := ⟨some 28, _, _, _, _, _⟩) rfl 45 (.tmp 2) rfl w.heap.size rfl 45 (encL l) (0, 0) _ HM2.out.rose Tryd.underlying45 rfl HI45.out ?_) | (refine wpList_load_row (o := ⟨some 29, _, _, _, _, _⟩) rfl 33 (.tmp 10) rfl wr.heap.size rfl 33 #[.int .i64 (p : Int), .int .i64 (n : Int)] (0, 0) _ HP2.out Tryd.underlying33 rfl (HI.out _ _) ?_) | (go_at_call 81; go_must (with_reducible refine (HSp.out _).mono ?_); rintro _ w3 ⟨rfl, hb3⟩; have HM3 := Lib.hid (HM2.out.below hb3); clear hb3))
        exact ⟨⟨p + 1, by omega, by rw [HN.out.2.2], by go_num, by rw [HN.out.1, HN.out.2.1]; exact HM3.out⟩, by simp [intOf]; omega⟩
    · obtain rfl : p = 32 := by omega
      clear HR HW HS
      go_wp2_with (first | (refine wpList_load_row (o := ⟨some 37, _, _, _, _, _⟩) rfl 33 (.tmp 7) rfl g rfl 33 #[.int .i64 (bF l n 32), .int .i64 (bW n 32)] (0, 0) _ HM.out.best Tryd.underlying33 rfl (HI.out _ _) ?_) | (refine wpList_store_row rfl 33 (.tmp 4) (.tmp 37) rfl (w.heap.size + 1) #[.int .i64 (bF l n 32), .int .i64 (bW n 32)] rfl rfl 33 #[.int .i64 0, .int .i64 0] HM.out.res (HI.out _ _) rfl (arc_one _ _) ?_))
      (try simp only [Exit.inBlock, Exit.then])
      refine bodyPost_ret (results_ctt rfl _ _ (w.heap.size + 1) 33 #[.int .i64 (bF l n 32), .int .i64 (bW n 32)] (0, 0) _ rfl (setRow_heap _ _ _ _ _ _ HM.out.res) Tryd.underlying33 rfl (HI.out _ _)) rfl ⟨by first | rfl | (simp; done), below_setRow HM.out.bel (by omega) _⟩

end Go.Proofs.YthihlapmkcelpaaDoor.Q
