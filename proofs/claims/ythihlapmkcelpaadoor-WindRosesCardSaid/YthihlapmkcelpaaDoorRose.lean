/- Roses of winds: 32 numbers in an array; the walks of isRose, sum and Sum, and what they compute. For all roses. -/
import Derived.Test.YthihlapmkcelpaaDoorProg
import Derived.Below
import Derived.Deep.Draws
import Derived.Deep.AppendLies
import Derived.Maps.AppendAt
import Derived.OwnWalk
import Derived.Laws.BytesArg
import Derived.Laws.MakeOwn
import Derived.Laws.OwnMore
import Derived.Deep.OwnRows
import Derived.Tactics
import Derived.Lib.ConvBytes
import Derived.Laws.Slices
import Derived.WalkKit
import Derived.KernelRfl
import Derived.RowKit3
import Derived.Deep.LoopGhost
import Derived.Deep.QuietTactic
import Derived.BigQuiet
import Derived.WideLaws
import Derived.Deep.DeepCutAuto
import Derived.Deep.CutBlock
import Derived.Deep.RegionHeld3
import Derived.Laws.Rows
import Derived.Lib.AppendStr
import Derived.ArgAppend
import Derived.Laws.IdiomCopy
import Derived.OrdersHeld
import Derived.Laws.BitsLemmas
import Derived.RowKit
import Derived.Deep.DeepMust
import Derived.Deep.RegionWith
import Derived.IntWalk
import Derived.Laws.Bits64
import Derived.Laws.BitsAllLaws
import Derived.Laws.CopyOwn
import Derived.Laws.EntriesVeiled
import Derived.Laws.Tables
import Derived.Lib.Hide
import Derived.Lib.LaidTab
import Derived.Outline
import Derived.StillTailTactics
import Derived.Test.YthihlapmkcelpaaDoorShelf
import Derived.Test.YthihlapmkcelpaaDoorWWords
import Derived.Test.YthihlapmkcelpaaDoorWLast
import Derived.Test.YthihlapmkcelpaaDoorWTab
import Derived.Test.YthihlapmkcelpaaDoorWFour
import Derived.Test.YthihlapmkcelpaaDoorWQPut
import Derived.Test.YthihlapmkcelpaaDoorWApart
import Derived.Test.YthihlapmkcelpaaDoorWArr
import Derived.Test.YthihlapmkcelpaaDoorWZeros
import Derived.Test.YthihlapmkcelpaaDoorWFoot
import Derived.Test.YthihlapmkcelpaaDoorWKept
import Derived.Test.YthihlapmkcelpaaDoorWShare
import Derived.Test.YthihlapmkcelpaaDoorWN
import Derived.Test.YthihlapmkcelpaaDoorWFootNe
import Derived.Test.YthihlapmkcelpaaDoorWAt
import Derived.Test.YthihlapmkcelpaaDoorWEqStruct
import Derived.Test.YthihlapmkcelpaaDoorWRepsOne
import Derived.Test.YthihlapmkcelpaaDoorWInv
import Derived.Test.YthihlapmkcelpaaDoorWInvWords
import Derived.Test.YthihlapmkcelpaaDoorWGuard
import Derived.Test.YthihlapmkcelpaaDoorWNEv
import Derived.Test.YthihlapmkcelpaaDoorWMore
import Derived.Outline
import Derived.Lib.Hide
import Derived.Deep.DeepMust
import Derived.Deep.RegionWith
import Derived.IntWalk
import Derived.Laws.Tables
import Derived.Laws.BitsAllLaws
import Derived.Laws.CopyOwn
import Derived.StillTailTactics
import Derived.Laws.EntriesVeiled
import Derived.Test.YthihlapmkcelpaaDoorShelf
import Derived.Test.YthihlapmkcelpaaDoorQx2
import Derived.Test.YthihlapmkcelpaaDoorQx5
namespace Go.Proofs.YthihlapmkcelpaaDoor.Q
open Go.RowKit Go.Proofs.YthihlapmkcelpaaDoorW.PrintWords Go.Proofs.YthihlapmkcelpaaDoorW.PrintLast Go.Proofs.YthihlapmkcelpaaDoorW.PrintMore
set_option linter.unusedVariables false
set_option linter.unusedSimpArgs false

/-! Roses: 32 numbers. -/
def encL (l : List Int) : Array Value := (l.map fun n => Value.int .i64 n).toArray
theorem encL_size (l : List Int) : (encL l).size = l.length := by simp [encL]
theorem encL_get (l : List Int) (j : Nat) (h : j < l.length) : (encL l)[j]? = some (.int .i64 (rd l (j : Int))) := by
  unfold encL rd
  rw [List.getElem?_toArray, List.getElem?_map, Int.toNat_natCast, List.getD_eq_getElem?_getD, List.getElem?_eq_getElem h]
  rfl
theorem info45 : (Tryd.prog.info? 45).map (·.size) = some 32 := by kernel_rfl
theorem info46 : (Tryd.prog.info? 46).map (·.size) = some 32 := by kernel_rfl
theorem row_cell {w : World} {g t : Nat} {l : List Int} (h : w.heap[g]? = some (.cells (encL l) t (0, 0))) (j : Nat) (hj : j < l.length) : w.cell? ⟨g, j, none⟩ = some (.int .i64 (rd l (j : Int))) := by
  rw [cell_of_row w g j _ _ _ h]
  exact encL_get l j hj
theorem row_C {w : World} {g t : Nat} {l : List Int} (h : w.heap[g]? = some (.cells (encL l) t (0, 0))) (hl : l.length = 32) : Kd.C (Kd.int .i64) w (some ⟨g, 0, none⟩) l.length l := by
  refine ⟨rfl, by omega, fun _ => ⟨⟨g, 0, none⟩, rfl, fun j p hp => ?_⟩⟩
  obtain ⟨hj, hp⟩ := List.getElem?_eq_some_iff.1 hp
  refine ⟨[.int .i64 p], rfl, rfl, fun i u hu => ?_⟩
  have hi : i = 0 := by
    cases i with
    | zero => rfl
    | succ i => simp at hu
  subst hi
  have hu : u = .int .i64 p := by simpa using hu.symm
  subst hu
  have hc := row_cell h j hj
  have e : rd l (j : Int) = p := by
    unfold rd
    rw [Int.toNat_natCast, List.getD_eq_getElem?_getD, List.getElem?_eq_getElem hj]
    exact hp
  rw [e] at hc
  have ea : Addr.add ⟨g, 0, none⟩ (j * 1 + 0) = ⟨g, j, none⟩ := by simp [Addr.add]; exact fun h => h.symm
  show w.cell? (Addr.add ⟨g, 0, none⟩ (j * 1 + 0)) = _
  rw [ea]
  exact hc
def badRose (n : Int) : Bool := !decide (0 ≤ n ∧ n ≤ 10000)
def roseOk (l : List Int) : Bool := !decide (0 ≤ idxF badRose l 0 32)
theorem callFunc102 (args : Array Value) (w : World) : (callFunc 102 args).run Tryd.prog w = .ok (Next.enter 102 args) w := by kernel_rfl
theorem within_rose (n : Int) : wind_within.f n 0 10000 = some (decide (0 ≤ n ∧ n ≤ 10000)) := by
  unfold wind_within.f
  by_cases h : n ≥ 0
  · rw [if_pos h]
    congr 1
    rw [decide_eq_decide]
    omega
  · rw [if_neg h, decide_eq_false (by omega)]
set_option maxHeartbeats 800000 in
set_option maxRecDepth 100000 in
theorem isRose1.walk (n : Int) (w : World) : Calls Tryd.prog 102 #[.int .i64 n] w fun e w' => e = .returned (.bool (badRose n)) ∧ Below w.heap.size w w' := by
  have HP := Lib.hid (fun w => wind_within.calls n 0 10000 _ w (within_rose n))
  unfold badRose
  generalize decide (0 ≤ n ∧ n ≤ 10000) = b at *
  go_enter Tryd.func102, Tryd.ntmps102
  go_wp2_with (first | (go_at_call 74; go_must (with_reducible refine (HP.out _).mono ?_); rintro _ _ ⟨rfl, ⟨nd, rfl⟩⟩))
  go_ret
  exact ⟨rfl, pw_below_drewN (Below.refl _ _) nd⟩
set_option maxHeartbeats 800000 in
set_option maxRecDepth 100000 in
theorem isRose.walk (l : List Int) (hl : l.length = 32) (w : World) : Calls Tryd.prog 80 #[.agg (encL l)] w fun e w' => e = .returned (.bool (roseOk l)) ∧ Below w.heap.size w w' := by
  have HC := Lib.hid (fun (W : World) (h : W.heap[w.heap.size]? = some (.cells (encL l) 45 (0, 0))) => show Calls Tryd.prog 78 #[.slice (some ⟨w.heap.size, 0, none⟩) 32 32, .func (.func 102) #[] #[]] W fun e w' => e = .returned (.bool (decide (0 ≤ idxF badRose l 0 32))) ∧ Below W.heap.size W w' by
    have h2 := containsFunc_int.walk 102 #[] badRose (some ⟨w.heap.size, 0, none⟩) 32 l W (row_C h hl) callFunc102 (fun p w' _ => isRose1.walk p w')
    rwa [hl] at h2)
  unfold roseOk
  generalize decide (0 ≤ idxF badRose l 0 32) = b at *
  go_enter Tryd.func80, Tryd.ntmps80
  go_wp2_with (first | (go_at_call 78; go_must (with_reducible refine (HC.out _ (heap_alloc_new _ _)).mono ?_); rintro _ w2 ⟨rfl, hb2⟩; have HB2 := Lib.hid hb2; clear hb2))
  go_ret
  exact ⟨rfl, ((Below.refl _ _).alloc (Nat.le_refl _) _).trans (HB2.out.mono (by simp))⟩
def sumTo (l : List Int) (f : Nat) : Nat → Int
  | 0 => 0
  | i + 1 => sumTo l f i + rd l (((f + i) % 32 : Nat) : Int)
theorem roseOk_at {l : List Int} (h : roseOk l = true) {j : Nat} (hj : j < 32) : 0 ≤ rd l (j : Int) ∧ rd l (j : Int) ≤ 10000 := by
  unfold roseOk at h
  rw [Bool.not_eq_true'] at h
  have h1 := idxF_none (h := badRose) (l := l) 32 0 (by have := of_decide_eq_false h; omega) j (by omega) (by omega)
  unfold badRose at h1
  simpa using h1
theorem sumTo_range {l : List Int} (h : roseOk l = true) (f n : Nat) : 0 ≤ sumTo l f n ∧ sumTo l f n ≤ 10000 * n := by
  induction n with
  | zero => exact ⟨by show (0 : Int) ≤ 0; omega, by show (0 : Int) ≤ 10000 * ((0 : Nat) : Int); omega⟩
  | succ n ih =>
    have hr := roseOk_at h (j := (f + n) % 32) (Nat.mod_lt _ (by decide))
    unfold sumTo
    omega
structure RoseAt (w : World) (l : List Int) (cs : Array Value) (t : Nat) (w' : World) : Prop where
  rose : w'.heap[w.heap.size]? = some (.cells (encL l) t (0, 0))
  arc : w'.heap[w.heap.size + 1]? = some (.cells cs 33 (0, 0))
  bel : Below w.heap.size w w'
theorem RoseAt.new (w : World) (l : List Int) (cs : Array Value) (t : Nat) : RoseAt w l cs t ((w.alloc (.cells (encL l) t)).alloc (.cells cs 33)) := by
  have s1 : (w.alloc (.cells (encL l) t)).heap.size = w.heap.size + 1 := by simp
  refine ⟨?_, ?_, ((Below.refl _ _).alloc (Nat.le_refl _) _).alloc (by omega) _⟩
  · rw [Below.heap_alloc _ _ _ (by omega)]
    exact heap_alloc_new _ _
  · have h := heap_alloc_new (w.alloc (.cells (encL l) t)) (.cells cs 33)
    rwa [s1] at h
theorem RoseAt.below {w w' w'' : World} {l : List Int} {cs : Array Value} {t : Nat} (H : RoseAt w l cs t w') (hb : Below w'.heap.size w' w'') : RoseAt w l cs t w'' :=
  ⟨(hb.block _ (Array.getElem?_eq_some_iff.1 H.rose).1).trans H.rose, (hb.block _ (Array.getElem?_eq_some_iff.1 H.arc).1).trans H.arc, H.bel.trans (hb.mono (below_size H.bel))⟩
theorem RoseAt.from_ {w w' : World} {l : List Int} {a b : Value} {t : Nat} (H : RoseAt w l #[a, b] t w') : w'.cell? ⟨w.heap.size + 1, 0, none⟩ = some a := by rw [cell_of_row _ _ 0 _ _ _ H.arc]; rfl
theorem RoseAt.width {w w' : World} {l : List Int} {a b : Value} {t : Nat} (H : RoseAt w l #[a, b] t w') : w'.cell? ⟨w.heap.size + 1, 1, none⟩ = some b := by rw [cell_of_row _ _ 1 _ _ _ H.arc]; rfl
theorem and_sum (f i : Nat) : bits .and .i64 ((f : Int) + (i : Int)) 31 = (((f + i) % 32 : Nat) : Int) := by rw [i64_and31]; omega
set_option maxHeartbeats 800000 in
set_option maxRecDepth 100000 in
theorem sum.walk (l : List Int) (hl : l.length = 32) (hok : roseOk l = true) (f n : Nat) (hn : n ≤ 32) (hf : f < 32) (w : World) : Calls Tryd.prog 81 #[.agg (encL l), .agg #[.int .i64 (f : Int), .int .i64 (n : Int)]] w fun e w' => e = .returned (.int .i64 (sumTo l f n)) ∧ Below w.heap.size w w' := by
  generalize hout : sumTo l f n = out
  have Hout := Lib.hid hout
  clear hout
  have HK := Lib.hid hok
  have HL := Lib.hid hl
  clear hok hl
  go_enter Tryd.func81, Tryd.ntmps81
  go_wp2
  have H0 := Lib.hid (RoseAt.new w l #[.int .i64 (f : Int), .int .i64 (n : Int)] 45)
  generalize (w.alloc (.cells (encL l) 45)).alloc (.cells #[.int .i64 (f : Int), .int .i64 (n : Int)] 33) = W0 at *
  go_loopw [5, 9] (fun v v2 w' => ∃ i : Nat, i ≤ n ∧ v = .int .i64 (sumTo l f i) ∧ v2 = .int .i64 (i : Int) ∧ RoseAt w l #[.int .i64 (f : Int), .int .i64 (n : Int)] 45 w') (fun _ v2 _ => n - (intOf v2).toNat)
  case atStart => exact ⟨0, by omega, rfl, rfl, H0.out⟩
  case round =>
    obtain ⟨i, hi, rfl, rfl, hM⟩ := hrel
    have HM := Lib.hid hM
    clear hM
    by_cases hlt : i < n
    · have hcf := HM.out.from_
      have hcell := row_cell HM.out.rose ((f + i) % 32) (by have := HL.out; omega)
      have HA := Lib.hid (fun w => show Calls Tryd.prog 64 #[.int .i64 ((f : Int) + (i : Int))] w fun e w' => e = .returned (.int .i64 (((f + i) % 32 : Nat) : Int)) ∧ w' = w from and_sum f i ▸ modulo_walk ((f : Int) + (i : Int)) w)
      have hw := IntWalk.i64_in ((f : Int) + (i : Int)) (by omega)
      have hq : (f + i) % 32 < 32 := Nat.mod_lt _ (by decide)
      have hqi : (((f + i) % 32 : Nat) : Int) < 32 := by omega
      have hr := roseOk_at HK.out hq
      have hs := sumTo_range HK.out f i
      have Hn := Lib.hid (show sumTo l f (i + 1) = sumTo l f i + rd l (((f + i) % 32 : Nat) : Int) from rfl)
      have hw2 := IntWalk.i64_in (sumTo l f i + rd l (((f + i) % 32 : Nat) : Int)) (by omega)
      clear hr hs
      generalize (f + i) % 32 = q at *
      generalize rd l (q : Int) = x at *
      generalize sumTo l f i = s at *
      go_wp2_with (first | (go_at_call 64; go_must (with_reducible refine (HA.out _).mono ?_); rintro _ _ ⟨rfl, rfl⟩))
      exact ⟨⟨i + 1, by omega, by rw [Hn.out], by go_num, HM.out⟩, by simp [intOf]; omega⟩
    · obtain rfl : i = n := by omega
      rw [Hout.out]
      go_wp2
      go_ret
      exact ⟨rfl, HM.out.bel⟩
def sumP (l : List Int) (f wd : Int) : Int × Int := if roseOk l = true then (if arcOk f wd = true then (sumTo l f.toNat wd.toNat, 0) else (0, 1)) else (0, 1)
set_option maxHeartbeats 800000 in
set_option maxRecDepth 100000 in
theorem Sum.walk (l : List Int) (hl : l.length = 32) (f wd : Int) (w : World) : Calls Tryd.prog 36 #[.agg (encL l), .agg #[.int .i64 f, .int .i64 wd]] w fun e w' => e = .returned (.tuple #[.int .i64 (sumP l f wd).1, .int .i64 (sumP l f wd).2]) ∧ Below w.heap.size w w' := by
  have HR := Lib.hid (fun w => isRose.walk l hl w)
  have HV := Lib.hid (fun w => wind_ValidateArc.calls f wd _ w (validateArc_eq f wd))
  have HI := Lib.hid (show (Tryd.prog.info? 33).map (·.size) = some (#[Value.int .i64 f, .int .i64 wd] : Array Value).size by kernel_rfl)
  have HI45 := Lib.hid (show (Tryd.prog.info? 45).map (·.size) = some (encL l).size by rw [encL_size, hl]; exact info45)
  by_cases h1 : roseOk l = true
  · by_cases h2 : arcOk f wd = true
    · have he : sumP l f wd = (sumTo l f.toNat wd.toNat, 0) := by unfold sumP; rw [if_pos h1, if_pos h2]
      rw [he]
      have hr := of_decide_eq_true h2
      obtain ⟨p, rfl⟩ := Int.eq_ofNat_of_zero_le hr.1.1
      obtain ⟨n, rfl⟩ := Int.eq_ofNat_of_zero_le (show 0 ≤ wd by omega)
      have HS := Lib.hid (fun w => sum.walk l hl h1 p n (by omega) (by omega) w)
      rw [Int.toNat_natCast, Int.toNat_natCast]
      rw [h1] at HR
      rw [if_pos h2] at HV
      clear he h1 h2 hr hl
      generalize sumTo l p n = s at *
      have H00 := Lib.hid (RoseAt.new w l #[.int .i64 (p : Int), .int .i64 (n : Int)] 45)
      go_enter Tryd.func36, Tryd.ntmps36
      go_wp2_with (first | (refine wpList_load_row (o := ⟨some 6, _, _, _, _, _⟩) rfl 45 (.tmp 2) rfl w.heap.size rfl 45 (encL l) (0, 0) _ H00.out.rose Tryd.underlying45 rfl HI45.out ?_) | (go_at_call 80; go_must (with_reducible refine (HR.out _).mono ?_); rintro _ w1 ⟨rfl, hb1⟩; have HM1 := Lib.hid ((RoseAt.new w l #[.int .i64 (p : Int), .int .i64 (n : Int)] 45).below hb1); have hc0 := HM1.out.from_; have hc1 := HM1.out.width; clear hb1) | (go_at_call 27; go_must (with_reducible refine (HV.out _).mono ?_); rintro _ w2 ⟨rfl, hb2⟩; have HM2 := Lib.hid (HM1.out.below hb2); clear hb2) | (go_at_call 81; go_must (with_reducible refine (HS.out _).mono ?_); rintro _ w3 ⟨rfl, hb3⟩; have HM3 := Lib.hid (HM2.out.below hb3); clear hb3) | (refine wpList_load_row (o := ⟨some 14, _, _, _, _, _⟩) rfl 45 (.tmp 2) rfl w.heap.size rfl 45 (encL l) (0, 0) _ HM2.out.rose Tryd.underlying45 rfl HI45.out ?_) | (refine wpList_load_row (o := ⟨some 15, _, _, _, _, _⟩) rfl 33 (.tmp 3) rfl (w.heap.size + 1) rfl 33 #[.int .i64 (p : Int), .int .i64 (n : Int)] (0, 0) _ HM2.out.arc Tryd.underlying33 rfl HI.out ?_))
      go_ret2
      exact ⟨rfl, HM3.out.bel⟩
    · have he : sumP l f wd = (0, 1) := by unfold sumP; rw [if_pos h1, if_neg h2]
      rw [he]
      rw [h1] at HR
      rw [if_neg h2] at HV
      clear he h1 h2 hl
      have H00 := Lib.hid (RoseAt.new w l #[.int .i64 f, .int .i64 wd] 45)
      go_enter Tryd.func36, Tryd.ntmps36
      go_wp2_with (first | (refine wpList_load_row (o := ⟨some 6, _, _, _, _, _⟩) rfl 45 (.tmp 2) rfl w.heap.size rfl 45 (encL l) (0, 0) _ H00.out.rose Tryd.underlying45 rfl HI45.out ?_) | (go_at_call 80; go_must (with_reducible refine (HR.out _).mono ?_); rintro _ w1 ⟨rfl, hb1⟩; have HM1 := Lib.hid ((RoseAt.new w l #[.int .i64 f, .int .i64 wd] 45).below hb1); have hc0 := HM1.out.from_; have hc1 := HM1.out.width; clear hb1) | (go_at_call 27; go_must (with_reducible refine (HV.out _).mono ?_); rintro _ w2 ⟨rfl, hb2⟩; have HM2 := Lib.hid (HM1.out.below hb2); clear hb2))
      go_ret2
      exact ⟨rfl, HM2.out.bel⟩
  · have he : sumP l f wd = (0, 1) := by unfold sumP; rw [if_neg h1]
    rw [he]
    rw [Bool.eq_false_iff.mpr h1] at HR
    clear he h1 hl
    have H00 := Lib.hid (RoseAt.new w l #[.int .i64 f, .int .i64 wd] 45)
    go_enter Tryd.func36, Tryd.ntmps36
    go_wp2_with (first | (refine wpList_load_row (o := ⟨some 6, _, _, _, _, _⟩) rfl 45 (.tmp 2) rfl w.heap.size rfl 45 (encL l) (0, 0) _ H00.out.rose Tryd.underlying45 rfl HI45.out ?_) | (go_at_call 80; go_must (with_reducible refine (HR.out _).mono ?_); rintro _ w1 ⟨rfl, hb1⟩; have HM1 := Lib.hid ((RoseAt.new w l #[.int .i64 f, .int .i64 wd] 45).below hb1); clear hb1))
    go_ret2
    exact ⟨rfl, HM1.out.bel⟩

end Go.Proofs.YthihlapmkcelpaaDoor.Q
