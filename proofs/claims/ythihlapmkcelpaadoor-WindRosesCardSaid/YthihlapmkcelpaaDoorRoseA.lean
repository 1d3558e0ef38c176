/- Roses of winds: the reference's roseOK, sum and Sum walked, and that its sum is the program's. For all roses and arcs. -/
import Derived.Test.YthihlapmkcelpaaDoorProg
import Derived.Below
import Derived.Deep.Draws
import Derived.Deep.AppendLies
import Derived.Maps.AppendAt
import Derived.OwnWalk
import Derived.Laws.BytesArg
import Derived.Laws.MakeOwn
import Derived.Laws.OwnMore
import Derived.Deep.OwnRows
import Derived.Tactics
import Derived.Lib.ConvBytes
import Derived.Laws.Slices
import Derived.WalkKit
import Derived.KernelRfl
import Derived.RowKit3
import Derived.Deep.LoopGhost
import Derived.Deep.QuietTactic
import Derived.BigQuiet
import Derived.WideLaws
import Derived.Deep.DeepCutAuto
import Derived.Deep.CutBlock
import Derived.Deep.RegionHeld3
import Derived.Laws.Rows
import Derived.Lib.AppendStr
import Derived.ArgAppend
import Derived.Laws.IdiomCopy
import Derived.OrdersHeld
import Derived.Laws.BitsLemmas
import Derived.RowKit
import Derived.Deep.DeepMust
import Derived.Deep.RegionWith
import Derived.IntWalk
import Derived.Laws.Bits64
import Derived.Laws.BitsAllLaws
import Derived.Laws.CopyOwn
import Derived.Laws.EntriesVeiled
import Derived.Laws.Tables
import Derived.Lib.Hide
import Derived.Lib.LaidTab
import Derived.Outline
import Derived.StillTailTactics
import Derived.Test.YthihlapmkcelpaaDoorShelf
import Derived.Test.YthihlapmkcelpaaDoorWWords
import Derived.Test.YthihlapmkcelpaaDoorWLast
import Derived.Test.YthihlapmkcelpaaDoorWTab
import Derived.Test.YthihlapmkcelpaaDoorWFour
import Derived.Test.YthihlapmkcelpaaDoorWQPut
import Derived.Test.YthihlapmkcelpaaDoorWApart
import Derived.Test.YthihlapmkcelpaaDoorWArr
import Derived.Test.YthihlapmkcelpaaDoorWZeros
import Derived.Test.YthihlapmkcelpaaDoorWFoot
import Derived.Test.YthihlapmkcelpaaDoorWKept
import Derived.Test.YthihlapmkcelpaaDoorWShare
import Derived.Test.YthihlapmkcelpaaDoorWN
import Derived.Test.YthihlapmkcelpaaDoorWFootNe
import Derived.Test.YthihlapmkcelpaaDoorWAt
import Derived.Test.YthihlapmkcelpaaDoorWEqStruct
import Derived.Test.YthihlapmkcelpaaDoorWRepsOne
import Derived.Test.YthihlapmkcelpaaDoorWInv
import Derived.Test.YthihlapmkcelpaaDoorWInvWords
import Derived.Test.YthihlapmkcelpaaDoorWGuard
import Derived.Test.YthihlapmkcelpaaDoorWNEv
import Derived.Test.YthihlapmkcelpaaDoorWMore
import Derived.Outline
import Derived.Lib.Hide
import Derived.Deep.DeepMust
import Derived.Deep.RegionWith
import Derived.IntWalk
import Derived.Laws.Tables
import Derived.Laws.BitsAllLaws
import Derived.Laws.CopyOwn
import Derived.StillTailTactics
import Derived.Laws.EntriesVeiled
import Derived.Test.YthihlapmkcelpaaDoorShelf
import Derived.Test.YthihlapmkcelpaaDoorQx2
import Derived.Test.YthihlapmkcelpaaDoorQx12
import Derived.Test.YthihlapmkcelpaaDoorRose
import Derived.Test.YthihlapmkcelpaaDoorQx90
namespace Go.Proofs.YthihlapmkcelpaaDoor.Q
open Go.RowKit Go.Proofs.YthihlapmkcelpaaDoorW.PrintWords Go.Proofs.YthihlapmkcelpaaDoorW.PrintLast Go.Proofs.YthihlapmkcelpaaDoorW.PrintMore
set_option linter.unusedVariables false
set_option linter.unusedSimpArgs false

theorem idxF_clear {h : Int → Bool} {l : List Int} (d : Nat) : ∀ i, (∀ j, i ≤ j → j < i + d → h (rd l (j : Int)) = false) → idxF h l i d < 0 := by
  induction d with
  | zero => intro i _; show (-1 : Int) < 0; omega
  | succ d ih =>
    intro i hall
    unfold idxF
    rw [if_neg (by rw [hall i (by omega) (by omega)]; decide)]
    exact ih (i + 1) fun j h1 h2 => hall j (by omega) (by omega)
theorem rose_of_all {l : List Int} (h : ∀ j : Nat, j < 32 → 0 ≤ rd l (j : Int) ∧ rd l (j : Int) ≤ 10000) : roseOk l = true := by
  unfold roseOk
  rw [Bool.not_eq_true']
  refine decide_eq_false ?_
  have h1 := idxF_clear (h := badRose) (l := l) 32 0 fun j _ hj => by
    unfold badRose
    rw [decide_eq_true (h j (by omega))]
    rfl
  omega
set_option maxHeartbeats 800000 in
set_option maxRecDepth 100000 in
theorem refRose.walk (l : List Int) (hl : l.length = 32) (w : World) : Calls Tryd.prog 89 #[.agg (encL l)] w fun e w' => e = .returned (.int .i64 (if roseOk l = true then 0 else 1)) ∧ Below w.heap.size w w' := by
  generalize hout : (if roseOk l = true then (0 : Int) else 1) = out
  have Hout := Lib.hid hout
  clear hout
  have HL := Lib.hid hl
  clear hl
  go_enter Tryd.func89, Tryd.ntmps89
  go_wp2
  have HB := Lib.hid ((Below.refl w.heap.size w).alloc (Nat.le_refl _) (.cells (encL l) 45))
  have HG := Lib.hid (heap_alloc_new w (.cells (encL l) 45))
  generalize w.alloc (.cells (encL l) 45) = W0 at *
  go_loopw [3] (fun v w' => ∃ i : Nat, i ≤ 32 ∧ v = .int .i64 (i : Int) ∧ (∀ j : Nat, j < i → 0 ≤ rd l (j : Int) ∧ rd l (j : Int) ≤ 10000) ∧ w' = W0) (fun v _ => 32 - (intOf v).toNat)
  case atStart => exact ⟨0, by omega, rfl, fun j hj => absurd hj (Nat.not_lt_zero _), rfl⟩
  case round =>
    obtain ⟨i, hi, rfl, hall, rfl⟩ := hrel
    have HA := Lib.hid hall
    clear hall
    by_cases hlt : i < 32
    · have hcell := row_cell HG.out i (by have := HL.out; omega)
      have hqi : (i : Int) < 32 := by omega
      by_cases hn : rd l (i : Int) < 0
      · have Hr := Lib.hid (show out = 1 by rw [← Hout.out]; exact if_neg fun h => by have := roseOk_at h (j := i) hlt; omega)
        have hd1 : decide (rd l (i : Int) < 0) = true := decide_eq_true hn
        generalize rd l (i : Int) = x at *
        go_wp2
        go_ret
        exact ⟨by rw [Hr.out]; rfl, HB.out⟩
      · by_cases hm : 10000 < rd l (i : Int)
        · have Hr := Lib.hid (show out = 1 by rw [← Hout.out]; exact if_neg fun h => by have := roseOk_at h (j := i) hlt; omega)
          have hd1 : decide (rd l (i : Int) < 0) = false := decide_eq_false hn
          have hd2 : decide (rd l (i : Int) > 10000) = true := decide_eq_true hm
          generalize rd l (i : Int) = x at *
          go_wp2
          go_ret
          exact ⟨by rw [Hr.out]; rfl, HB.out⟩
        · have Hn := Lib.hid (show ∀ j : Nat, j < i + 1 → 0 ≤ rd l (j : Int) ∧ rd l (j : Int) ≤ 10000 from fun j hj => by
            by_cases e : j = i
            · subst e; exact ⟨by omega, by omega⟩
            · exact HA.out j (by omega))
          have hd1 : decide (rd l (i : Int) < 0) = false := decide_eq_false hn
          have hd2 : decide (rd l (i : Int) > 10000) = false := decide_eq_false hm
          generalize rd l (i : Int) = x at *
          go_wp2
          exact ⟨⟨i + 1, by omega, by go_num, Hn.out, trivial⟩, by simp [intOf]; omega⟩
    · obtain rfl : i = 32 := by omega
      have Hr := Lib.hid (show out = 0 by rw [← Hout.out]; exact if_pos (rose_of_all HA.out))
      go_wp2
      go_ret
      exact ⟨by rw [Hr.out]; rfl, HB.out⟩
def rsumTo (l : List Int) (f : Nat) (wd : Int) : Nat → Int
  | 0 => 0
  | p + 1 => rsumTo l f wd p + (if inArc f wd p = true then rd l (p : Int) else 0)
theorem rsumTo_range {l : List Int} (h : roseOk l = true) (f : Nat) (wd : Int) : ∀ n, n ≤ 32 → 0 ≤ rsumTo l f wd n ∧ rsumTo l f wd n ≤ 10000 * n := by
  intro n
  induction n with
  | zero => intro _; exact ⟨by show (0 : Int) ≤ 0; omega, by show (0 : Int) ≤ 10000 * ((0 : Nat) : Int); omega⟩
  | succ n ih =>
    intro hn
    have h1 := ih (by omega)
    have hr := roseOk_at h (j := n) (by omega)
    unfold rsumTo
    split <;> omega
set_option maxHeartbeats 800000 in
set_option maxRecDepth 100000 in
theorem refsum.walk (l : List Int) (hl : l.length = 32) (hok : roseOk l = true) (f : Nat) (wd : Int) (hf : f < 32) (w : World) : Calls Tryd.prog 90 #[.agg (encL l), .agg #[.int .i64 (f : Int), .int .i64 wd]] w fun e w' => e = .returned (.int .i64 (rsumTo l f wd 32)) ∧ Below w.heap.size w w' := by
  generalize hout : rsumTo l f wd 32 = out
  have Hout := Lib.hid hout
  clear hout
  have HK := Lib.hid hok
  have HL := Lib.hid hl
  have HI := Lib.hid (show (Tryd.prog.info? 33).map (·.size) = some (#[Value.int .i64 (f : Int), .int .i64 wd] : Array Value).size by kernel_rfl)
  clear hok hl
  go_enter Tryd.func90, Tryd.ntmps90
  go_wp2
  have H0 := Lib.hid (RoseAt.new w l #[.int .i64 (f : Int), .int .i64 wd] 45)
  generalize (w.alloc (.cells (encL l) 45)).alloc (.cells #[.int .i64 (f : Int), .int .i64 wd] 33) = W0 at *
  go_loopw [5, 6] (fun v v2 w' => ∃ p : Nat, p ≤ 32 ∧ v = .int .i64 (rsumTo l f wd p) ∧ v2 = .int .i64 (p : Int) ∧ RoseAt w l #[.int .i64 (f : Int), .int .i64 wd] 45 w') (fun _ v2 _ => 32 - (intOf v2).toNat)
  case atStart => exact ⟨0, by omega, rfl, rfl, H0.out⟩
  case round =>
    obtain ⟨p, hp, rfl, rfl, hM⟩ := hrel
    have HM := Lib.hid hM
    clear hM
    by_cases hlt : p < 32
    · have hqi : (p : Int) < 32 := by omega
      have hr := roseOk_at HK.out (j := p) hlt
      have hs := rsumTo_range HK.out f wd p hp
      have hw2 := IntWalk.i64_in (rsumTo l f wd p + rd l (p : Int)) (by omega)
      clear hr hs
      by_cases hb : inArc f wd p = true
      · have HA := Lib.hid (fun w => wigeonref03_has.calls (f : Int) wd (p : Int) true w (by rw [refHas_eq wd hf hlt, hb]))
        have Hn := Lib.hid (show rsumTo l f wd (p + 1) = rsumTo l f wd p + rd l (p : Int) by unfold rsumTo; rw [if_pos hb]; cases p <;> rfl)
        generalize hx : rd l (p : Int) = x at *
        generalize rsumTo l f wd p = s at *
        go_wp2_with (first | (refine wpList_load_row rfl 33 (.tmp 3) rfl (w.heap.size + 1) rfl 33 #[.int .i64 (f : Int), .int .i64 wd] (0, 0) _ HM.out.arc Tryd.underlying33 rfl HI.out ?_) | (go_at_call 73; go_must (with_reducible refine (HA.out _).mono ?_); rintro _ w1 ⟨rfl, hb1⟩; have HM1 := Lib.hid (HM.out.below hb1); clear hb1; have hcell := row_cell HM1.out.rose p (by have := HL.out; omega); rw [hx] at hcell))
        exact ⟨⟨p + 1, by omega, by rw [Hn.out], by go_num, HM1.out⟩, by simp [intOf]; omega⟩
      · have HA := Lib.hid (fun w => wigeonref03_has.calls (f : Int) wd (p : Int) false w (by rw [refHas_eq wd hf hlt, Bool.eq_false_iff.mpr hb]))
        have Hn := Lib.hid (show rsumTo l f wd (p + 1) = rsumTo l f wd p by rw [show rsumTo l f wd (p + 1) = rsumTo l f wd p + (if inArc f wd p = true then rd l (p : Int) else 0) from rfl, if_neg hb, Int.add_zero])
        generalize rsumTo l f wd p = s at *
        go_wp2_with (first | (refine wpList_load_row rfl 33 (.tmp 3) rfl (w.heap.size + 1) rfl 33 #[.int .i64 (f : Int), .int .i64 wd] (0, 0) _ HM.out.arc Tryd.underlying33 rfl HI.out ?_) | (go_at_call 73; go_must (with_reducible refine (HA.out _).mono ?_); rintro _ w1 ⟨rfl, hb1⟩; have HM1 := Lib.hid (HM.out.below hb1); clear hb1))
        exact ⟨⟨p + 1, by omega, by rw [Hn.out], by go_num, HM1.out⟩, by simp [intOf]; omega⟩
    · obtain rfl : p = 32 := by omega
      rw [Hout.out]
      go_wp2
      go_ret
      exact ⟨rfl, HM.out.bel⟩
theorem rd_map (h : Nat → Int) (p : Nat) (hp : p < 32) : rd ((List.range 32).map h) (p : Int) = h p := by
  unfold rd
  rw [Int.toNat_natCast, List.getD_eq_getElem?_getD, List.getElem?_map, List.getElem?_range hp]
  rfl
theorem rsum_eq (l : List Int) {f wd : Nat} (hf : f < 32) (hwd : wd ≤ 32) : rsumTo l f (wd : Int) 32 = sumTo l f wd := by
  obtain ⟨l', hl'⟩ : ∃ l', l' = (List.range 32).map (fun p => if inArc f (wd : Int) p = true then rd l (p : Int) else 0) := ⟨_, rfl⟩
  have hrd : ∀ p : Nat, p < 32 → rd l' (p : Int) = if inArc f (wd : Int) p = true then rd l (p : Int) else 0 := fun p hp => by rw [hl', rd_map _ p hp]
  have h1 : ∀ n, n ≤ 32 → rsumTo l f (wd : Int) n = sumTo l' 0 n := by
    intro n
    induction n with
    | zero => intro _; rfl
    | succ n ih =>
      intro hn
      show rsumTo l f (wd : Int) n + _ = sumTo l' 0 n + rd l' (((0 + n) % 32 : Nat) : Int)
      rw [ih (by omega), show (0 + n) % 32 = n by omega, hrd n (by omega)]
  have h2 : ∀ n, n ≤ wd → sumTo l' f n = sumTo l f n := by
    intro n
    induction n with
    | zero => intro _; rfl
    | succ n ih =>
      intro hn
      show sumTo l' f n + rd l' (((f + n) % 32 : Nat) : Int) = sumTo l f n + rd l (((f + n) % 32 : Nat) : Int)
      rw [ih (by omega), hrd _ (by omega), if_pos (by unfold inArc; exact decide_eq_true (by omega))]
  have h3 : ∀ n, wd + n ≤ 32 → sumTo l' f (wd + n) = sumTo l' f wd := by
    intro n
    induction n with
    | zero => intro _; rfl
    | succ n ih =>
      intro hn
      show sumTo l' f (wd + n) + rd l' (((f + (wd + n)) % 32 : Nat) : Int) = sumTo l' f wd
      rw [ih (by omega), hrd _ (by omega), if_neg (by unfold inArc; simp only [decide_eq_true_eq]; omega), Int.add_zero]
  rw [h1 32 (by omega), ← sumTo_round l' hf, show 32 = wd + (32 - wd) by omega, h3 (32 - wd) (by omega), h2 wd (by omega)]
set_option maxHeartbeats 800000 in
set_option maxRecDepth 100000 in
theorem refSum.walk (l : List Int) (hl : l.length = 32) (f wd : Int) (w : World) : Calls Tryd.prog 43 #[.agg (encL l), .agg #[.int .i64 f, .int .i64 wd]] w fun e w' => e = .returned (.tuple #[.int .i64 (sumP l f wd).1, .int .i64 (sumP l f wd).2]) ∧ Below w.heap.size w w' := by
  have HR := Lib.hid (fun w => refRose.walk l hl w)
  have HV := Lib.hid (fun w => wigeonref03_ValidateArc.calls f wd _ w (refArc_eq f wd))
  have HI := Lib.hid (show (Tryd.prog.info? 33).map (·.size) = some (#[Value.int .i64 f, .int .i64 wd] : Array Value).size by kernel_rfl)
  have HI45 := Lib.hid (show (Tryd.prog.info? 45).map (·.size) = some (encL l).size by rw [encL_size, hl]; exact info45)
  have H00 := Lib.hid (RoseAt.new w l #[.int .i64 f, .int .i64 wd] 45)
  by_cases h2 : arcOk f wd = true
  · rw [if_pos h2] at HV
    by_cases h1 : roseOk l = true
    · have hr := of_decide_eq_true h2
      obtain ⟨p, rfl⟩ := Int.eq_ofNat_of_zero_le hr.1.1
      obtain ⟨n, rfl⟩ := Int.eq_ofNat_of_zero_le (show 0 ≤ wd by omega)
      have he : sumP l (p : Int) (n : Int) = (rsumTo l p (n : Int) 32, 0) := by unfold sumP; rw [if_pos h1, if_pos h2, Int.toNat_natCast, Int.toNat_natCast, rsum_eq l (by omega) (by omega)]
      rw [he]
      have HS := Lib.hid (fun w => refsum.walk l hl h1 p (n : Int) (by omega) w)
      rw [if_pos h1] at HR
      clear he h1 h2 hr hl
      generalize rsumTo l p (n : Int) 32 = s at *
      go_enter Tryd.func43, Tryd.ntmps43
      go_wp2_with (first | (refine wpList_load_row (o := ⟨some 8, _, _, _, _, _⟩) rfl 33 (.tmp 3) rfl (w.heap.size + 1) rfl 33 #[.int .i64 (p : Int), .int .i64 (n : Int)] (0, 0) _ H00.out.arc Tryd.underlying33 rfl HI.out ?_) | (go_at_call 28; go_must (with_reducible refine (HV.out _).mono ?_); rintro _ w1 ⟨rfl, hb1⟩; have HM1 := Lib.hid (H00.out.below hb1); clear hb1) | (refine wpList_load_row (o := ⟨some 13, _, _, _, _, _⟩) rfl 45 (.tmp 2) rfl w.heap.size rfl 45 (encL l) (0, 0) _ HM1.out.rose Tryd.underlying45 rfl HI45.out ?_) | (go_at_call 89; go_must (with_reducible refine (HR.out _).mono ?_); rintro _ w2 ⟨rfl, hb2⟩; have HM2 := Lib.hid (HM1.out.below hb2); clear hb2) | (refine wpList_load_row (o := ⟨some 18, _, _, _, _, _⟩) rfl 45 (.tmp 2) rfl w.heap.size rfl 45 (encL l) (0, 0) _ HM2.out.rose Tryd.underlying45 rfl HI45.out ?_) | (refine wpList_load_row (o := ⟨some 19, _, _, _, _, _⟩) rfl 33 (.tmp 3) rfl (w.heap.size + 1) rfl 33 #[.int .i64 (p : Int), .int .i64 (n : Int)] (0, 0) _ HM2.out.arc Tryd.underlying33 rfl HI.out ?_) | (go_at_call 90; go_must (with_reducible refine (HS.out _).mono ?_); rintro _ w3 ⟨rfl, hb3⟩; have HM3 := Lib.hid (HM2.out.below hb3); clear hb3))
      go_ret2
      exact ⟨rfl, HM3.out.bel⟩
    · have he : sumP l f wd = (0, 1) := by unfold sumP; rw [if_neg h1]
      rw [he]
      rw [if_neg h1] at HR
      clear he h1 h2 hl
      go_enter Tryd.func43, Tryd.ntmps43
      go_wp2_with (first | (refine wpList_load_row (o := ⟨some 8, _, _, _, _, _⟩) rfl 33 (.tmp 3) rfl (w.heap.size + 1) rfl 33 #[.int .i64 f, .int .i64 wd] (0, 0) _ H00.out.arc Tryd.underlying33 rfl HI.out ?_) | (go_at_call 28; go_must (with_reducible refine (HV.out _).mono ?_); rintro _ w1 ⟨rfl, hb1⟩; have HM1 := Lib.hid (H00.out.below hb1); clear hb1) | (refine wpList_load_row (o := ⟨some 13, _, _, _, _, _⟩) rfl 45 (.tmp 2) rfl w.heap.size rfl 45 (encL l) (0, 0) _ HM1.out.rose Tryd.underlying45 rfl HI45.out ?_) | (go_at_call 89; go_must (with_reducible refine (HR.out _).mono ?_); rintro _ w2 ⟨rfl, hb2⟩; have HM2 := Lib.hid (HM1.out.below hb2); clear hb2))
      go_ret2
      exact ⟨rfl, HM2.out.bel⟩
  · have he : sumP l f wd = (0, 1) := by
      unfold sumP
      by_cases h1 : roseOk l = true
      · rw [if_pos h1, if_neg h2]
      · rw [if_neg h1]
    rw [he]
    rw [if_neg h2] at HV
    clear he h2 hl
    go_enter Tryd.func43, Tryd.ntmps43
    go_wp2_with (first | (refine wpList_load_row (o := ⟨some 8, _, _, _, _, _⟩) rfl 33 (.tmp 3) rfl (w.heap.size + 1) rfl 33 #[.int .i64 f, .int .i64 wd] (0, 0) _ H00.out.arc Tryd.underlying33 rfl HI.out ?_) | (go_at_call 28; go_must (with_reducible refine (HV.out _).mono ?_); rintro _ w1 ⟨rfl, hb1⟩; have HM1 := Lib.hid (H00.out.below hb1); clear hb1))
    go_ret2
    exact ⟨rfl, HM1.out.bel⟩

end Go.Proofs.YthihlapmkcelpaaDoor.Q
