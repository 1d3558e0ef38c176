/- The law WindNames walked: that it returns true for all numbers and texts, in a world with the table of spaces. -/
import Derived.Test.YthihlapmkcelpaaDoorProg
import Derived.Below
import Derived.Deep.Draws
import Derived.Deep.AppendLies
import Derived.Maps.AppendAt
import Derived.OwnWalk
import Derived.Laws.BytesArg
import Derived.Laws.MakeOwn
import Derived.Laws.OwnMore
import Derived.Deep.OwnRows
import Derived.Tactics
import Derived.Lib.ConvBytes
import Derived.Laws.Slices
import Derived.WalkKit
import Derived.KernelRfl
import Derived.RowKit3
import Derived.Deep.LoopGhost
import Derived.Deep.QuietTactic
import Derived.BigQuiet
import Derived.WideLaws
import Derived.Deep.DeepCutAuto
import Derived.Deep.CutBlock
import Derived.Deep.RegionHeld3
import Derived.Laws.Rows
import Derived.Lib.AppendStr
import Derived.ArgAppend
import Derived.Laws.IdiomCopy
import Derived.OrdersHeld
import Derived.Laws.BitsLemmas
import Derived.RowKit
import Derived.Deep.DeepMust
import Derived.Deep.RegionWith
import Derived.IntWalk
import Derived.Laws.Bits64
import Derived.Laws.BitsAllLaws
import Derived.Laws.CopyOwn
import Derived.Laws.EntriesVeiled
import Derived.Laws.Tables
import Derived.Lib.Hide
import Derived.Lib.LaidTab
import Derived.Outline
import Derived.StillTailTactics
import Derived.Test.YthihlapmkcelpaaDoorShelf
import Derived.Test.YthihlapmkcelpaaDoorWWords
import Derived.Test.YthihlapmkcelpaaDoorWLast
import Derived.Test.YthihlapmkcelpaaDoorWTab
import Derived.Test.YthihlapmkcelpaaDoorWFour
import Derived.Test.YthihlapmkcelpaaDoorWQPut
import Derived.Test.YthihlapmkcelpaaDoorWApart
import Derived.Test.YthihlapmkcelpaaDoorWArr
import Derived.Test.YthihlapmkcelpaaDoorWZeros
import Derived.Test.YthihlapmkcelpaaDoorWFoot
import Derived.Test.YthihlapmkcelpaaDoorWKept
import Derived.Test.YthihlapmkcelpaaDoorWShare
import Derived.Test.YthihlapmkcelpaaDoorWN
import Derived.Test.YthihlapmkcelpaaDoorWFootNe
import Derived.Test.YthihlapmkcelpaaDoorWAt
import Derived.Test.YthihlapmkcelpaaDoorWEqStruct
import Derived.Test.YthihlapmkcelpaaDoorWRepsOne
import Derived.Test.YthihlapmkcelpaaDoorWInv
import Derived.Test.YthihlapmkcelpaaDoorWInvWords
import Derived.Test.YthihlapmkcelpaaDoorWGuard
import Derived.Test.YthihlapmkcelpaaDoorWNEv
import Derived.Test.YthihlapmkcelpaaDoorWMore
import Derived.Outline
import Derived.Lib.Hide
import Derived.Deep.DeepMust
import Derived.Deep.RegionWith
import Derived.IntWalk
import Derived.Laws.Tables
import Derived.Laws.BitsAllLaws
import Derived.Laws.CopyOwn
import Derived.StillTailTactics
import Derived.Laws.EntriesVeiled
import Derived.Test.YthihlapmkcelpaaDoorShelf
import Derived.Test.YthihlapmkcelpaaDoorQx2
import Derived.Test.YthihlapmkcelpaaDoorNameA
namespace Go.Proofs.YthihlapmkcelpaaDoor.Q
open Go.RowKit Go.Proofs.YthihlapmkcelpaaDoorW.PrintWords Go.Proofs.YthihlapmkcelpaaDoorW.PrintLast Go.Proofs.YthihlapmkcelpaaDoorW.PrintMore
set_option linter.unusedVariables false
set_option linter.unusedSimpArgs false

theorem index_name : ∀ (n : Nat) (_ : n < 32) (w : World), (Instr.index 70 (.agg (encF allN)) (.int .i64 (n : Int))).run Tryd.prog w = .ok (.string (nameAt n)) w
  | 0, _, w => by kernel_rfl
  | 1, _, w => by kernel_rfl
  | 2, _, w => by kernel_rfl
  | 3, _, w => by kernel_rfl
  | 4, _, w => by kernel_rfl
  | 5, _, w => by kernel_rfl
  | 6, _, w => by kernel_rfl
  | 7, _, w => by kernel_rfl
  | 8, _, w => by kernel_rfl
  | 9, _, w => by kernel_rfl
  | 10, _, w => by kernel_rfl
  | 11, _, w => by kernel_rfl
  | 12, _, w => by kernel_rfl
  | 13, _, w => by kernel_rfl
  | 14, _, w => by kernel_rfl
  | 15, _, w => by kernel_rfl
  | 16, _, w => by kernel_rfl
  | 17, _, w => by kernel_rfl
  | 18, _, w => by kernel_rfl
  | 19, _, w => by kernel_rfl
  | 20, _, w => by kernel_rfl
  | 21, _, w => by kernel_rfl
  | 22, _, w => by kernel_rfl
  | 23, _, w => by kernel_rfl
  | 24, _, w => by kernel_rfl
  | 25, _, w => by kernel_rfl
  | 26, _, w => by kernel_rfl
  | 27, _, w => by kernel_rfl
  | 28, _, w => by kernel_rfl
  | 29, _, w => by kernel_rfl
  | 30, _, w => by kernel_rfl
  | 31, _, w => by kernel_rfl
  | n + 32, h, _ => absurd h (by omega)
theorem bytes_ne {a b : ByteArray} (h : a ≠ b) : (a.toList == b.toList) = false := by
  rw [ByteArray.toList_eq, ByteArray.toList_eq, beq_eq_false_iff_ne]
  intro e
  apply h
  cases a; cases b
  simpa using e
theorem allN_get (p : Nat) (h : p < 32) : (encF allN)[p]? = some (.string (nameAt p)) := encF_get allN p h
theorem refIsPoint_eq (p : Int) : wigeonref03_isPoint.f p = some (decide (0 ≤ p ∧ p ≤ 31)) := by
  unfold wigeonref03_isPoint.f
  by_cases h : p ≥ 0
  · rw [if_pos h]
    congr 1
    rw [decide_eq_decide]
    omega
  · rw [if_neg h, decide_eq_false (by omega)]
set_option maxHeartbeats 1600000 in
set_option maxRecDepth 100000 in
theorem refName.walk (p : Int) (w : World) : Calls Tryd.prog 18 #[.int .i64 p] w fun e w' => e = .returned (.tuple #[.string (nameP p).1, .int .i64 (nameP p).2]) ∧ Below w.heap.size w w' := by
  have HP := Lib.hid (fun w => wigeonref03_isPoint.calls p _ w (refIsPoint_eq p))
  have HN := Lib.hid (fun w => ref_names.walk w)
  by_cases h : 0 ≤ p ∧ p ≤ 31
  · have he : nameP p = (nameAt p.toNat, 0) := by unfold nameP; rw [if_pos h]
    rw [he]
    rw [decide_eq_true h] at HP
    obtain ⟨n, rfl⟩ := Int.eq_ofNat_of_zero_le h.1
    have hn : n < 32 := by omega
    have hn2 : (n : Int) < 32 := by omega
    rw [Int.toNat_natCast] at he ⊢
    clear he h
    have hget := index_name n hn
    generalize nameAt n = s at *
    generalize encF allN = cs at *
    go_enter Tryd.func18, Tryd.ntmps18
    go_wp2_with (first | (go_at_call 59; go_must (with_reducible refine (HP.out _).mono ?_); rintro _ w1 ⟨rfl, hd⟩; have HB1 : Hid (Below w.heap.size w w1) := Lib.hid (by obtain ⟨nd, rfl⟩ := hd; exact pw_below_drewN (Below.refl _ _) nd); clear hd) | (go_at_call 60; go_must (with_reducible refine (HN.out _).mono ?_); rintro _ w2 ⟨rfl, hb2⟩; have HB2 := Lib.hid (HB1.out.trans (hb2.mono (below_size HB1.out))); clear hb2))
    go_ret2
    exact ⟨rfl, HB2.out⟩
  · have he : nameP p = (⟨#[]⟩, 1) := by unfold nameP; rw [if_neg h]
    rw [he]
    rw [decide_eq_false h] at HP
    clear he h
    go_enter Tryd.func18, Tryd.ntmps18
    go_wp2_with (first | (go_at_call 59; go_must (with_reducible refine (HP.out _).mono ?_); rintro _ w1 ⟨rfl, hd⟩; have HB1 : Hid (Below w.heap.size w w1) := Lib.hid (by obtain ⟨nd, rfl⟩ := hd; exact pw_below_drewN (Below.refl _ _) nd); clear hd))
    go_ret2
    exact ⟨rfl, HB1.out⟩
theorem idxName_hit (s : ByteArray) (k : Nat) (hk : k < 32) (h : nameAt k = s) (hne : ∀ j, j < k → nameAt j ≠ s) : pointP s = ((k : Int), 0) := by
  have h1 := Lib.idxOfS_hit nameBs 32 k s hk (by decide) (by rw [nameBs_get k hk]; exact h) (fun j hj => by rw [nameBs_get j (by omega)]; exact hne j hj)
  have ht : nameBs.take 32 = nameBs := List.take_of_length_le (show nameBs.length ≤ 32 by decide)
  rw [ht] at h1
  unfold pointP
  rw [show idxName s = (k : Int) from h1, if_neg (by omega)]
theorem idxName_miss (s : ByteArray) (hne : ∀ j, j < 32 → nameAt j ≠ s) : pointP s = (0, 2) := by
  have h1 := Lib.idxOfS_miss nameBs 32 s (fun j hj => by rw [nameBs_get j hj]; exact hne j hj)
  have ht : nameBs.take 32 = nameBs := List.take_of_length_le (show nameBs.length ≤ 32 by decide)
  rw [ht] at h1
  unfold pointP
  rw [show idxName s = -1 from h1, if_pos (by omega)]
set_option maxHeartbeats 1600000 in
set_option maxRecDepth 100000 in
theorem refPoint.walk (s : ByteArray) (w : World) : Calls Tryd.prog 20 #[.string s] w fun e w' => e = .returned (.tuple #[.int .i64 (pointP s).1, .int .i64 (pointP s).2]) ∧ Below w.heap.size w w' := by
  obtain ⟨o1, o2, ho⟩ : ∃ o1 o2, pointP s = (o1, o2) := ⟨_, _, rfl⟩
  rw [ho]
  have Ho := Lib.hid ho
  clear ho
  have HN := Lib.hid (fun w => ref_names.walk w)
  have HE := Lib.hid (fun (w' : World) (g : Nat) (h : w'.heap[g]? = some (.cells (encF allN) 70 (0, 0))) (p : Nat) (hp : p < 32) => show w'.cell? ⟨g, p, none⟩ = some (.string (nameAt p)) by rw [cell_of_row w' g p _ _ _ h]; exact allN_get p hp)
  have HI70 := Lib.hid (show (Tryd.prog.info? 70).map (·.size) = some (encF allN).size by rw [encF_size]; exact info70)
  have HO := Lib.hid (show (encF allN).all (·.oneCell') = true from encF_one fun _ _ => rfl)
  have HS := Lib.hid (show (#[.string ⟨#[]⟩, .string ⟨#[]⟩, .string ⟨#[]⟩, .string ⟨#[]⟩, .string ⟨#[]⟩, .string ⟨#[]⟩, .string ⟨#[]⟩, .string ⟨#[]⟩, .string ⟨#[]⟩, .string ⟨#[]⟩, .string ⟨#[]⟩, .string ⟨#[]⟩, .string ⟨#[]⟩, .string ⟨#[]⟩, .string ⟨#[]⟩, .string ⟨#[]⟩, .string ⟨#[]⟩, .string ⟨#[]⟩, .string ⟨#[]⟩, .string ⟨#[]⟩, .string ⟨#[]⟩, .string ⟨#[]⟩, .string ⟨#[]⟩, .string ⟨#[]⟩, .string ⟨#[]⟩, .string ⟨#[]⟩, .string ⟨#[]⟩, .string ⟨#[]⟩, .string ⟨#[]⟩, .string ⟨#[]⟩, .string ⟨#[]⟩, .string ⟨#[]⟩] : Array Value).size = (encF allN).size by rw [encF_size]; rfl)
  generalize encF allN = cs at *
  go_enter Tryd.func20, Tryd.ntmps20
  go_wp2_with (first | (go_at_call 60; go_must (with_reducible refine (HN.out _).mono ?_); rintro _ w2 ⟨rfl, hb2⟩; have HZ := Lib.hid (heap_alloc_new w2 (.cells #[.string ⟨#[]⟩, .string ⟨#[]⟩, .string ⟨#[]⟩, .string ⟨#[]⟩, .string ⟨#[]⟩, .string ⟨#[]⟩, .string ⟨#[]⟩, .string ⟨#[]⟩, .string ⟨#[]⟩, .string ⟨#[]⟩, .string ⟨#[]⟩, .string ⟨#[]⟩, .string ⟨#[]⟩, .string ⟨#[]⟩, .string ⟨#[]⟩, .string ⟨#[]⟩, .string ⟨#[]⟩, .string ⟨#[]⟩, .string ⟨#[]⟩, .string ⟨#[]⟩, .string ⟨#[]⟩, .string ⟨#[]⟩, .string ⟨#[]⟩, .string ⟨#[]⟩, .string ⟨#[]⟩, .string ⟨#[]⟩, .string ⟨#[]⟩, .string ⟨#[]⟩, .string ⟨#[]⟩, .string ⟨#[]⟩, .string ⟨#[]⟩, .string ⟨#[]⟩] 70)); have HB2 := Lib.hid (below_setRow (hb2.alloc (below_size hb2) (.cells #[.string ⟨#[]⟩, .string ⟨#[]⟩, .string ⟨#[]⟩, .string ⟨#[]⟩, .string ⟨#[]⟩, .string ⟨#[]⟩, .string ⟨#[]⟩, .string ⟨#[]⟩, .string ⟨#[]⟩, .string ⟨#[]⟩, .string ⟨#[]⟩, .string ⟨#[]⟩, .string ⟨#[]⟩, .string ⟨#[]⟩, .string ⟨#[]⟩, .string ⟨#[]⟩, .string ⟨#[]⟩, .string ⟨#[]⟩, .string ⟨#[]⟩, .string ⟨#[]⟩, .string ⟨#[]⟩, .string ⟨#[]⟩, .string ⟨#[]⟩, .string ⟨#[]⟩, .string ⟨#[]⟩, .string ⟨#[]⟩, .string ⟨#[]⟩, .string ⟨#[]⟩, .string ⟨#[]⟩, .string ⟨#[]⟩, .string ⟨#[]⟩, .string ⟨#[]⟩] 70)) (below_size hb2) cs); have HG := Lib.hid (setRow_heap _ _ _ cs _ _ HZ.out); clear hb2) | (refine wpList_store_row rfl 70 (.tmp 4) (.tmp 6) rfl w2.heap.size cs rfl rfl 70 #[.string ⟨#[]⟩, .string ⟨#[]⟩, .string ⟨#[]⟩, .string ⟨#[]⟩, .string ⟨#[]⟩, .string ⟨#[]⟩, .string ⟨#[]⟩, .string ⟨#[]⟩, .string ⟨#[]⟩, .string ⟨#[]⟩, .string ⟨#[]⟩, .string ⟨#[]⟩, .string ⟨#[]⟩, .string ⟨#[]⟩, .string ⟨#[]⟩, .string ⟨#[]⟩, .string ⟨#[]⟩, .string ⟨#[]⟩, .string ⟨#[]⟩, .string ⟨#[]⟩, .string ⟨#[]⟩, .string ⟨#[]⟩, .string ⟨#[]⟩, .string ⟨#[]⟩, .string ⟨#[]⟩, .string ⟨#[]⟩, .string ⟨#[]⟩, .string ⟨#[]⟩, .string ⟨#[]⟩, .string ⟨#[]⟩, .string ⟨#[]⟩, .string ⟨#[]⟩] HZ.out HI70.out HS.out HO.out ?_))
  clear HZ
  generalize w2.heap.size = g at *
  generalize (w2.alloc (.cells #[.string ⟨#[]⟩, .string ⟨#[]⟩, .string ⟨#[]⟩, .string ⟨#[]⟩, .string ⟨#[]⟩, .string ⟨#[]⟩, .string ⟨#[]⟩, .string ⟨#[]⟩, .string ⟨#[]⟩, .string ⟨#[]⟩, .string ⟨#[]⟩, .string ⟨#[]⟩, .string ⟨#[]⟩, .string ⟨#[]⟩, .string ⟨#[]⟩, .string ⟨#[]⟩, .string ⟨#[]⟩, .string ⟨#[]⟩, .string ⟨#[]⟩, .string ⟨#[]⟩, .string ⟨#[]⟩, .string ⟨#[]⟩, .string ⟨#[]⟩, .string ⟨#[]⟩, .string ⟨#[]⟩, .string ⟨#[]⟩, .string ⟨#[]⟩, .string ⟨#[]⟩, .string ⟨#[]⟩, .string ⟨#[]⟩, .string ⟨#[]⟩, .string ⟨#[]⟩] 70)).setRow g cs = W0 at *
  have HC := Lib.hid (HE.out W0 g HG.out)
  go_loopw [5] (fun v w' => ∃ i : Nat, i ≤ 32 ∧ v = .int .i64 (i : Int) ∧ (∀ j : Nat, j < i → nameAt j ≠ s) ∧ w' = W0) (fun v _ => 32 - (intOf v).toNat)
  case atStart => exact ⟨0, by omega, rfl, fun j hj => absurd hj (Nat.not_lt_zero _), rfl⟩
  case round =>
    obtain ⟨i, hi, rfl, hall, rfl⟩ := hrel
    have HA := Lib.hid hall
    clear hall
    by_cases hlt : i < 32
    · have hcell := HC.out i hlt
      have hqi : (i : Int) < 32 := by omega
      by_cases hn : nameAt i = s
      · have Hr := Lib.hid (show ((i : Int), (0 : Int)) = (o1, o2) from (idxName_hit s i hlt hn HA.out).symm.trans Ho.out)
        rw [hn] at hcell
        obtain ⟨rfl, rfl⟩ : (i : Int) = o1 ∧ 0 = o2 := by have h := Hr.out; simpa using h
        go_wp2
        go_ret2
        exact ⟨rfl, HB2.out⟩
      · have Hn := Lib.hid (show ∀ j : Nat, j < i + 1 → nameAt j ≠ s from fun j hj => by
          by_cases e : j = i
          · subst e; exact hn
          · exact HA.out j (by omega))
        generalize nameAt i = x at *
        have hn2 := bytes_ne hn
        go_wp2
        exact ⟨⟨i + 1, by omega, by go_num, Hn.out, trivial⟩, by simp [intOf]; omega⟩
    · obtain rfl : i = 32 := by omega
      have Hr := Lib.hid (show ((0 : Int), (2 : Int)) = (o1, o2) from (idxName_miss s HA.out).symm.trans Ho.out)
      obtain ⟨rfl, rfl⟩ : 0 = o1 ∧ 2 = o2 := by have h := Hr.out; simpa using h
      go_wp2
      go_ret2
      exact ⟨rfl, HB2.out⟩
theorem names_apart : ∀ n : Fin 32, ∀ j : Fin 32, j.1 < n.1 → (nameList.getD j.1 [] == nameList.getD n.1 []) = false := by decide +kernel
theorem nameAt_ne {n j : Nat} (hn : n < 32) (hj : j < n) : nameAt j ≠ nameAt n := by
  intro e
  have h := names_apart ⟨n, hn⟩ ⟨j, by omega⟩ hj
  have e2 : nameList.getD j [] = nameList.getD n [] := by
    have e3 : (nameList.getD j []).toArray = (nameList.getD n []).toArray := congrArg ByteArray.data e
    exact List.toArray_inj e3
  have h2 : (nameList.getD j [] == nameList.getD n []) = false := h
  rw [e2] at h2
  simp at h2
theorem point_back (n : Nat) (hn : n < 32) : pointP (nameAt n) = ((n : Int), 0) := idxName_hit (nameAt n) n hn rfl fun _ hj => nameAt_ne hn hj
set_option maxHeartbeats 1600000 in
set_option maxRecDepth 100000 in
theorem Names.long (p : Int) (s : ByteArray)  (w : World) (HS : Hid (SpaceW w)) (HK : Hid (∀ w' : World, SpaceW w' → Calls Tryd.prog 16 #[] w' fun e w'' => e = .returned (.bool true) ∧ Below w'.heap.size w' w'')) (hl : decide ((s.size : Int) > 100) = true) : Calls Tryd.prog 3 #[.int .i64 (p : Int), .string s] w fun e w' => e = .returned (.bool true) ∧ Below w.heap.size w w' := by
  have HB := Lib.hid (Below.refl w.heap.size w)
  go_enter Tryd.func3, Tryd.ntmps3
  go_wp2_with (first | (go_at_call 16; (with_reducible refine (HK.out _ (HS.out.below HB.out)).mono ?_); rintro _ w1 ⟨rfl, hb1⟩; have HN := Lib.hid (HB.out.trans (hb1.mono (below_size HB.out))); clear HB; have HB := HN; clear HN; clear hb1))
  go_ret
  exact ⟨rfl, HB.out⟩
set_option maxHeartbeats 1600000 in
set_option maxRecDepth 100000 in
theorem Names.in_ (p : Int) (s : ByteArray) (x : ByteArray) (c g : Int) (w : World) (HS : Hid (SpaceW w)) (HK : Hid (∀ w' : World, SpaceW w' → Calls Tryd.prog 16 #[] w' fun e w'' => e = .returned (.bool true) ∧ Below w'.heap.size w' w'')) (hl : decide ((s.size : Int) > 100) = false) (H17 : Hid (∀ w' : World, SpaceW w' → Calls Tryd.prog 17 #[.int .i64 (p : Int)] w' fun e w'' => e = .returned (.tuple #[.string x, .int .i64 0]) ∧ Below w'.heap.size w' w'')) (H18 : Hid (∀ w' : World, Calls Tryd.prog 18 #[.int .i64 (p : Int)] w' fun e w'' => e = .returned (.tuple #[.string x, .int .i64 0]) ∧ Below w'.heap.size w' w'')) (H19 : Hid (∀ w' : World, SpaceW w' → Calls Tryd.prog 19 #[.string s] w' fun e w'' => e = .returned (.tuple #[.int .i64 c, .int .i64 g]) ∧ Below w'.heap.size w' w'')) (H20 : Hid (∀ w' : World, Calls Tryd.prog 20 #[.string s] w' fun e w'' => e = .returned (.tuple #[.int .i64 c, .int .i64 g]) ∧ Below w'.heap.size w' w'')) (H19x : Hid (∀ w' : World, SpaceW w' → Calls Tryd.prog 19 #[.string x] w' fun e w'' => e = .returned (.tuple #[.int .i64 (p : Int), .int .i64 0]) ∧ Below w'.heap.size w' w'')) : Calls Tryd.prog 3 #[.int .i64 (p : Int), .string s] w fun e w' => e = .returned (.bool true) ∧ Below w.heap.size w w' := by
  have HB := Lib.hid (Below.refl w.heap.size w)
  go_enter Tryd.func3, Tryd.ntmps3
  go_wp2_with (first | (go_at_call 17; (with_reducible refine (H17.out _ (HS.out.below HB.out)).mono ?_); rintro _ w1 ⟨rfl, hb1⟩; have HN := Lib.hid (HB.out.trans (hb1.mono (below_size HB.out))); clear HB; have HB := HN; clear HN; clear hb1) | (go_at_call 18; (with_reducible refine (H18.out _).mono ?_); rintro _ w1 ⟨rfl, hb1⟩; have HN := Lib.hid (HB.out.trans (hb1.mono (below_size HB.out))); clear HB; have HB := HN; clear HN; clear hb1) | (go_at_call 19; (with_reducible refine (H19.out _ (HS.out.below HB.out)).mono ?_); rintro _ w1 ⟨rfl, hb1⟩; have HN := Lib.hid (HB.out.trans (hb1.mono (below_size HB.out))); clear HB; have HB := HN; clear HN; clear hb1) | (go_at_call 20; (with_reducible refine (H20.out _).mono ?_); rintro _ w1 ⟨rfl, hb1⟩; have HN := Lib.hid (HB.out.trans (hb1.mono (below_size HB.out))); clear HB; have HB := HN; clear HN; clear hb1) | (go_at_call 19; (with_reducible refine (H19x.out _ (HS.out.below HB.out)).mono ?_); rintro _ w1 ⟨rfl, hb1⟩; have HN := Lib.hid (HB.out.trans (hb1.mono (below_size HB.out))); clear HB; have HB := HN; clear HN; clear hb1) | (go_at_call 16; (with_reducible refine (HK.out _ (HS.out.below HB.out)).mono ?_); rintro _ w1 ⟨rfl, hb1⟩; have HN := Lib.hid (HB.out.trans (hb1.mono (below_size HB.out))); clear HB; have HB := HN; clear HN; clear hb1))
  go_ret
  exact ⟨rfl, HB.out⟩
set_option maxHeartbeats 1600000 in
set_option maxRecDepth 100000 in
theorem Names.out_ (p : Int) (s : ByteArray) (x : ByteArray) (c g b i : Int) (w : World) (HS : Hid (SpaceW w)) (HK : Hid (∀ w' : World, SpaceW w' → Calls Tryd.prog 16 #[] w' fun e w'' => e = .returned (.bool true) ∧ Below w'.heap.size w' w'')) (hl : decide ((s.size : Int) > 100) = false) (H17 : Hid (∀ w' : World, SpaceW w' → Calls Tryd.prog 17 #[.int .i64 (p : Int)] w' fun e w'' => e = .returned (.tuple #[.string x, .int .i64 1]) ∧ Below w'.heap.size w' w'')) (H18 : Hid (∀ w' : World, Calls Tryd.prog 18 #[.int .i64 (p : Int)] w' fun e w'' => e = .returned (.tuple #[.string x, .int .i64 1]) ∧ Below w'.heap.size w' w'')) (H19 : Hid (∀ w' : World, SpaceW w' → Calls Tryd.prog 19 #[.string s] w' fun e w'' => e = .returned (.tuple #[.int .i64 c, .int .i64 g]) ∧ Below w'.heap.size w' w'')) (H20 : Hid (∀ w' : World, Calls Tryd.prog 20 #[.string s] w' fun e w'' => e = .returned (.tuple #[.int .i64 c, .int .i64 g]) ∧ Below w'.heap.size w' w'')) (H19x : Hid (∀ w' : World, SpaceW w' → Calls Tryd.prog 19 #[.string x] w' fun e w'' => e = .returned (.tuple #[.int .i64 b, .int .i64 i]) ∧ Below w'.heap.size w' w'')) : Calls Tryd.prog 3 #[.int .i64 (p : Int), .string s] w fun e w' => e = .returned (.bool true) ∧ Below w.heap.size w w' := by
  have HB := Lib.hid (Below.refl w.heap.size w)
  go_enter Tryd.func3, Tryd.ntmps3
  go_wp2_with (first | (go_at_call 17; (with_reducible refine (H17.out _ (HS.out.below HB.out)).mono ?_); rintro _ w1 ⟨rfl, hb1⟩; have HN := Lib.hid (HB.out.trans (hb1.mono (below_size HB.out))); clear HB; have HB := HN; clear HN; clear hb1) | (go_at_call 18; (with_reducible refine (H18.out _).mono ?_); rintro _ w1 ⟨rfl, hb1⟩; have HN := Lib.hid (HB.out.trans (hb1.mono (below_size HB.out))); clear HB; have HB := HN; clear HN; clear hb1) | (go_at_call 19; (with_reducible refine (H19.out _ (HS.out.below HB.out)).mono ?_); rintro _ w1 ⟨rfl, hb1⟩; have HN := Lib.hid (HB.out.trans (hb1.mono (below_size HB.out))); clear HB; have HB := HN; clear HN; clear hb1) | (go_at_call 20; (with_reducible refine (H20.out _).mono ?_); rintro _ w1 ⟨rfl, hb1⟩; have HN := Lib.hid (HB.out.trans (hb1.mono (below_size HB.out))); clear HB; have HB := HN; clear HN; clear hb1) | (go_at_call 19; (with_reducible refine (H19x.out _ (HS.out.below HB.out)).mono ?_); rintro _ w1 ⟨rfl, hb1⟩; have HN := Lib.hid (HB.out.trans (hb1.mono (below_size HB.out))); clear HB; have HB := HN; clear HN; clear hb1) | (go_at_call 16; (with_reducible refine (HK.out _ (HS.out.below HB.out)).mono ?_); rintro _ w1 ⟨rfl, hb1⟩; have HN := Lib.hid (HB.out.trans (hb1.mono (below_size HB.out))); clear HB; have HB := HN; clear HN; clear hb1))
  go_ret
  exact ⟨rfl, HB.out⟩
theorem WindNames.walk (p : Int) (s : ByteArray) (w : World) (HS : Hid (SpaceW w)) : Calls Tryd.prog 3 #[.int .i64 p, .string s] w fun e w' => e = .returned (.bool true) ∧ Below w.heap.size w w' := by
  have HK := Lib.hid (fun (w' : World) (h : SpaceW w') => wind_known.walk w' h)
  by_cases hl : (s.size : Int) > 100
  · exact Names.long p s w HS HK (decide_eq_true hl)
  · have h17 := Lib.hid (fun (w' : World) (h : SpaceW w') => wind_Name.walk p w' h)
    have h18 := Lib.hid (fun (w' : World) => refName.walk p w')
    have h19 := Lib.hid (fun (w' : World) (h : SpaceW w') => wind_Point.walk s w' h)
    have h20 := Lib.hid (fun (w' : World) => refPoint.walk s w')
    have h19x := Lib.hid (fun (w' : World) (h : SpaceW w') => wind_Point.walk (nameP p).1 w' h)
    by_cases hp : 0 ≤ p ∧ p ≤ 31
    · obtain ⟨n, rfl⟩ := Int.eq_ofNat_of_zero_le hp.1
      have he : nameP (n : Int) = (nameAt n, 0) := by unfold nameP; rw [if_pos hp, Int.toNat_natCast]
      rw [he] at h17 h18 h19x
      have hb : pointP (nameAt n, (0 : Int)).1 = ((n : Int), 0) := point_back n (by omega)
      rw [hb] at h19x
      exact Names.in_ (n : Int) s (nameAt n) _ _ w HS HK (decide_eq_false hl) h17 h18 h19 h20 h19x
    · have he : nameP p = (⟨#[]⟩, 1) := by unfold nameP; rw [if_neg hp]
      rw [he] at h17 h18 h19x
      exact Names.out_ p s _ _ _ _ _ w HS HK (decide_eq_false hl) h17 h18 h19 h20 h19x
def wigeonlaw03_WindNames.f (p : Int) (s : ByteArray) : Option Bool := some true
theorem wigeonlaw03_WindNames.calls (p : Int) (s : ByteArray) (r : Bool) (w : World) (HS : Hid (SpaceW w)) (h : wigeonlaw03_WindNames.f p s = some r) :
    Calls Tryd.prog 3 #[.int .i64 p, .string s] w fun e w' => e = .returned (.bool r) ∧ Below w.heap.size w w' := by
  obtain rfl : true = r := Option.some.inj h
  exact WindNames.walk p s w HS

end Go.Proofs.YthihlapmkcelpaaDoor.Q
