/- The names of points: wind.Point by the shelf's slices.Index, the reference's quarter and names walked. For all texts. -/
import Derived.Test.YthihlapmkcelpaaDoorProg
import Derived.Below
import Derived.Deep.Draws
import Derived.Deep.AppendLies
import Derived.Maps.AppendAt
import Derived.OwnWalk
import Derived.Laws.BytesArg
import Derived.Laws.MakeOwn
import Derived.Laws.OwnMore
import Derived.Deep.OwnRows
import Derived.Tactics
import Derived.Lib.ConvBytes
import Derived.Laws.Slices
import Derived.WalkKit
import Derived.KernelRfl
import Derived.RowKit3
import Derived.Deep.LoopGhost
import Derived.Deep.QuietTactic
import Derived.BigQuiet
import Derived.WideLaws
import Derived.Deep.DeepCutAuto
import Derived.Deep.CutBlock
import Derived.Deep.RegionHeld3
import Derived.Laws.Rows
import Derived.Lib.AppendStr
import Derived.ArgAppend
import Derived.Laws.IdiomCopy
import Derived.OrdersHeld
import Derived.Laws.BitsLemmas
import Derived.RowKit
import Derived.Deep.DeepMust
import Derived.Deep.RegionWith
import Derived.IntWalk
import Derived.Laws.Bits64
import Derived.Laws.BitsAllLaws
import Derived.Laws.CopyOwn
import Derived.Laws.EntriesVeiled
import Derived.Laws.Tables
import Derived.Lib.Hide
import Derived.Lib.LaidTab
import Derived.Outline
import Derived.StillTailTactics
import Derived.Test.YthihlapmkcelpaaDoorShelf
import Derived.Test.YthihlapmkcelpaaDoorWWords
import Derived.Test.YthihlapmkcelpaaDoorWLast
import Derived.Test.YthihlapmkcelpaaDoorWTab
import Derived.Test.YthihlapmkcelpaaDoorWFour
import Derived.Test.YthihlapmkcelpaaDoorWQPut
import Derived.Test.YthihlapmkcelpaaDoorWApart
import Derived.Test.YthihlapmkcelpaaDoorWArr
import Derived.Test.YthihlapmkcelpaaDoorWZeros
import Derived.Test.YthihlapmkcelpaaDoorWFoot
import Derived.Test.YthihlapmkcelpaaDoorWKept
import Derived.Test.YthihlapmkcelpaaDoorWShare
import Derived.Test.YthihlapmkcelpaaDoorWN
import Derived.Test.YthihlapmkcelpaaDoorWFootNe
import Derived.Test.YthihlapmkcelpaaDoorWAt
import Derived.Test.YthihlapmkcelpaaDoorWEqStruct
import Derived.Test.YthihlapmkcelpaaDoorWRepsOne
import Derived.Test.YthihlapmkcelpaaDoorWInv
import Derived.Test.YthihlapmkcelpaaDoorWInvWords
import Derived.Test.YthihlapmkcelpaaDoorWGuard
import Derived.Test.YthihlapmkcelpaaDoorWNEv
import Derived.Test.YthihlapmkcelpaaDoorWMore
import Derived.Outline
import Derived.Lib.Hide
import Derived.Deep.DeepMust
import Derived.Deep.RegionWith
import Derived.IntWalk
import Derived.Laws.Tables
import Derived.Laws.BitsAllLaws
import Derived.Laws.CopyOwn
import Derived.StillTailTactics
import Derived.Laws.EntriesVeiled
import Derived.Test.YthihlapmkcelpaaDoorShelf
import Derived.Test.YthihlapmkcelpaaDoorQx2
import Derived.Test.YthihlapmkcelpaaDoorQx5
import Derived.Deep.RegionHeld3
namespace Go.Proofs.YthihlapmkcelpaaDoor.Q
open Go.RowKit Go.Proofs.YthihlapmkcelpaaDoorW.PrintWords Go.Proofs.YthihlapmkcelpaaDoorW.PrintLast Go.Proofs.YthihlapmkcelpaaDoorW.PrintMore
set_option linter.unusedVariables false
set_option linter.unusedSimpArgs false

def nameBs : List ByteArray := nameList.map fun l => ⟨l.toArray⟩
/-- The point of a name, or -1. -/
def idxName (s : ByteArray) : Int := Lib.idxOfS nameBs s
def pointP (s : ByteArray) : Int × Int := if idxName s < 0 then (0, 2) else (idxName s, 0)
theorem nameBs_get (j : Nat) (hj : j < 32) : nameBs.getD j ByteArray.empty = nameAt j := by
  have hl : j < nameList.length := hj
  unfold nameBs nameAt
  rw [List.getD_eq_getElem?_getD, List.getElem?_map, List.getD_eq_getElem?_getD, List.getElem?_eq_getElem hl]
  rfl
set_option maxHeartbeats 800000 in
set_option maxRecDepth 100000 in
theorem wind_Point.walk (s : ByteArray) (w : World) (hS : SpaceW w) : Calls Tryd.prog 19 #[.string s] w fun e w' => e = .returned (.tuple #[.int .i64 (pointP s).1, .int .i64 (pointP s).2]) ∧ Below w.heap.size w w' := by
  have HN := Lib.hid (wind_names.walk w hS)
  have HI := Lib.hid (Tryd.slices_Index_string w.heap.size 0 32 32 nameBs s (w.alloc namesObj) (by show 32 ≤ nameBs.length; decide) (by decide) (fun j hj => by
    have hj32 : j < 32 := hj
    rw [Nat.zero_add, names_cell w j hj32, nameBs_get j hj32]))
  have HB := Lib.hid ((Below.refl w.heap.size w).alloc (Nat.le_refl _) namesObj)
  have ht : nameBs.take 32 = nameBs := List.take_of_length_le (show nameBs.length ≤ 32 by decide)
  rw [ht] at HI
  have hp : pointP s = if idxName s < 0 then (0, 2) else (idxName s, 0) := rfl
  rw [hp]
  clear hp ht hS
  rw [show Lib.idxOfS nameBs s = idxName s from rfl] at HI
  generalize idxName s = z at *
  by_cases hz : z < 0
  · have hd : decide (z < 0) = true := decide_eq_true hz
    rw [if_pos hz]
    go_enter Tryd.func19, Tryd.ntmps19
    go_wp2_with (first | (go_at_call 58; go_must (with_reducible refine HN.out.mono ?_); rintro _ _ ⟨rfl, rfl⟩) | (go_at_call 61; go_must (with_reducible refine HI.out.mono ?_); rintro _ _ ⟨rfl, rfl⟩))
    go_ret2
    exact ⟨rfl, HB.out⟩
  · have hd : decide (z < 0) = false := decide_eq_false hz
    rw [if_neg hz]
    go_enter Tryd.func19, Tryd.ntmps19
    go_wp2_with (first | (go_at_call 58; go_must (with_reducible refine HN.out.mono ?_); rintro _ _ ⟨rfl, rfl⟩) | (go_at_call 61; go_must (with_reducible refine HI.out.mono ?_); rintro _ _ ⟨rfl, rfl⟩))
    go_ret2
    exact ⟨rfl, HB.out⟩
def wind_Point.f (s : ByteArray) : Option (Int × Int) := some (pointP s)
theorem wind_Point.calls (s : ByteArray) (r1 r2 : Int) (w : World) (h : wind_Point.f s = some (r1, r2)) (hS : SpaceW w := by first | exact HS.out | exact HS.out.below HB.out | exact HS.out.below (by repeat (first | (with_reducible first | exact HB.out | apply below_alloc | apply pw_below_drewN | apply below_drew1) | exact HB.out))) :
    Calls Tryd.prog 19 #[.string s] w fun e w' => e = .returned (.tuple #[.int .i64 r1, .int .i64 r2]) ∧ Below w.heap.size w w' := by
  have h := Option.some.inj h
  have hw := wind_Point.walk s w hS
  rw [h] at hw
  exact hw
def quart (a b m : ByteArray) : Array Value := #[.string a, .string (a ++ ⟨#[98]⟩ ++ b), .string (a ++ m), .string (m ++ ⟨#[98]⟩ ++ a), .string m, .string (m ++ ⟨#[98]⟩ ++ b), .string (b ++ m), .string (b ++ ⟨#[98]⟩ ++ a)]
theorem info103 : (Tryd.prog.info? 103).map (·.size) = some 8 := by kernel_rfl
set_option maxHeartbeats 800000 in
set_option maxRecDepth 100000 in
theorem quarter.walk (a b m : ByteArray) (w : World) (ha : a.size ≤ 10) (hb : b.size ≤ 10) (hm : m.size ≤ 10) : Calls Tryd.prog 98 #[.string a, .string b, .string m] w fun e w' => e = .returned (.agg (quart a b m)) ∧ Below w.heap.size w w' := by
  go_enter Tryd.func98, Tryd.ntmps98
  go_wp2
  refine bodyPost_ret (results_cell_row rfl _ _ w.heap.size 103 (quart a b m) (0, 0) _ rfl (heap_alloc_new w (.cells (quart a b m) 103)) Tryd.underlying103 rfl info103) rfl ⟨rfl, (Below.refl _ _).alloc (Nat.le_refl _) _⟩
def noneS : Nat → Value := fun _ => .string ⟨#[]⟩
theorem zeroS : (#[.string ⟨#[]⟩, .string ⟨#[]⟩, .string ⟨#[]⟩, .string ⟨#[]⟩, .string ⟨#[]⟩, .string ⟨#[]⟩, .string ⟨#[]⟩, .string ⟨#[]⟩, .string ⟨#[]⟩, .string ⟨#[]⟩, .string ⟨#[]⟩, .string ⟨#[]⟩, .string ⟨#[]⟩, .string ⟨#[]⟩, .string ⟨#[]⟩, .string ⟨#[]⟩, .string ⟨#[]⟩, .string ⟨#[]⟩, .string ⟨#[]⟩, .string ⟨#[]⟩, .string ⟨#[]⟩, .string ⟨#[]⟩, .string ⟨#[]⟩, .string ⟨#[]⟩, .string ⟨#[]⟩, .string ⟨#[]⟩, .string ⟨#[]⟩, .string ⟨#[]⟩, .string ⟨#[]⟩, .string ⟨#[]⟩, .string ⟨#[]⟩, .string ⟨#[]⟩] : Array Value) = encF noneS := by rfl
/-- The first names. -/
def nmF (j : Nat) : Nat → Value := fun p => .string (if p < j then nameAt p else ⟨#[]⟩)
def allN : Nat → Value := fun p => .string (nameAt p)
theorem nmF_zero : encF (nmF 0) = encF noneS := encF_congr fun p _ => by unfold nmF noneS; rw [if_neg (by omega)]
theorem nmF_succ (j : Nat) : encF (updF (nmF j) j (.string (nameAt j))) = encF (nmF (j + 1)) := encF_congr fun p _ => by
  unfold nmF updF
  by_cases e : p = j
  · rw [if_pos e, e, if_pos (by omega)]
  · rw [if_neg e]
    by_cases h : p < j
    · show Value.string (if p < j then nameAt p else ⟨#[]⟩) = _
      rw [if_pos h, if_pos (by omega)]
    · show Value.string (if p < j then nameAt p else ⟨#[]⟩) = _
      rw [if_neg h, if_neg (by omega)]
theorem nmF_all : encF (nmF 32) = encF allN := encF_congr fun p hp => by unfold nmF allN; rw [if_pos hp]
def chA : Array Value := #[.string ⟨#[78]⟩, .string ⟨#[69]⟩, .string ⟨#[83]⟩, .string ⟨#[87]⟩, .string ⟨#[78]⟩]
def miA : Array Value := #[.string ⟨#[78, 69]⟩, .string ⟨#[83, 69]⟩, .string ⟨#[83, 87]⟩, .string ⟨#[78, 87]⟩]
def chB : Nat → ByteArray
  | 0 => ⟨#[78]⟩
  | 1 => ⟨#[69]⟩
  | 2 => ⟨#[83]⟩
  | 3 => ⟨#[87]⟩
  | _ => ⟨#[78]⟩
def miB : Nat → ByteArray
  | 0 => ⟨#[78, 69]⟩
  | 1 => ⟨#[83, 69]⟩
  | 2 => ⟨#[83, 87]⟩
  | _ => ⟨#[78, 87]⟩
def rowA (q : Nat) : Array Value := ((List.range 8).map fun i => Value.string (nameAt (8 * q + i))).toArray
theorem chA_get {q : Nat} (h : q < 5) : chA[q]? = some (.string (chB q)) := by
  have : q = 0 ∨ q = 1 ∨ q = 2 ∨ q = 3 ∨ q = 4 := by omega
  rcases this with rfl | rfl | rfl | rfl | rfl <;> rfl
theorem miA_get {q : Nat} (h : q < 4) : miA[q]? = some (.string (miB q)) := by
  have : q = 0 ∨ q = 1 ∨ q = 2 ∨ q = 3 := by omega
  rcases this with rfl | rfl | rfl | rfl <;> rfl
theorem ch_size (q : Nat) : (chB q).size ≤ 10 := by
  unfold chB
  split <;> decide
theorem mi_size (q : Nat) : (miB q).size ≤ 10 := by
  unfold miB
  split <;> decide
theorem quart_row {q : Nat} (h : q < 4) : quart (chB q) (chB (q + 1)) (miB q) = rowA q := by
  have : q = 0 ∨ q = 1 ∨ q = 2 ∨ q = 3 := by omega
  rcases this with rfl | rfl | rfl | rfl <;> rfl
theorem rowA_get (q : Nat) {i : Nat} (h : i < 8) : (rowA q)[i]? = some (.string (nameAt (8 * q + i))) := by
  unfold rowA
  rw [List.getElem?_toArray, List.getElem?_map, List.getElem?_range h]
  rfl
theorem rowA_size (q : Nat) : (rowA q).size = 8 := by simp [rowA]
theorem rowA_one (q : Nat) : (rowA q).all (·.oneCell') = true := by
  rw [Array.all_eq_true_iff_forall_mem]
  intro x hx
  unfold rowA at hx
  rw [List.mem_toArray, List.mem_map] at hx
  obtain ⟨n, _, rfl⟩ := hx
  rfl
theorem info70 : (Tryd.prog.info? 70).map (·.size) = some 32 := by kernel_rfl
theorem zero8 : (#[.string ⟨#[]⟩, .string ⟨#[]⟩, .string ⟨#[]⟩, .string ⟨#[]⟩, .string ⟨#[]⟩, .string ⟨#[]⟩, .string ⟨#[]⟩, .string ⟨#[]⟩] : Array Value).size = 8 := rfl
structure NmAt (w : World) (j : Nat) (w' : World) : Prop where
  res : w'.heap[w.heap.size]? = some (.cells (encF noneS) 70 (0, 0))
  out : w'.heap[w.heap.size + 1]? = some (.cells (encF (nmF j)) 70 (0, 0))
  ch : w'.heap[w.heap.size + 1 + 1]? = some (.cells chA 101 (0, 0))
  mi : w'.heap[w.heap.size + 1 + 1 + 1]? = some (.cells miA 102 (0, 0))
  bel : Below w.heap.size w w'
theorem alloc_at (w : World) (o : Obj) (k : Nat) (h : k < w.heap.size) : (w.alloc o).heap[k]? = w.heap[k]? := Below.heap_alloc w o k h
theorem alloc_new (w : World) (o : Obj) (k : Nat) (h : k = w.heap.size) : (w.alloc o).heap[k]? = some o := by
  subst h
  show (w.heap.push o)[w.heap.size]? = some o
  simp
theorem NmAt.new (w : World) (z c m : Array Value) (hz : z = encF noneS) (hc : c = chA) (hm : m = miA) : NmAt w 0 ((((w.alloc (.cells z 70)).alloc (.cells z 70)).alloc (.cells c 101)).alloc (.cells m 102)) := by
  subst hz; subst hc; subst hm
  have s1 : (w.alloc (.cells (encF noneS) 70)).heap.size = w.heap.size + 1 := by simp
  have s2 : ((w.alloc (.cells (encF noneS) 70)).alloc (.cells (encF noneS) 70)).heap.size = w.heap.size + 1 + 1 := by simp
  have s3 : (((w.alloc (.cells (encF noneS) 70)).alloc (.cells (encF noneS) 70)).alloc (.cells chA 101)).heap.size = w.heap.size + 1 + 1 + 1 := by simp
  refine ⟨?_, ?_, ?_, alloc_new _ _ _ s3.symm, (((Below.refl _ _).alloc (Nat.le_refl _) _).alloc (by omega) _).alloc (by omega) _ |>.alloc (by omega) _⟩
  · rw [alloc_at _ _ _ (by omega), alloc_at _ _ _ (by omega), alloc_at _ _ _ (by omega), alloc_new _ _ _ rfl]
  · rw [alloc_at _ _ _ (by omega), alloc_at _ _ _ (by omega), alloc_new _ _ _ s1.symm, nmF_zero]
  · rw [alloc_at _ _ _ (by omega), alloc_new _ _ _ s2.symm]
theorem NmAt.lt {w w' : World} {j : Nat} (h : NmAt w j w') : w.heap.size + 3 < w'.heap.size := (Array.getElem?_eq_some_iff.1 h.mi).1
theorem NmAt.below {w w' w'' : World} {j : Nat} (h : NmAt w j w') (hb : Below w'.heap.size w' w'') : NmAt w j w'' := by
  have hl := h.lt
  exact ⟨(hb.block _ (by omega)).trans h.res, (hb.block _ (by omega)).trans h.out, (hb.block _ (by omega)).trans h.ch, (hb.block _ (by omega)).trans h.mi, h.bel.trans (hb.mono (below_size h.bel))⟩
theorem NmAt.far {w w' : World} {j : Nat} (h : NmAt w j w') (g : Nat) (hg : w.heap.size + 3 < g) (cs : Array Value) : NmAt w j (w'.setRow g cs) := by
  refine ⟨?_, ?_, ?_, ?_, below_setRow h.bel (by omega) _⟩
  · rw [setRow_other _ _ _ _ (by omega)]; exact h.res
  · rw [setRow_other _ _ _ _ (by omega)]; exact h.out
  · rw [setRow_other _ _ _ _ (by omega)]; exact h.ch
  · rw [setRow_other _ _ _ _ (by omega)]; exact h.mi
theorem NmAt.store {w w' : World} {j : Nat} (h : NmAt w j w') : NmAt w (j + 1) (w'.setCell ⟨w.heap.size + 1, j, none⟩ (.string (nameAt j))) := by
  refine ⟨?_, ?_, ?_, ?_, h.bel.setCell (by show w.heap.size ≤ w.heap.size + 1; omega) _⟩
  · rw [heap_setCell_other w' _ _ _ (show w.heap.size ≠ w.heap.size + 1 by omega)]; exact h.res
  · rw [heap_setCell_same w' _ j _ _ _ h.out, encF_set, nmF_succ]
  · rw [heap_setCell_other w' _ _ _ (show w.heap.size + 1 + 1 ≠ w.heap.size + 1 by omega)]; exact h.ch
  · rw [heap_setCell_other w' _ _ _ (show w.heap.size + 1 + 1 + 1 ≠ w.heap.size + 1 by omega)]; exact h.mi
theorem NmAt.chCell {w w' : World} {j : Nat} (h : NmAt w j w') {q : Nat} (hq : q < 5) : w'.cell? ⟨w.heap.size + 1 + 1, q, none⟩ = some (.string (chB q)) := by
  rw [cell_of_row w' _ q _ _ _ h.ch]; exact chA_get hq
theorem NmAt.miCell {w w' : World} {j : Nat} (h : NmAt w j w') {q : Nat} (hq : q < 4) : w'.cell? ⟨w.heap.size + 1 + 1 + 1, q, none⟩ = some (.string (miB q)) := by
  rw [cell_of_row w' _ q _ _ _ h.mi]; exact miA_get hq
theorem NmAt.outCell {w w' : World} {j : Nat} (h : NmAt w j w') {p : Nat} (hp : p < 32) : w'.cell? ⟨w.heap.size + 1, p, none⟩ = some (nmF j p) := by
  rw [cell_of_row w' _ p _ _ _ h.out]; exact encF_get _ p hp
theorem NmAt.outFree {w w' : World} {j : Nat} (h : NmAt w j w') (p : Nat) : w'.frozen? ⟨w.heap.size + 1, p, none⟩ = false := frozen_of_row w' _ p _ _ h.out
structure NmIn (w : World) (q g j : Nat) (w' : World) : Prop where
  at_ : NmAt w j w'
  row : w'.heap[g]? = some (.cells (rowA q) 103 (0, 0))
  far : w.heap.size + 3 < g
theorem NmIn.store {w w' : World} {q g j : Nat} (h : NmIn w q g j w') : NmIn w q g (j + 1) (w'.setCell ⟨w.heap.size + 1, j, none⟩ (.string (nameAt j))) := by
  have hf := h.far
  refine ⟨h.at_.store, ?_, h.far⟩
  rw [heap_setCell_other w' _ _ _ (show g ≠ w.heap.size + 1 by omega)]
  exact h.row
theorem NmIn.new {w w2 : World} {q j : Nat} (h : NmAt w j w2) (z : Array Value) : NmIn w q w2.heap.size j ((w2.alloc (.cells z 103)).setRow w2.heap.size (rowA q)) := by
  have hl := h.lt
  have ha : NmAt w j (w2.alloc (.cells z 103)) := h.below ((Below.refl _ _).alloc (Nat.le_refl _) _)
  exact ⟨ha.far _ hl _, setRow_heap _ _ _ _ _ _ (alloc_new w2 _ _ rfl), hl⟩
theorem NmIn.rowCell {w w' : World} {q g j : Nat} (h : NmIn w q g j w') {i : Nat} (hi : i < 8) : w'.cell? ⟨g, i, none⟩ = some (.string (nameAt (8 * q + i))) := by
  rw [cell_of_row w' _ i _ _ _ h.row]; exact rowA_get q hi
set_option maxHeartbeats 800000 in
set_option maxRecDepth 100000 in
theorem ref_names.walk (w : World) : Calls Tryd.prog 60 #[] w fun e w' => e = .returned (.agg (encF allN)) ∧ Below w.heap.size w w' := by
  go_enter Tryd.func60, Tryd.ntmps60
  go_wp2
  have H0 := Lib.hid (NmAt.new w #[.string ⟨#[]⟩, .string ⟨#[]⟩, .string ⟨#[]⟩, .string ⟨#[]⟩, .string ⟨#[]⟩, .string ⟨#[]⟩, .string ⟨#[]⟩, .string ⟨#[]⟩, .string ⟨#[]⟩, .string ⟨#[]⟩, .string ⟨#[]⟩, .string ⟨#[]⟩, .string ⟨#[]⟩, .string ⟨#[]⟩, .string ⟨#[]⟩, .string ⟨#[]⟩, .string ⟨#[]⟩, .string ⟨#[]⟩, .string ⟨#[]⟩, .string ⟨#[]⟩, .string ⟨#[]⟩, .string ⟨#[]⟩, .string ⟨#[]⟩, .string ⟨#[]⟩, .string ⟨#[]⟩, .string ⟨#[]⟩, .string ⟨#[]⟩, .string ⟨#[]⟩, .string ⟨#[]⟩, .string ⟨#[]⟩, .string ⟨#[]⟩, .string ⟨#[]⟩] #[.string ⟨#[78]⟩, .string ⟨#[69]⟩, .string ⟨#[83]⟩, .string ⟨#[87]⟩, .string ⟨#[78]⟩] #[.string ⟨#[78, 69]⟩, .string ⟨#[83, 69]⟩, .string ⟨#[83, 87]⟩, .string ⟨#[78, 87]⟩] zeroS rfl rfl)
  generalize ((((w.alloc (.cells #[.string ⟨#[]⟩, .string ⟨#[]⟩, .string ⟨#[]⟩, .string ⟨#[]⟩, .string ⟨#[]⟩, .string ⟨#[]⟩, .string ⟨#[]⟩, .string ⟨#[]⟩, .string ⟨#[]⟩, .string ⟨#[]⟩, .string ⟨#[]⟩, .string ⟨#[]⟩, .string ⟨#[]⟩, .string ⟨#[]⟩, .string ⟨#[]⟩, .string ⟨#[]⟩, .string ⟨#[]⟩, .string ⟨#[]⟩, .string ⟨#[]⟩, .string ⟨#[]⟩, .string ⟨#[]⟩, .string ⟨#[]⟩, .string ⟨#[]⟩, .string ⟨#[]⟩, .string ⟨#[]⟩, .string ⟨#[]⟩, .string ⟨#[]⟩, .string ⟨#[]⟩, .string ⟨#[]⟩, .string ⟨#[]⟩, .string ⟨#[]⟩, .string ⟨#[]⟩] 70)).alloc (.cells #[.string ⟨#[]⟩, .string ⟨#[]⟩, .string ⟨#[]⟩, .string ⟨#[]⟩, .string ⟨#[]⟩, .string ⟨#[]⟩, .string ⟨#[]⟩, .string ⟨#[]⟩, .string ⟨#[]⟩, .string ⟨#[]⟩, .string ⟨#[]⟩, .string ⟨#[]⟩, .string ⟨#[]⟩, .string ⟨#[]⟩, .string ⟨#[]⟩, .string ⟨#[]⟩, .string ⟨#[]⟩, .string ⟨#[]⟩, .string ⟨#[]⟩, .string ⟨#[]⟩, .string ⟨#[]⟩, .string ⟨#[]⟩, .string ⟨#[]⟩, .string ⟨#[]⟩, .string ⟨#[]⟩, .string ⟨#[]⟩, .string ⟨#[]⟩, .string ⟨#[]⟩, .string ⟨#[]⟩, .string ⟨#[]⟩, .string ⟨#[]⟩, .string ⟨#[]⟩] 70)).alloc (.cells #[.string ⟨#[78]⟩, .string ⟨#[69]⟩, .string ⟨#[83]⟩, .string ⟨#[87]⟩, .string ⟨#[78]⟩] 101)).alloc (.cells #[.string ⟨#[78, 69]⟩, .string ⟨#[83, 69]⟩, .string ⟨#[83, 87]⟩, .string ⟨#[78, 87]⟩] 102)) = W0 at *
  go_loopw [4] (fun v w' => ∃ q : Nat, q ≤ 4 ∧ v = .int .i64 (q : Int) ∧ NmAt w (8 * q) w') (fun v _ => (4 - intOf v).toNat)
  case atStart => exact ⟨0, by omega, rfl, H0.out⟩
  case round =>
    obtain ⟨q, hq, rfl, hM⟩ := hrel
    have HM := Lib.hid hM
    clear hM
    by_cases hlt : q < 4
    · obtain ⟨q1, hq1⟩ : ∃ q1, q + 1 = q1 := ⟨_, rfl⟩
      have hc1 := HM.out.chCell (q := q) (by omega)
      have hc2 := HM.out.chCell (q := q1) (by omega)
      have hc3 := HM.out.miCell hlt
      have hw : IntKind.i64.wrap ((q : Int) + 1) = (q1 : Int) := by rw [IntWalk.i64_in _ (by omega)]; omega
      have hb1 : (q : Int) < 5 := by omega
      have hb2 : (q1 : Int) < 5 := by omega
      have hb3 : (q : Int) < 4 := by omega
      have hb4 : q1 < 5 := by omega
      have HQ := Lib.hid (fun w => show Calls Tryd.prog 98 #[.string (chB q), .string (chB q1), .string (miB q)] w fun e w' => e = .returned (.agg (rowA q)) ∧ Below w.heap.size w w' by
        have h := quarter.walk (chB q) (chB q1) (miB q) w (ch_size _) (ch_size _) (mi_size _)
        rw [← hq1, quart_row hlt] at h
        rw [← hq1]
        exact h)
      have Hq1 := Lib.hid hq1
      clear hq1
      obtain ⟨x, hx⟩ : ∃ x, chB q = x := ⟨_, rfl⟩
      obtain ⟨y, hy⟩ : ∃ y, chB q1 = y := ⟨_, rfl⟩
      obtain ⟨z, hz⟩ : ∃ z, miB q = z := ⟨_, rfl⟩
      rw [hx] at hc1
      rw [hy] at hc2
      rw [hz] at hc3
      rw [hx, hy, hz] at HQ
      have Hx := Lib.hid hx
      have Hy := Lib.hid hy
      have Hz := Lib.hid hz
      clear hx hy hz
      go_wp2
      have HI8 := Lib.hid (show (Tryd.prog.info? 103).map (·.size) = some (rowA q).size by rw [rowA_size]; exact info103)
      have HE8 := Lib.hid (show (#[.string ⟨#[]⟩, .string ⟨#[]⟩, .string ⟨#[]⟩, .string ⟨#[]⟩, .string ⟨#[]⟩, .string ⟨#[]⟩, .string ⟨#[]⟩, .string ⟨#[]⟩] : Array Value).size = (rowA q).size by rw [rowA_size]; rfl)
      have HMd := Lib.hid (HM.out.below (below_drew1 (Below.refl wr.heap.size wr)))
      have HSee : Hid (∀ w' : World, NmAt w (8 * q) w' → (fun w' => w'.cell? ⟨w.heap.size + 1 + 1, q, none⟩ = some (.string x) ∧ w'.cell? ⟨w.heap.size + 1 + 1, q1, none⟩ = some (.string y) ∧ w'.cell? ⟨w.heap.size + 1 + 1 + 1, q, none⟩ = some (.string z)) w') := Lib.hid (fun w' h => ⟨by rw [h.chCell (q := q) (by omega)]; exact congrArg (fun s => some (Value.string s)) Hx.out, by rw [h.chCell (q := q1) (by omega)]; exact congrArg (fun s => some (Value.string s)) Hy.out, by rw [h.miCell hlt]; exact congrArg (fun s => some (Value.string s)) Hz.out⟩)
      refine wp_region_held_drew (S := (fun w' => w'.cell? ⟨w.heap.size + 1 + 1, q, none⟩ = some (.string x) ∧ w'.cell? ⟨w.heap.size + 1 + 1, q1, none⟩ = some (.string y) ∧ w'.cell? ⟨w.heap.size + 1 + 1 + 1, q, none⟩ = some (.string z))) (by kernel_rfl) (HSee.out _ HMd.out) (fun hH0 => ?_)
      refine wpAnyH_take (i := 0) (oi := ⟨some 13, .move (.tmp 4), 3, _, _, _⟩) (v := .int .i64 (q : Int)) rfl (by kernel_rfl) (by kernel_rfl) (by kernel_rfl) (fun _ _ _ h => h) (Or.inl ⟨by rfl, fun w1 h => (by obtain ⟨h1, h2, h3⟩ := h; go_simp)⟩) hH0 ?_
      (try simp only [Act.put, List.setIfInBounds_toArray, List.set_cons_zero, List.set_cons_succ])
      refine wpAnyH_take (i := 1) (oi := ⟨some 14, .indexAddr 101 (.tmp 2) (.tmp 13), 0, _, _, _⟩) (v := .pointer (some ⟨w.heap.size + 1 + 1, q, none⟩)) rfl (by kernel_rfl) (by kernel_rfl) (by kernel_rfl) (fun _ _ _ h => h) (Or.inl ⟨by rfl, fun w1 h => (by obtain ⟨h1, h2, h3⟩ := h; go_simp)⟩) hH0 ?_
      (try simp only [Act.put, List.setIfInBounds_toArray, List.set_cons_zero, List.set_cons_succ])
      refine wpAnyH_take (i := 2) (oi := ⟨some 15, .load 9 (.tmp 14), 9, _, _, _⟩) (v := .string x) rfl (by kernel_rfl) (by kernel_rfl) (by kernel_rfl) (fun _ _ _ h => h) (Or.inl ⟨by rfl, fun w1 h => (by obtain ⟨h1, h2, h3⟩ := h; go_simp)⟩) hH0 ?_
      (try simp only [Act.put, List.setIfInBounds_toArray, List.set_cons_zero, List.set_cons_succ])
      refine wpAnyH_take (i := 3) (oi := ⟨some 16, .move (.tmp 4), 3, _, _, _⟩) (v := .int .i64 (q : Int)) rfl (by kernel_rfl) (by kernel_rfl) (by kernel_rfl) (fun _ _ _ h => h) (Or.inl ⟨by rfl, fun w1 h => (by obtain ⟨h1, h2, h3⟩ := h; go_simp)⟩) hH0 ?_
      (try simp only [Act.put, List.setIfInBounds_toArray, List.set_cons_zero, List.set_cons_succ])
      refine wpAnyH_take (i := 4) (oi := ⟨some 17, .binOp .add 3 (.tmp 16) (.const (.int .i64 1)) 3, 3, _, _, _⟩) (v := .int .i64 (q1 : Int)) rfl (by kernel_rfl) (by kernel_rfl) (by kernel_rfl) (fun _ _ _ h => h) (Or.inl ⟨by rfl, fun w1 h => (by obtain ⟨h1, h2, h3⟩ := h; go_simp)⟩) hH0 ?_
      (try simp only [Act.put, List.setIfInBounds_toArray, List.set_cons_zero, List.set_cons_succ])
      refine wpAnyH_take (i := 5) (oi := ⟨some 18, .indexAddr 101 (.tmp 2) (.tmp 17), 0, _, _, _⟩) (v := .pointer (some ⟨w.heap.size + 1 + 1, q1, none⟩)) rfl (by kernel_rfl) (by kernel_rfl) (by kernel_rfl) (fun _ _ _ h => h) (Or.inl ⟨by rfl, fun w1 h => (by obtain ⟨h1, h2, h3⟩ := h; go_simp)⟩) hH0 ?_
      (try simp only [Act.put, List.setIfInBounds_toArray, List.set_cons_zero, List.set_cons_succ])
      refine wpAnyH_take (i := 6) (oi := ⟨some 19, .load 9 (.tmp 18), 9, _, _, _⟩) (v := .string y) rfl (by kernel_rfl) (by kernel_rfl) (by kernel_rfl) (fun _ _ _ h => h) (Or.inl ⟨by rfl, fun w1 h => (by obtain ⟨h1, h2, h3⟩ := h; go_simp)⟩) hH0 ?_
      (try simp only [Act.put, List.setIfInBounds_toArray, List.set_cons_zero, List.set_cons_succ])
      refine wpAnyH_take (i := 7) (oi := ⟨some 20, .move (.tmp 4), 3, _, _, _⟩) (v := .int .i64 (q : Int)) rfl (by kernel_rfl) (by kernel_rfl) (by kernel_rfl) (fun _ _ _ h => h) (Or.inl ⟨by rfl, fun w1 h => (by obtain ⟨h1, h2, h3⟩ := h; go_simp)⟩) hH0 ?_
      (try simp only [Act.put, List.setIfInBounds_toArray, List.set_cons_zero, List.set_cons_succ])
      refine wpAnyH_take (i := 8) (oi := ⟨some 21, .indexAddr 102 (.tmp 3) (.tmp 20), 0, _, _, _⟩) (v := .pointer (some ⟨w.heap.size + 1 + 1 + 1, q, none⟩)) rfl (by kernel_rfl) (by kernel_rfl) (by kernel_rfl) (fun _ _ _ h => h) (Or.inl ⟨by rfl, fun w1 h => (by obtain ⟨h1, h2, h3⟩ := h; go_simp)⟩) hH0 ?_
      (try simp only [Act.put, List.setIfInBounds_toArray, List.set_cons_zero, List.set_cons_succ])
      refine wpAnyH_take (i := 9) (oi := ⟨some 22, .load 9 (.tmp 21), 9, _, _, _⟩) (v := .string z) rfl (by kernel_rfl) (by kernel_rfl) (by kernel_rfl) (fun _ _ _ h => h) (Or.inl ⟨by rfl, fun w1 h => (by obtain ⟨h1, h2, h3⟩ := h; go_simp)⟩) hH0 ?_
      (try simp only [Act.put, List.setIfInBounds_toArray, List.set_cons_zero, List.set_cons_succ])
      refine wpAnyH_ready (rs := [10, 11]) (by kernel_rfl) (by simp) ?_
      refine AllReadyH.cons rfl (fun K hK => ?_) (AllReadyH.cons rfl (fun K hK => ?_) AllReadyH.nil)
      · go_simp
        (with_reducible refine (HQ.out _).mono ?_)
        rintro _ w2 ⟨rfl, hb2⟩
        go_wp2_with fail
        have HM2 := Lib.hid (HMd.out.below hb2)
        refine hK.out _ _ (HSee.out _ HM2.out) (fun hH1 => ?_)
        clear hK K
        (try simp only [Act.put, List.setIfInBounds_toArray, List.set_cons_zero, List.set_cons_succ])
        refine wpAnyH_ready (rs := [11]) (by kernel_rfl) (by simp) ?_
        refine AllReadyH.cons rfl (fun K hK => ?_) AllReadyH.nil
        go_simp
        refine hK.out _ _ (HSee.out _ (HM2.out.below ((Below.refl _ _).alloc (Nat.le_refl _) _))) (fun hH2 => ?_)
        clear hK K
        (try simp only [Act.put, List.setIfInBounds_toArray, List.set_cons_zero, List.set_cons_succ])
        have HMI := Lib.hid (NmIn.new (q := q) HM2.out #[.string ⟨#[]⟩, .string ⟨#[]⟩, .string ⟨#[]⟩, .string ⟨#[]⟩, .string ⟨#[]⟩, .string ⟨#[]⟩, .string ⟨#[]⟩, .string ⟨#[]⟩])
        refine wpAnyH_ready (rs := [12]) (by kernel_rfl) (by simp) ?_
        refine AllReadyH.cons (o := ⟨none, .store 103 (.tmp 5) (.tmp 23), 0, _, _, _⟩) rfl (fun K hK => ?_) AllReadyH.nil
        rw [if_pos (by rfl)]
        refine wp_store_row 103 (.tmp 5) (.tmp 23) rfl w2.heap.size (rowA q) rfl rfl 103 #[.string ⟨#[]⟩, .string ⟨#[]⟩, .string ⟨#[]⟩, .string ⟨#[]⟩, .string ⟨#[]⟩, .string ⟨#[]⟩, .string ⟨#[]⟩, .string ⟨#[]⟩] (alloc_new w2 _ _ rfl) HI8.out HE8.out (rowA_one q) ?_
        refine hK.out _ _ (HSee.out _ HMI.out.at_) (fun hH3 => ?_)
        clear hK K
        (try simp only [Act.put, List.setIfInBounds_toArray, List.set_cons_zero, List.set_cons_succ])
        refine wpAnyH_done (by kernel_rfl) ?_ _
        clear hH0 hH1 hH2 hH3 hb2 HM2 HSee HQ
        generalize w2.heap.size = g at *
        generalize (w2.alloc (.cells #[.string ⟨#[]⟩, .string ⟨#[]⟩, .string ⟨#[]⟩, .string ⟨#[]⟩, .string ⟨#[]⟩, .string ⟨#[]⟩, .string ⟨#[]⟩, .string ⟨#[]⟩] 103)).setRow g (rowA q) = W0 at *
        go_wp2
        go_loopw [6] (fun v w' => ∃ i : Nat, i ≤ 8 ∧ v = .int .i64 (i : Int) ∧ NmIn w q g (8 * q + i) w') (fun v _ => (8 - intOf v).toNat)
        case atStart => exact ⟨0, by omega, rfl, HMI.out⟩
        case round =>
          obtain ⟨i, hi, rfl, hI⟩ := hrel
          have HN := Lib.hid hI
          clear hI
          by_cases hl8 : i < 8
          · obtain ⟨e, he⟩ : ∃ e : Nat, 8 * q = e := ⟨_, rfl⟩
            obtain ⟨j, hj⟩ : ∃ j : Nat, 8 * q + i = j := ⟨_, rfl⟩
            have hw1 : IntKind.i64.wrap (8 * (q : Int)) = (e : Int) := by rw [IntWalk.i64_in _ (by omega)]; omega
            have hw2 : IntKind.i64.wrap ((e : Int) + (i : Int)) = (j : Int) := by rw [IntWalk.i64_in _ (by omega)]; omega
            have hj1 : (j : Int) < 32 := by omega
            have hj2 : j < 32 := by omega
            have hi1 : (i : Int) < 8 := by omega
            have hc := HN.out.rowCell hl8
            have hco := HN.out.at_.outCell hj2
            have hcf := HN.out.at_.outFree j
            rw [hj] at hc
            have HX := Lib.hid (show NmIn w q g (j + 1) (wr.setCell ⟨w.heap.size + 1, j, none⟩ (.string (nameAt j))) from hj ▸ HN.out.store)
            go_wp2
            exact ⟨⟨i + 1, by omega, by go_num, by rw [show 8 * q + (i + 1) = j + 1 by omega]; exact HX.out⟩, by simp [intOf]; omega⟩
          · obtain rfl : i = 8 := by omega
            have HO := Lib.hid HN.out.at_
            go_wp2
            have hq1' := Hq1.out
            exact ⟨⟨q1, by omega, rfl, by rw [show 8 * q1 = 8 * q + 8 by omega]; exact HO.out⟩, by simp [intOf]; omega⟩
      · go_simp
        have HMa := Lib.hid (HMd.out.below ((Below.refl _ _).alloc (Nat.le_refl _) (.cells #[.string ⟨#[]⟩, .string ⟨#[]⟩, .string ⟨#[]⟩, .string ⟨#[]⟩, .string ⟨#[]⟩, .string ⟨#[]⟩, .string ⟨#[]⟩, .string ⟨#[]⟩] 103)))
        have HZa := Lib.hid (alloc_new wr.drew (.cells #[.string ⟨#[]⟩, .string ⟨#[]⟩, .string ⟨#[]⟩, .string ⟨#[]⟩, .string ⟨#[]⟩, .string ⟨#[]⟩, .string ⟨#[]⟩, .string ⟨#[]⟩] 103) wr.heap.size rfl)
        have hlt8 := HM.out.lt
        refine hK.out _ _ (HSee.out _ HMa.out) (fun hH2 => ?_)
        clear hK K
        (try simp only [Act.put, List.setIfInBounds_toArray, List.set_cons_zero, List.set_cons_succ])
        refine wpAnyH_ready (rs := [10]) (by kernel_rfl) (by simp) ?_
        refine AllReadyH.cons rfl (fun K hK => ?_) AllReadyH.nil
        go_simp
        (with_reducible refine (HQ.out _).mono ?_)
        rintro _ w2 ⟨rfl, hb2⟩
        go_wp2_with fail
        have HM2 := Lib.hid (HMa.out.below hb2)
        refine hK.out _ _ (HSee.out _ HM2.out) (fun hH1 => ?_)
        clear hK K
        (try simp only [Act.put, List.setIfInBounds_toArray, List.set_cons_zero, List.set_cons_succ])
        have HZ2 := Lib.hid ((hb2.block _ (Array.getElem?_eq_some_iff.1 HZa.out).1).trans HZa.out)
        have HMI : Hid (NmIn w q wr.heap.size (8 * q) (w2.setRow wr.heap.size (rowA q))) := Lib.hid ⟨HM2.out.far _ hlt8 _, setRow_heap _ _ _ _ _ _ HZ2.out, hlt8⟩
        refine wpAnyH_ready (rs := [12]) (by kernel_rfl) (by simp) ?_
        refine AllReadyH.cons (o := ⟨none, .store 103 (.tmp 5) (.tmp 23), 0, _, _, _⟩) rfl (fun K hK => ?_) AllReadyH.nil
        rw [if_pos (by rfl)]
        refine wp_store_row 103 (.tmp 5) (.tmp 23) rfl wr.heap.size (rowA q) rfl rfl 103 #[.string ⟨#[]⟩, .string ⟨#[]⟩, .string ⟨#[]⟩, .string ⟨#[]⟩, .string ⟨#[]⟩, .string ⟨#[]⟩, .string ⟨#[]⟩, .string ⟨#[]⟩] HZ2.out HI8.out HE8.out (rowA_one q) ?_
        refine hK.out _ _ (HSee.out _ HMI.out.at_) (fun hH3 => ?_)
        clear hK K
        (try simp only [Act.put, List.setIfInBounds_toArray, List.set_cons_zero, List.set_cons_succ])
        refine wpAnyH_done (by kernel_rfl) ?_ _
        clear hH0 hH1 hH2 hH3 hb2 HM2 HMa HZa HSee HQ
        generalize wr.heap.size = g at *
        generalize w2.setRow g (rowA q) = W0 at *
        go_wp2
        go_loopw [6] (fun v w' => ∃ i : Nat, i ≤ 8 ∧ v = .int .i64 (i : Int) ∧ NmIn w q g (8 * q + i) w') (fun v _ => (8 - intOf v).toNat)
        case atStart => exact ⟨0, by omega, rfl, HMI.out⟩
        case round =>
          obtain ⟨i, hi, rfl, hI⟩ := hrel
          have HN := Lib.hid hI
          clear hI
          by_cases hl8 : i < 8
          · obtain ⟨e, he⟩ : ∃ e : Nat, 8 * q = e := ⟨_, rfl⟩
            obtain ⟨j, hj⟩ : ∃ j : Nat, 8 * q + i = j := ⟨_, rfl⟩
            have hw1 : IntKind.i64.wrap (8 * (q : Int)) = (e : Int) := by rw [IntWalk.i64_in _ (by omega)]; omega
            have hw2 : IntKind.i64.wrap ((e : Int) + (i : Int)) = (j : Int) := by rw [IntWalk.i64_in _ (by omega)]; omega
            have hj1 : (j : Int) < 32 := by omega
            have hj2 : j < 32 := by omega
            have hi1 : (i : Int) < 8 := by omega
            have hc := HN.out.rowCell hl8
            have hco := HN.out.at_.outCell hj2
            have hcf := HN.out.at_.outFree j
            rw [hj] at hc
            have HX := Lib.hid (show NmIn w q g (j + 1) (wr.setCell ⟨w.heap.size + 1, j, none⟩ (.string (nameAt j))) from hj ▸ HN.out.store)
            go_wp2
            exact ⟨⟨i + 1, by omega, by go_num, by rw [show 8 * q + (i + 1) = j + 1 by omega]; exact HX.out⟩, by simp [intOf]; omega⟩
          · obtain rfl : i = 8 := by omega
            have HO := Lib.hid HN.out.at_
            go_wp2
            have hq1' := Hq1.out
            exact ⟨⟨q1, by omega, rfl, by rw [show 8 * q1 = 8 * q + 8 by omega]; exact HO.out⟩, by simp [intOf]; omega⟩
    · obtain rfl : q = 4 := by omega
      have HO := Lib.hid (show wr.heap[w.heap.size + 1]? = some (.cells (encF allN) 70 (0, 0)) by rw [← nmF_all]; exact HM.out.out)
      have HI := Lib.hid (show (Tryd.prog.info? 70).map (·.size) = some (encF allN).size by rw [encF_size]; exact info70)
      have HE := Lib.hid (show (encF noneS).size = (encF allN).size by rw [encF_size, encF_size])
      go_wp2_with (first | (refine wpList_load_row rfl 70 (.tmp 1) rfl (w.heap.size + 1) rfl 70 (encF allN) (0, 0) _ HO.out Tryd.underlying70 rfl HI.out ?_) | (refine wpList_store_row rfl 70 (.tmp 0) (.tmp 36) rfl w.heap.size (encF allN) rfl rfl 70 (encF noneS) HM.out.res HI.out HE.out (encF_one fun _ _ => rfl) ?_))
      refine bodyPost_ret (results_cell_row rfl _ _ w.heap.size 70 (encF allN) (0, 0) _ rfl (setRow_heap _ _ _ _ _ _ HM.out.res) Tryd.underlying70 rfl HI.out) rfl ⟨rfl, below_setRow HM.out.bel (by omega) _⟩

end Go.Proofs.YthihlapmkcelpaaDoor.Q
