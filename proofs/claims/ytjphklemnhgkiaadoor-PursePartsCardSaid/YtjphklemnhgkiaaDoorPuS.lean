/- Parts sorted by their groups. For at most 12. -/
import Derived.Test.YtjphklemnhgkiaaDoorWLast
import Derived.Test.YtjphklemnhgkiaaDoorWMore
import Derived.Test.YtjphklemnhgkiaaDoorProg
import Derived.Test.YtjphklemnhgkiaaDoorShelf
import Derived.OwnWalk
import Derived.Handy
import Derived.Deep.DeepMust
import Derived.Lib.Hide
import Derived.Outline
import Derived.IntWalk
import Derived.Deep.RegionWith
import Derived.BigQuiet
import Derived.Deep.QuietTactic
import Derived.Lib.OwnBridge
import Derived.Shelf.SlSortCmp.SmallK
import Derived.StillTailTactics
import Derived.Sort.Walk0
import Derived.Test.YtjphklemnhgkiaaDoorShelfB
import Derived.Test.YtjphklemnhgkiaaDoorQx0
namespace Go.Proofs.YtjphklemnhgkiaaDoor.Q
open Go.RowKit Go.Proofs.YtjphklemnhgkiaaDoorW.PrintWords Go.Proofs.YtjphklemnhgkiaaDoorW.PrintLast Go.Proofs.YtjphklemnhgkiaaDoorW.PrintMore Go.Shelf
set_option linter.unusedVariables false
set_option linter.unusedSimpArgs false
/-! Parts sorted by their groups, as verdict does it: at most 12. -/
open Go.Sort in
instance : Inhabited S59 := ⟨z59⟩
def encPt (x : S59) : List Value := [.int .i64 x.f0, .int .i64 x.f1]
def cmpP (x y : S59) : Int := Lib.compareInt x.f0 y.f0
def sortP (l : List S59) : List S59 := (Go.Sort.insertionSort (Go.Proofs.ltOf cmpP) l.toArray 0 l.length).toList
theorem lt_cmpP (x y : S59) : ltOf cmpP x y = decide (x.f0 < y.f0) := by
  unfold ltOf cmpP Lib.compareInt
  by_cases h : x.f0 < y.f0
  · simp [h]
  · by_cases h2 : x.f0 > y.f0 <;> simp [h, h2]
theorem swoP : Go.Sort.SWO (ltOf cmpP) where
  irrefl x := by rw [lt_cmpP]; simp
  trans x y z h1 h2 := by rw [lt_cmpP, decide_eq_true_eq] at *; omega
  ntrans x y z h1 h2 := by rw [lt_cmpP, decide_eq_false_iff_not] at *; omega
theorem sortP_size (l : List S59) : (Go.Sort.insertionSort (ltOf cmpP) l.toArray 0 l.length).size = l.length := by
  have h := Go.Sort.insertionSort_holds swoP l.toArray 0 l.length (Nat.zero_le _) (by simp)
  have := h.1.1
  simpa using this
theorem sortP_length (l : List S59) : (sortP l).length = l.length := by
  unfold sortP
  rw [Array.length_toList, sortP_size]
theorem two_boxes (W : World) (a b a2 b2 : Value) (t : TypeId) : ((W.alloc (.cells #[a, b] t)).alloc (.cells #[a2, b2] t)).cell? ⟨W.heap.size, 0, none⟩ = some a ∧ ((W.alloc (.cells #[a, b] t)).alloc (.cells #[a2, b2] t)).cell? ⟨W.heap.size + 1, 0, none⟩ = some a2 := by
  have h := heap_alloc_new W (.cells #[a, b] t)
  have h1 : ((W.alloc (.cells #[a, b] t)).alloc (.cells #[a2, b2] t)).heap[W.heap.size]? = some (.cells #[a, b] t (0, 0)) := (Below.heap_alloc _ _ _ (by simp)).trans h
  have h2 := heap_alloc_new (W.alloc (.cells #[a, b] t)) (.cells #[a2, b2] t)
  rw [World.size_alloc] at h2
  exact ⟨by rw [cell_of_row _ _ 0 _ _ _ h1]; rfl, by rw [cell_of_row _ _ 0 _ _ _ h2]; rfl⟩
set_option maxHeartbeats 3200000 in
set_option maxRecDepth 100000 in
/-- The comparison of two parts. -/
theorem less_calls (x y : S59) (W : World) : Calls Tryd.prog 104 #[.agg #[.int .i64 x.f0, .int .i64 x.f1], .agg #[.int .i64 y.f0, .int .i64 y.f1]] W fun e w' => e = .returned (.int .i64 (cmpP x y)) ∧ ∃ q os', w' = Go.Sort.grow (W.drewN q) os' := by
  unfold cmpP
  obtain ⟨h1, h2⟩ := two_boxes W (.int .i64 x.f0) (.int .i64 x.f1) (.int .i64 y.f0) (.int .i64 y.f1) 59
  go_enter Tryd.func104, Tryd.ntmps104
  go_wp2_with (go_at_call 92; go_must (with_reducible refine (Tryd.cmp_Compare_int _ _ _).mono ?_); rintro _ _ ⟨rfl, rfl⟩)
  first | go_end0 | go_returns | go_ret
  exact ⟨rfl, 0, #[.cells #[.int .i64 x.f0, .int .i64 x.f1] 59, .cells #[.int .i64 y.f0, .int .i64 y.f1] 59], rfl⟩
/-! The cells of a row of blocks. -/
abbrev flatP (l : List S59) : Array Value := Go.Sort.flatK encPt 2 l.toArray
theorem flat_get (l : List S59) (j i : Nat) (hj : j < l.length) (hi : i < 2) : (flatP l).toList[j * 2 + i]? = (encPt l[j])[i]? := by
  have hlt : j * 2 + i < l.toArray.size * 2 := by simp; omega
  have h := Go.Sort.get_flatK encPt 2 l.toArray (j * 2 + i) hlt
  have e1 : (j * 2 + i) / 2 = j := by omega
  have e2 : (j * 2 + i) % 2 = i := by omega
  rw [e1, e2] at h
  have hsz : j * 2 + i < (flatP l).size := by rw [Go.Sort.size_flatK]; exact hlt
  rw [Array.getElem?_toList, Array.getElem?_eq_getElem hsz]
  have h3 : (flatP l)[j * 2 + i]! = (flatP l)[j * 2 + i] := getElem!_pos (flatP l) (j * 2 + i) hsz
  have h4 : l.toArray[j]! = l[j] := by rw [getElem!_pos l.toArray j (by simpa using hj)]; rfl
  rw [← h3, h, h4]
  have h5 : i < (encPt l[j]).length := by simpa [encPt] using hi
  rw [List.getElem?_eq_getElem h5, getElem!_pos (encPt l[j]) i h5]
theorem flat_take (l : List S59) (j : Nat) (hj : j < l.length) : ((flatP l).toList.drop (j * 2)).take 2 = encPt l[j] := by
  apply List.ext_getElem?
  intro i
  by_cases hi : i < 2
  · rw [List.getElem?_take_of_lt hi, List.getElem?_drop, flat_get l j i hj hi]
  · rw [List.getElem?_take_eq_none (by omega), List.getElem?_eq_none (by simp [encPt]; omega)]
theorem flat_reps (l : List S59) (w : World) (base : Nat) (ok : Nat → Prop) : Reps (k59.M w base ok) 2 l (flatP l).toList := by
  refine ⟨by rw [Array.length_toList, Go.Sort.size_flatK]; rfl, fun j p hp => ?_⟩
  obtain ⟨hj, rfl⟩ := List.getElem?_eq_some_iff.1 hp
  rw [flat_take l j hj]
  exact k59_mkM w base ok l[j]
theorem flat_of_reps {l : List S59} {inner : List Value} {w : World} {base : Nat} {ok : Nat → Prop} (h : Reps (k59.M w base ok) 2 l inner) : inner = (flatP l).toList := by
  have hl : inner.length = l.length * 2 := h.1
  apply List.ext_getElem?
  intro t
  by_cases ht : t < l.length * 2
  · have hj : t / 2 < l.length := by omega
    have h2 := h.2 (t / 2) l[t / 2] (List.getElem?_eq_getElem hj)
    have h3 := k59_openM h2
    have e : t = t / 2 * 2 + t % 2 := by omega
    have h4 : ((inner.drop (t / 2 * 2)).take 2)[t % 2]? = (encPt l[t / 2])[t % 2]? := by rw [h3]; rfl
    rw [List.getElem?_take_of_lt (by omega), List.getElem?_drop, ← e] at h4
    have h6 := flat_get l (t / 2) (t % 2) hj (by omega)
    rw [← e] at h6
    exact h4.trans h6.symm
  · rw [List.getElem?_eq_none (by omega), List.getElem?_eq_none (by rw [Array.length_toList, Go.Sort.size_flatK]; simp; omega)]
/-! The sort, on a row of the call's own. -/
theorem less_lays (blk off size : Nat) (w : World) : CmpLays Tryd.prog 104 #[] encPt 2 cmpP blk off size w :=
  fun _ _ _ _ x y => less_calls x y _
theorem bits_small (n : Nat) (W : World) (h : n ≤ 12) : Calls Tryd.prog 114 #[.int .u64 n] W fun e w' => (∃ l : Int, e = .returned (.int .i64 l)) ∧ w' = W :=
  (Tryd.bits_Len n W (by omega) (by omega)).mono fun _ _ ⟨he, hw⟩ => ⟨⟨_, he⟩, hw⟩
theorem heap_row (w : World) {g n : Nat} {os : Array Obj} {cur : Array Value} {e : TypeId} {fr : Nat × Nat} (F : Array Value) (hb : w.heap[g]? = some (.cells cur e fr)) :
    (Go.Sort.grow (Go.Sort.putRow id (Go.Sort.ahead w n) g 0 F) os).heap[g]? = some (.cells (Go.Sort.putCells id 0 F cur) e fr) := by
  have hg : g < w.heap.size := (Array.getElem?_eq_some_iff.1 hb).1
  rw [Go.Sort.heap_grow_old _ _ (by simpa using hg)]
  simp [Go.Sort.putRow, Go.Sort.mapBlock, Go.Sort.ahead, Array.getElem?_modify, hb, Go.Sort.onCells]
theorem grown_row {w : World} {g n : Nat} {os : Array Obj} (F : Array Value) : w.grownBy (Go.Sort.grow (Go.Sort.putRow id (Go.Sort.ahead w n) g 0 F) os) (some g) := by
  refine ⟨rfl, rfl, rfl, by simp, fun k hk hne => ?_⟩
  rw [Go.Sort.heap_grow_old _ _ (by simpa using hk)]
  have : g ≠ k := fun e => hne (by rw [e])
  simp [Go.Sort.putRow, Go.Sort.mapBlock, Go.Sort.ahead, Array.getElem?_modify, this]
theorem take_row (cur F : Array Value) (h : F.size ≤ cur.size) : (Go.Sort.putCells id 0 F cur).toList.take F.size = F.toList := by
  apply List.ext_getElem?
  intro j
  by_cases hj : j < F.size
  · rw [List.getElem?_take_of_lt hj, Array.getElem?_toList]
    simp [Go.Sort.putCells, hj, show j < cur.size by omega]
  · rw [List.getElem?_take_eq_none (by omega), List.getElem?_eq_none (by simp; omega)]
theorem sort_calls (u : Value) (l0 : List S59) (w0 w : World) (hB : Below w0.heap.size w0 w) (ho : Kd.R k59 59 w w0.heap.size (fun _ => True) u l0) (hl : l0.length ≤ 12) :
    Calls Tryd.prog 103 #[u, .func (.func 104) #[] #[]] w fun e w' => e = .returned (.tuple #[]) ∧ Kd.R k59 59 w' w0.heap.size (fun _ => True) u (sortP l0) ∧ Below w0.heap.size w0 w' ∧ w.grownBy w' u.ownBlock := by
  obtain ⟨_, inner, ho1, hr⟩ := ho
  have hin := flat_of_reps hr
  subst hin
  rcases ho1.2 with ⟨rfl, hlen⟩ | ⟨g, cap, cur, rfl, hbase, hb, h1, h2, h3, h4⟩
  · have e : l0 = [] := List.eq_nil_of_length_eq_zero hlen
    subst e
    refine (AnyF.slices_SortFunc_none Tryd.laysSortB none 0 (.func (.func 104) #[] #[]) w).mono ?_
    rintro e w' ⟨rfl, rfl⟩
    have hs : sortP [] = [] := List.eq_nil_of_length_eq_zero (sortP_length [])
    exact ⟨rfl, by rw [hs]; exact Kd.R_nil _ _ _ _ _, hB, ⟨rfl, rfl, rfl, Nat.le_refl _, fun _ _ _ => rfl⟩⟩
  · have h4 : cur.toList.take (l0.length * 2) = (flatP l0).toList := h4
    have h3 : cur.size = cap * 2 := h3
    have hg : g < w.heap.size := (Array.getElem?_eq_some_iff.1 hb).1
    have hfs : (flatP l0).size = l0.length * 2 := by rw [Go.Sort.size_flatK]; rfl
    have hH : Go.Sort.HoldsK encPt 2 w g 0 l0.toArray := by
      intro j hj
      rw [hfs] at hj
      refine ⟨?_, by simp [World.frozen?, hb]⟩
      have h5 : (cur.toList.take (l0.length * 2))[j]? = (flatP l0).toList[j]? := by rw [h4]
      rw [List.getElem?_take_of_lt hj, Array.getElem?_toList, Array.getElem?_toList] at h5
      have h6 : j < (flatP l0).size := by omega
      simp only [World.cell?, hb, Nat.zero_add]
      simp only [Option.isSome_none, Bool.false_eq_true, if_false]
      rw [h5, Array.getElem?_eq_getElem h6, getElem!_pos (flatP l0) j h6]
      rfl
    have eg : ∀ args w, (callFunc 104 args).run Tryd.prog w = .ok (.enter 104 args) w := enters_of Tryd.func104 (by kernel_rfl) rfl
    have hcon := AnyQ.slices_SortFunc_small Tryd.laysSortB 2 Tryd.isAgg59 Tryd.sizeOf59 encPt (fun _ => rfl) (fun x v hv => by simp [encPt] at hv; rcases hv with rfl | rfl <;> rfl) cmpP 104 #[] g 0 cap l0.toArray w eg (less_lays g 0 l0.toArray.size w) hH hg (by simpa using hl) (fun n W h => bits_small n W h)
    change Calls Tryd.prog 103 _ _ _ at hcon
    have hsz : l0.toArray.size = l0.length := by simp
    rw [hsz] at hcon
    refine hcon.mono ?_
    rintro e w' ⟨rfl, n, os, rfl⟩
    have hd : (Go.Sort.insertionSort (ltOf cmpP) l0.toArray 0 l0.length) = (sortP l0).toArray := by unfold sortP; simp
    have hsl := sortP_length l0
    have hfs2 : (flatP (sortP l0)).size = l0.length * 2 := by rw [Go.Sort.size_flatK]; simp [hsl]
    rw [hd]
    show _ ∧ Kd.R k59 59 (Go.Sort.grow (Go.Sort.putRow id (Go.Sort.ahead w n) g 0 (flatP (sortP l0))) os) _ _ _ _ ∧ Below _ _ (Go.Sort.grow (Go.Sort.putRow id (Go.Sort.ahead w n) g 0 (flatP (sortP l0))) os) ∧ w.grownBy (Go.Sort.grow (Go.Sort.putRow id (Go.Sort.ahead w n) g 0 (flatP (sortP l0))) os) (some g)
    refine ⟨rfl, ⟨fun _ _ => trivial, (flatP (sortP l0)).toList, ⟨by rw [Array.length_toList, hfs2, hsl]; rfl, .inr ⟨g, cap, _, by rw [hsl], hbase, heap_row w _ hb, by omega, h2, by simp [Go.Sort.putCells]; exact h3, ?_⟩⟩, flat_reps _ _ _ _⟩, hB.grown (grown_row _) hB.size (fun k hk => by cases hk; exact hbase), grown_row _⟩
    show ((Go.Sort.putCells id 0 (flatP (sortP l0)) cur).toList.take ((sortP l0).length * 2)) = _
    have hle : l0.length * 2 ≤ cur.size := by rw [h3]; exact Nat.mul_le_mul_right 2 h1
    have ht := take_row cur (flatP (sortP l0)) (by omega)
    rw [hfs2] at ht
    rw [hsl]
    exact ht
/-- How verdict ends: by a panic with the pay, or with the balance. -/
def VerdictP (w : World) (r1 : Bool) (d : Int) (A : Option Addr) (n c : Nat) (r2 : Int) (r3 : List S59) (e : Ending) (w' : World) : Prop :=
  Below w.heap.size w w' ∧ ((r1 = true ∧ e = .panicked [{ v := .iface 31 (.agg #[.int .i64 d, .slice A n c]), recovered := false }]) ∨ (r1 = false ∧ ∃ v2_ : Value, e = .panicked [{ v := .iface 25 (.agg #[.int .i64 r2, v2_]), recovered := false }] ∧ Kd.R k59 59 w' w.heap.size (fun _ => True) v2_ (sortP r3)))
def verV (r1 : Bool) (d : Int) (v1 : Value) (r2 : Int) (v2 : Value) : Value := match r1 with
  | true => .iface 31 (.agg #[.int .i64 d, v1])
  | false => .iface 25 (.agg #[.int .i64 r2, v2])
theorem verdict_one {w : World} {r1 : Bool} {d : Int} {A : Option Addr} {n c : Nat} {r2 : Int} {r3 : List S59} {e : Ending} {w' : World} (h : VerdictP w r1 d A n c r2 r3 e w') :
    ∃ v2 : Value, e = .panicked [{ v := verV r1 d (.slice A n c) r2 v2, recovered := false }] ∧ Below w.heap.size w w' ∧ (r1 = false → Kd.R k59 59 w' w.heap.size (fun _ => True) v2 (sortP r3)) := by
  obtain ⟨hb, ⟨rfl, rfl⟩ | ⟨rfl, v, rfl, hr⟩⟩ := h
  · exact ⟨.slice none 0 0, rfl, hb, fun h => absurd h (by simp)⟩
  · exact ⟨v, rfl, hb, fun _ => hr⟩
/-- How search ends: by a panic with a pay, or with a balance. -/
def SearchP (w : World) (r1 : Bool) (d : Int) (num : List Int) (r2 : Int) (r3 : List S59) (e : Ending) (w' : World) : Prop :=
  ∃ v1 v2 : Value, e = .panicked [{ v := verV r1 d v1 r2 v2, recovered := false }] ∧ Below w.heap.size w w' ∧ (r1 = true → Kd.R (Kd.int .i64) 3 w' w.heap.size (fun _ => True) v1 num) ∧ (r1 = false → Kd.R k59 59 w' w.heap.size (fun _ => True) v2 (sortP r3))
end Go.Proofs.YtjphklemnhgkiaaDoor.Q
