/- Blocks sorted by their series and numbers, as Join of the rings does it. For all lists of blocks of at most 12. -/
import Derived.Test.YtlbhighbhchdmaaQx0
import Derived.Test.YtlbhighbhchdmaaShelf
import Derived.Test.YtlbhighbhchdmaaLeq
import Derived.Shelf.SlSortCmp.SmallK
import Derived.OwnWalk
import Derived.Handy
import Derived.Deep.DeepMust
import Derived.Deep.RegionWith
import Derived.Test.YtlbhighbhchdmaaJoinC
import Derived.Test.YtlbhighbhchdmaaShelfJ
import Derived.Test.YtlbhighbhchdmaaLibSort
import Derived.Sort.Walk0
namespace Go.Proofs.Ytlbhighbhchdmaa.Q
open Go.RowKit Go.Proofs.YtlbhighbhchdmaaW.PrintWords Go.Proofs.YtlbhighbhchdmaaW.PrintLast Go.Proofs.YtlbhighbhchdmaaW.PrintMore
set_option linter.unusedVariables false
set_option linter.unusedSimpArgs false
open Go.Proofs.Ytlbhighbhchdmaa.Pure
theorem strB (b : ByteArray) : b.toList = b.data.toList := ByteArray.toList_eq b
theorem lt_cmpB (x y : S79) : ltOf cmpB x y = decide (x.f0.data.toList < y.f0.data.toList ∨ (x.f0.data.toList = y.f0.data.toList ∧ x.f1 < y.f1)) := by
  unfold ltOf cmpB cmpStr cmpInt
  rw [Go.Proofs.bytesLess_eq, Go.Proofs.bytesLess_eq, strB, strB]
  rcases txt_tri x.f0.data.toList y.f0.data.toList with h | h | h
  · simp [h]
  · have h1 : ¬ x.f0.data.toList < y.f0.data.toList := fun q => txt_irrefl _ (h ▸ q)
    have h2 : ¬ y.f0.data.toList < x.f0.data.toList := fun q => txt_irrefl _ (h ▸ q)
    simp only [decide_eq_true_eq, if_neg h1, if_neg h2, ne_eq, not_true_eq_false, if_false]
    by_cases c : x.f1 < y.f1
    · simp [c, h]
    · by_cases d : y.f1 < x.f1
      · simp [c, d, h, h1]
      · simp [c, d, h, h1]
  · have h1 : ¬ x.f0.data.toList < y.f0.data.toList := fun q => txt_irrefl _ (txt_trans q h)
    have h2 : ¬ x.f0.data.toList = y.f0.data.toList := fun q => txt_irrefl _ (q ▸ h)
    simp [h, h1, h2]
theorem swoB : Go.Sort.SWO (ltOf cmpB) where
  irrefl x := by rw [lt_cmpB]; simp [txt_irrefl]
  trans x y z h1 h2 := by
    rw [lt_cmpB, decide_eq_true_eq] at *
    rcases h1 with h1 | ⟨h1, g1⟩ <;> rcases h2 with h2 | ⟨h2, g2⟩
    · exact .inl (txt_trans h1 h2)
    · exact .inl (h2 ▸ h1)
    · exact .inl (h1 ▸ h2)
    · exact .inr ⟨h1.trans h2, by omega⟩
  ntrans x y z h1 h2 := by
    rw [lt_cmpB, decide_eq_false_iff_not] at *
    intro h
    rcases txt_tri x.f0.data.toList y.f0.data.toList with c | c | c
    · exact h1 (.inl c)
    · rcases h with h | ⟨h, g⟩
      · exact h2 (.inl (c ▸ h))
      · by_cases e : x.f1 < y.f1
        · exact h1 (.inr ⟨c, e⟩)
        · exact h2 (.inr ⟨c.symm.trans h, by omega⟩)
    · rcases h with h | ⟨h, g⟩
      · exact h2 (.inl (txt_trans c h))
      · exact h2 (.inl (h ▸ c))
theorem sortB_size (l : List S79) : (Go.Sort.insertionSort (ltOf cmpB) l.toArray 0 l.length).size = l.length := by
  have h := Go.Sort.insertionSort_holds swoB l.toArray 0 l.length (Nat.zero_le _) (by simp)
  have := h.1.1
  simpa using this
theorem sortB_length (l : List S79) : (sortB l).length = l.length := by
  unfold sortB
  rw [Array.length_toList, sortB_size]
/-! The cells of a row of blocks. -/
abbrev flatB (l : List S79) : Array Value := Go.Sort.flatK encBk 3 l.toArray
theorem flat_get (l : List S79) (j i : Nat) (hj : j < l.length) (hi : i < 3) : (flatB l).toList[j * 3 + i]? = (encBk l[j])[i]? := by
  have hlt : j * 3 + i < l.toArray.size * 3 := by simp; omega
  have h := Go.Sort.get_flatK encBk 3 l.toArray (j * 3 + i) hlt
  have e1 : (j * 3 + i) / 3 = j := by omega
  have e2 : (j * 3 + i) % 3 = i := by omega
  rw [e1, e2] at h
  have hsz : j * 3 + i < (flatB l).size := by rw [Go.Sort.size_flatK]; exact hlt
  rw [Array.getElem?_toList, Array.getElem?_eq_getElem hsz]
  have h3 : (flatB l)[j * 3 + i]! = (flatB l)[j * 3 + i] := getElem!_pos (flatB l) (j * 3 + i) hsz
  have h4 : l.toArray[j]! = l[j] := by rw [getElem!_pos l.toArray j (by simpa using hj)]; rfl
  rw [← h3, h, h4]
  have h5 : i < (encBk l[j]).length := by simpa [encBk] using hi
  rw [List.getElem?_eq_getElem h5, getElem!_pos (encBk l[j]) i h5]
theorem flat_take (l : List S79) (j : Nat) (hj : j < l.length) : ((flatB l).toList.drop (j * 3)).take 3 = encBk l[j] := by
  apply List.ext_getElem?
  intro i
  by_cases hi : i < 3
  · rw [List.getElem?_take_of_lt hi, List.getElem?_drop, flat_get l j i hj hi]
  · rw [List.getElem?_take_eq_none (by omega), List.getElem?_eq_none (by simp [encBk]; omega)]
theorem flat_reps (l : List S79) (w : World) (base : Nat) (ok : Nat → Prop) : Reps (k79.M w base ok) 3 l (flatB l).toList := by
  refine ⟨by rw [Array.length_toList, Go.Sort.size_flatK]; rfl, fun j p hp => ?_⟩
  obtain ⟨hj, rfl⟩ := List.getElem?_eq_some_iff.1 hp
  rw [flat_take l j hj]
  exact k79_mkM w base ok l[j]
theorem flat_of_reps {l : List S79} {inner : List Value} {w : World} {base : Nat} {ok : Nat → Prop} (h : Reps (k79.M w base ok) 3 l inner) : inner = (flatB l).toList := by
  have hl : inner.length = l.length * 3 := h.1
  apply List.ext_getElem?
  intro t
  by_cases ht : t < l.length * 3
  · have hj : t / 3 < l.length := by omega
    have h2 := h.2 (t / 3) l[t / 3] (List.getElem?_eq_getElem hj)
    have h3 := k79_openM h2
    have e : t = t / 3 * 3 + t % 3 := by omega
    have h4 : ((inner.drop (t / 3 * 3)).take 3)[t % 3]? = (encBk l[t / 3])[t % 3]? := by rw [h3]; rfl
    rw [List.getElem?_take_of_lt (by omega), List.getElem?_drop, ← e] at h4
    have h6 := flat_get l (t / 3) (t % 3) hj (by omega)
    rw [← e] at h6
    exact h4.trans h6.symm
  · rw [List.getElem?_eq_none (by omega), List.getElem?_eq_none (by rw [Array.length_toList, Go.Sort.size_flatK]; simp; omega)]
/-! The sort, on a row of the call's own. -/
theorem less_lays (blk off size : Nat) (w : World) : CmpLays Try.prog 90 #[] encBk 3 cmpB blk off size w :=
  fun _ _ _ _ x y => less_calls x y _
theorem bits_small (n : Nat) (W : World) (h : n ≤ 12) : Calls Try.prog 100 #[.int .u64 n] W fun e w' => (∃ l : Int, e = .returned (.int .i64 l)) ∧ w' = W :=
  (Try.bits_Len n W (by omega) (by omega)).mono fun _ _ ⟨he, hw⟩ => ⟨⟨_, he⟩, hw⟩
theorem heap_row (w : World) {g n : Nat} {os : Array Obj} {cur : Array Value} {e : TypeId} {fr : Nat × Nat} (F : Array Value) (hb : w.heap[g]? = some (.cells cur e fr)) :
    (Go.Sort.grow (Go.Sort.putRow id (Go.Sort.ahead w n) g 0 F) os).heap[g]? = some (.cells (Go.Sort.putCells id 0 F cur) e fr) := by
  have hg : g < w.heap.size := (Array.getElem?_eq_some_iff.1 hb).1
  rw [Go.Sort.heap_grow_old _ _ (by simpa using hg)]
  simp [Go.Sort.putRow, Go.Sort.mapBlock, Go.Sort.ahead, Array.getElem?_modify, hb, Go.Sort.onCells]
theorem grown_row {w : World} {g n : Nat} {os : Array Obj} (F : Array Value) : w.grownBy (Go.Sort.grow (Go.Sort.putRow id (Go.Sort.ahead w n) g 0 F) os) (some g) := by
  refine ⟨rfl, rfl, rfl, by simp, fun k hk hne => ?_⟩
  rw [Go.Sort.heap_grow_old _ _ (by simpa using hk)]
  have : g ≠ k := fun e => hne (by rw [e])
  simp [Go.Sort.putRow, Go.Sort.mapBlock, Go.Sort.ahead, Array.getElem?_modify, this]
theorem take_row (cur F : Array Value) (h : F.size ≤ cur.size) : (Go.Sort.putCells id 0 F cur).toList.take F.size = F.toList := by
  apply List.ext_getElem?
  intro j
  by_cases hj : j < F.size
  · rw [List.getElem?_take_of_lt hj, Array.getElem?_toList]
    simp [Go.Sort.putCells, hj, show j < cur.size by omega]
  · rw [List.getElem?_take_eq_none (by omega), List.getElem?_eq_none (by simp; omega)]
theorem sort_calls (u : Value) (l0 : List S79) (w0 w : World) (hB : Below w0.heap.size w0 w) (ho : Kd.R k79 79 w w0.heap.size (fun _ => True) u l0) (hl : l0.length ≤ 12) :
    Calls Try.prog 89 #[u, .func (.func 90) #[] #[]] w fun e w' => e = .returned (.tuple #[]) ∧ Kd.R k79 79 w' w0.heap.size (fun _ => True) u (sortB l0) ∧ Below w0.heap.size w0 w' := by
  obtain ⟨_, inner, ho1, hr⟩ := ho
  have hin := flat_of_reps hr
  subst hin
  rcases ho1.2 with ⟨rfl, hlen⟩ | ⟨g, cap, cur, rfl, hbase, hb, h1, h2, h3, h4⟩
  · have e : l0 = [] := List.eq_nil_of_length_eq_zero hlen
    subst e
    refine (AnyF.slices_SortFunc_none Try.laysSortB none 0 (.func (.func 90) #[] #[]) w).mono ?_
    rintro e w' ⟨rfl, rfl⟩
    have hs : sortB [] = [] := List.eq_nil_of_length_eq_zero (sortB_length [])
    exact ⟨rfl, by rw [hs]; exact Kd.R_nil _ _ _ _ _, hB⟩
  · have h4 : cur.toList.take (l0.length * 3) = (flatB l0).toList := h4
    have h3 : cur.size = cap * 3 := h3
    have hg : g < w.heap.size := (Array.getElem?_eq_some_iff.1 hb).1
    have hfs : (flatB l0).size = l0.length * 3 := by rw [Go.Sort.size_flatK]; rfl
    have hH : Go.Sort.HoldsK encBk 3 w g 0 l0.toArray := by
      intro j hj
      rw [hfs] at hj
      refine ⟨?_, by simp [World.frozen?, hb]⟩
      have h5 : (cur.toList.take (l0.length * 3))[j]? = (flatB l0).toList[j]? := by rw [h4]
      rw [List.getElem?_take_of_lt hj, Array.getElem?_toList, Array.getElem?_toList] at h5
      have h6 : j < (flatB l0).size := by omega
      simp only [World.cell?, hb, Nat.zero_add]
      simp only [Option.isSome_none, Bool.false_eq_true, if_false]
      rw [h5, Array.getElem?_eq_getElem h6, getElem!_pos (flatB l0) j h6]
      rfl
    have eg : ∀ args w, (callFunc 90 args).run Try.prog w = .ok (.enter 90 args) w := enters_of Try.func90 (by kernel_rfl) rfl
    have hcon := AnyQ.slices_SortFunc_small Try.laysSortB 3 Try.isAgg79 Try.sizeOf79 encBk (fun _ => rfl) (fun x v hv => by simp [encBk] at hv; rcases hv with rfl | rfl | rfl <;> rfl) cmpB 90 #[] g 0 cap l0.toArray w eg (less_lays g 0 l0.toArray.size w) hH hg (by simpa using hl) (fun n W h => bits_small n W h)
    change Calls Try.prog 89 _ _ _ at hcon
    have hsz : l0.toArray.size = l0.length := by simp
    rw [hsz] at hcon
    refine hcon.mono ?_
    rintro e w' ⟨rfl, n, os, rfl⟩
    have hd : (Go.Sort.insertionSort (ltOf cmpB) l0.toArray 0 l0.length) = (sortB l0).toArray := by unfold sortB; simp
    have hsl := sortB_length l0
    have hfs2 : (flatB (sortB l0)).size = l0.length * 3 := by rw [Go.Sort.size_flatK]; simp [hsl]
    rw [hd]
    show _ ∧ Kd.R k79 79 (Go.Sort.grow (Go.Sort.putRow id (Go.Sort.ahead w n) g 0 (flatB (sortB l0))) os) _ _ _ _ ∧ Below _ _ (Go.Sort.grow (Go.Sort.putRow id (Go.Sort.ahead w n) g 0 (flatB (sortB l0))) os)
    refine ⟨rfl, ⟨fun _ _ => trivial, (flatB (sortB l0)).toList, ⟨by rw [Array.length_toList, hfs2, hsl]; rfl, .inr ⟨g, cap, _, by rw [hsl], hbase, heap_row w _ hb, by omega, h2, by simp [Go.Sort.putCells]; exact h3, ?_⟩⟩, flat_reps _ _ _ _⟩, hB.grown (grown_row _) hB.size (fun k hk => by cases hk; exact hbase)⟩
    show ((Go.Sort.putCells id 0 (flatB (sortB l0)) cur).toList.take ((sortB l0).length * 3)) = _
    have hle : l0.length * 3 ≤ cur.size := by rw [h3]; exact Nat.mul_le_mul_right 3 h1
    have ht := take_row cur (flatB (sortB l0)) (by omega)
    rw [hfs2] at ht
    rw [hsl]
    exact ht
end Go.Proofs.Ytlbhighbhchdmaa.Q
