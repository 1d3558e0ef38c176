/- Near of a ring: what is tried and what is found. For all texts of the form of a ring. -/
import Derived.Test.YtlbhighbhchdmaaQx22
import Derived.Test.YtlbhighbhchdmaaShelf
import Derived.OwnWalk
import Derived.Handy
import Derived.Laws.RangeAny
import Derived.Laws.Runes
import Derived.Lib.OthersKept
import Derived.Lib.OwnBridge
import Derived.Sort.OwnSorted
import Derived.Lib.SlicesCompact
import Derived.Deep.DeepMust
namespace Go.Proofs.Ytlbhighbhchdmaa.Q
open Go.RowKit Go.Proofs.YtlbhighbhchdmaaW.PrintWords Go.Proofs.YtlbhighbhchdmaaW.PrintLast Go.Proofs.YtlbhighbhchdmaaW.PrintMore
set_option linter.unusedVariables false
set_option linter.unusedSimpArgs false
def rowS (L : List ByteArray) : List Value := L.map Value.string
/-- Near's variables: the text, and the list of what was found. -/
structure NearAt (w : World) (gs go : Nat) (s : ByteArray) (L : List ByteArray) (w' : World) : Prop where
  txt : w'.heap[gs]? = some (.cells #[.string s] 9 (0, 0))
  out : ∃ v, w'.heap[go]? = some (.cells #[v] 54 (0, 0)) ∧ w'.ownsRow (go + 1) 9 1 v L.length (rowS L)
  lt : gs < go
  low : w.heap.size ≤ gs
  bel : Below w.heap.size w w'
theorem ownsS_form {w : World} {base : Nat} {v : Value} {L : List ByteArray} (h : w.ownsRow base 9 1 v L.length (rowS L)) : ∃ A c, v = .slice A L.length c ∧ L.length ≤ c := by
  rcases h.2 with ⟨h1, h2⟩ | ⟨g, cap, cur, h1, _, _, h2, _⟩
  · exact ⟨none, 0, by rw [h1, h2], by omega⟩
  · exact ⟨_, cap, h1, h2⟩
theorem ownsS_below {w w' : World} {base : Nat} {v : Value} {L : List ByteArray} (h : w.ownsRow base 9 1 v L.length (rowS L)) (hb : Below w.heap.size w w') : w'.ownsRow base 9 1 v L.length (rowS L) := by
  refine ⟨h.1, ?_⟩
  rcases h.2 with h1 | ⟨g, cap, cur, h1, h2, h3, h4⟩
  · exact .inl h1
  · exact .inr ⟨g, cap, cur, h1, h2, (hb.block _ (Array.getElem?_eq_some_iff.1 h3).1).trans h3, h4⟩
theorem ownsS_set {w : World} {go : Nat} {v x : Value} {L : List ByteArray} (h : w.ownsRow (go + 1) 9 1 v L.length (rowS L)) : (w.setCell ⟨go, 0, none⟩ x).ownsRow (go + 1) 9 1 v L.length (rowS L) := by
  refine ⟨h.1, ?_⟩
  rcases h.2 with h1 | ⟨g, cap, cur, h1, h2, h3, h4⟩
  · exact .inl h1
  · exact .inr ⟨g, cap, cur, h1, h2, by rw [heap_setCell_other w _ _ _ (show g ≠ go by omega)]; exact h3, h4⟩
theorem NearAt.below {w w' w'' : World} {gs go : Nat} {s : ByteArray} {L : List ByteArray} (H : NearAt w gs go s L w') (hb : Below w'.heap.size w' w'') : NearAt w gs go s L w'' := by
  obtain ⟨v, h1, h2⟩ := H.out
  exact ⟨(hb.block _ (Array.getElem?_eq_some_iff.1 H.txt).1).trans H.txt, ⟨v, (hb.block _ (Array.getElem?_eq_some_iff.1 h1).1).trans h1, ownsS_below h2 hb⟩, H.lt, H.low, H.bel.trans (hb.mono (below_size H.bel))⟩
theorem NearAt.txtCell {w w' : World} {gs go : Nat} {s : ByteArray} {L : List ByteArray} (H : NearAt w gs go s L w') : w'.cell? ⟨gs, 0, none⟩ = some (.string s) := by
  rw [cell_of_row w' gs 0 _ _ _ H.txt]; rfl
theorem NearAt.at_ {w w' : World} {gs go : Nat} {s : ByteArray} {L : List ByteArray} (H : NearAt w gs go s L w') : ∃ A c, w'.cell? ⟨go, 0, none⟩ = some (.slice A L.length c) ∧ L.length ≤ c ∧ w'.ownsRow (go + 1) 9 1 (.slice A L.length c) L.length (rowS L) := by
  obtain ⟨v, h1, h2⟩ := H.out
  obtain ⟨A, c, rfl, hc⟩ := ownsS_form h2
  exact ⟨A, c, by rw [cell_of_row w' go 0 _ _ _ h1]; rfl, hc, h2⟩
theorem NearAt.free {w w' : World} {gs go : Nat} {s : ByteArray} {L : List ByteArray} (H : NearAt w gs go s L w') : w'.frozen? ⟨go, 0, none⟩ = false := by
  obtain ⟨v, h1, _⟩ := H.out
  exact frozen_of_row w' go 0 _ _ h1
theorem NearAt.store {w w' : World} {gs go : Nat} {s : ByteArray} {L L' : List ByteArray} {v : Value} (H : NearAt w gs go s L w') (ho : w'.ownsRow (go + 1) 9 1 v L'.length (rowS L')) : NearAt w gs go s L' (w'.setCell ⟨go, 0, none⟩ v) := by
  obtain ⟨v0, h1, _⟩ := H.out
  have hlt := H.lt
  have hlow := H.low
  refine ⟨?_, ⟨v, ?_, ownsS_set ho⟩, H.lt, H.low, H.bel.setCell (by show w.heap.size ≤ go; omega) _⟩
  · rw [heap_setCell_other w' _ _ _ (show gs ≠ go by omega)]; exact H.txt
  · rw [heap_setCell_same w' go 0 _ _ _ h1]; rfl
/-- A row of texts is no row of bytes. -/
theorem owns_ne {w : World} {base gb : Nat} {v : Value} {L : List ByteArray} {b : ByteArray} (h : w.ownsRow base 9 1 v L.length (rowS L)) (hr : BRow w gb b) : some gb ≠ v.ownBlock := by
  intro e
  rcases h.2 with ⟨h1, _⟩ | ⟨g, cap, cur, h1, _, h3, _⟩
  · rw [h1] at e; simp [Value.ownBlock] at e
  · rw [h1] at e
    simp [Value.ownBlock] at e
    subst e
    obtain ⟨cs, fz, hg, _⟩ := hr.ex
    rw [hg] at h3
    injection h3 with h3
    injection h3 with _ h4 _
    exact absurd h4 (by decide)
theorem BRow.grown {w w' : World} {gb : Nat} {b : ByteArray} {row : Option Nat} (h : BRow w gb b) (hg : w.grownBy w' row) (hne : some gb ≠ row) : BRow w' gb b := by
  obtain ⟨cs, fz, h1, rest⟩ := h.ex
  exact ⟨cs, fz, (hg.block gb (Array.getElem?_eq_some_iff.1 h1).1 hne).trans h1, rest⟩
theorem BRow.setFar {w : World} {gb go : Nat} {b : ByteArray} (h : BRow w gb b) (hne : gb ≠ go) (v : Value) : BRow (w.setCell ⟨go, 0, none⟩ v) gb b := by
  obtain ⟨cs, fz, h1, rest⟩ := h.ex
  exact ⟨cs, fz, by rw [heap_setCell_other w _ _ _ hne]; exact h1, rest⟩
theorem rowS_snoc (L : List ByteArray) (x : ByteArray) : rowS (L ++ [x]) = rowS L ++ [.string x] := by unfold rowS; simp
theorem newS_cells (w : World) (x : Value) : ∀ (j : Nat) (u : Value), [x][j]? = some u → (w.alloc (.cells #[x] 9)).cell? ((⟨w.heap.size, 0, none⟩ : Addr).add j) = some u := by
  intro j u hu
  have hj : j = 0 := by
    have := (List.getElem?_eq_some_iff.1 hu).1
    simp at this
    omega
  subst hj
  have e : (⟨w.heap.size, 0, none⟩ : Addr).add 0 = ⟨w.heap.size, 0, none⟩ := rfl
  rw [e, cell_of_row _ w.heap.size 0 _ 9 (0, 0) (heap_alloc_new w _)]
  exact hu
theorem NearAt.grow {w wr w8 : World} {gs go : Nat} {s : ByteArray} {L : List ByteArray} {A : Option Addr} {c : Nat} {v2 : Value} {x : ByteArray} {o : Obj} (H : NearAt w gs go s L wr) (ho : wr.ownsRow (go + 1) 9 1 (.slice A L.length c) L.length (rowS L))
    (ho2 : w8.ownsRow (go + 1) 9 1 v2 (L.length + 1) (rowS L ++ [.string x])) (hg2 : (wr.alloc o).grownBy w8 (Value.slice A L.length c).ownBlock) : ∃ A3 c3, v2 = .slice A3 (L.length + 1) c3 ∧ w8.heap[gs]? = some (.cells #[.string s] 9 (0, 0)) ∧ (∃ v, w8.heap[go]? = some (.cells #[v] 54 (0, 0))) ∧ Below w.heap.size w w8 ∧ w8.ownsRow (go + 1) 9 1 (.slice A3 (L.length + 1) c3) (L ++ [x]).length (rowS (L ++ [x])) := by
  have hl : (L ++ [x]).length = L.length + 1 := by simp
  have h3 : w8.ownsRow (go + 1) 9 1 v2 (L ++ [x]).length (rowS (L ++ [x])) := by rw [hl, rowS_snoc]; exact ho2
  obtain ⟨A3, c3, e, _⟩ := ownsS_form h3
  rw [hl] at e
  subst e
  have hlt := H.lt
  have hlow := H.low
  obtain ⟨v0, g1, _⟩ := H.out
  have z1 := (Array.getElem?_eq_some_iff.1 H.txt).1
  have z2 := (Array.getElem?_eq_some_iff.1 g1).1
  have hrow : ∀ k, (Value.slice A L.length c).ownBlock = some k → go + 1 ≤ k := fun k hk => (ho.lt k hk).1
  have hk : ∀ k, k ≤ go → k < wr.heap.size → w8.heap[k]? = wr.heap[k]? := fun k h1 h2 => by
    rw [hg2.block k (by simp; omega) (fun e => by have := hrow k e.symm; omega)]
    exact Below.heap_alloc wr o k h2
  refine ⟨A3, c3, rfl, (hk gs (by omega) z1).trans H.txt, ⟨v0, (hk go (Nat.le_refl _) z2).trans g1⟩, ?_, h3⟩
  exact (H.bel.alloc (below_size H.bel) o).grown hg2 (by have := below_size (H.bel.alloc (below_size H.bel) o); exact this) (fun k hk => by have := hrow k hk; omega)
theorem text_ne {a b : ByteArray} (h : a ≠ b) : (a.toList == b.toList) = false := by
  rw [ByteArray.toList_eq, ByteArray.toList_eq, beq_eq_false_iff_ne]
  intro e
  apply h
  cases a; cases b
  simpa using e
theorem info9s : (Try.prog.info? 9).map (fun i => (i.zero, i.size, i.bytes)) = some (some (.string ⟨#[]⟩), 1, 16) := by kernel_rfl
set_option maxHeartbeats 3200000 in
set_option maxRecDepth 100000 in
/-- Near's closure: one text tried. -/
theorem Near1.walk (s b : ByteArray) (w wr : World) (gs go gb cap : Nat) (L : List ByteArray) (H : NearAt w gs go s L wr) (hR : BRow wr gb b) (hgb : go < gb) (hL : L.length ≤ 1000) (hb : b.size ≤ 1000) (e0 : Int)
    (HV : Hid (∀ w, Calls Try.prog 36 #[.string b] w fun e w' => e = .returned (.int .i64 e0) ∧ Below w.heap.size w w')) :
    Calls Try.prog 84 #[.slice (some ⟨gb, 0, none⟩) b.size cap, .pointer (some ⟨gs, 0, none⟩), .pointer (some ⟨go, 0, none⟩)] wr fun e w' => e = .returned (.tuple #[]) ∧ NearAt w gs go s (if b ≠ s ∧ e0 = 0 then L ++ [b] else L) w' ∧ BRow w' gb b ∧ wr.heap.size ≤ w'.heap.size := by
  have hcv := hR.str cap
  have HR := Lib.hid hR
  have HN := Lib.hid H
  have htx := H.txtCell
  clear hR H
  by_cases hs : b = s
  · have Hif := Lib.hid (show (if b ≠ s ∧ e0 = 0 then L ++ [b] else L) = L from if_neg (fun h => h.1 hs))
    have Hs := Lib.hid hs
    rw [Hif.out]
    have htx2 : wr.cell? ⟨gs, 0, none⟩ = some (.string b) := by rw [hs]; exact htx
    clear hs htx
    go_enter Try.func84, Try.ntmps84
    go_wp2
    first | go_end0 | go_returns | go_ret
    exact ⟨rfl, HN.out, HR.out, Nat.le_refl _⟩
  · have hne := text_ne hs
    by_cases he : e0 = 0
    · subst he
      have Hif := Lib.hid (show (if b ≠ s ∧ (0 : Int) = 0 then L ++ [b] else L) = L ++ [b] from if_pos ⟨hs, rfl⟩)
      rw [Hif.out]
      obtain ⟨i9, hi9, hz9, hs9, hb9⟩ := info_parts info9s
      have H9 := Lib.hid hi9
      clear hi9 hs
      go_enter Try.func84, Try.ntmps84
      go_wp2_with (first | (go_at_call 36; go_must (with_reducible refine (HV.out _).mono ?_); rintro _ w1 ⟨rfl, hb1⟩; have HB1 := Lib.hid hb1; have HN1 := Lib.hid (HN.out.below hb1); have HR1 := Lib.hid (HR.out.below hb1); obtain ⟨A, c, hc1, hcl, ho1⟩ := HN1.out.at_; have HO1 := Lib.hid ho1; clear hb1 ho1) | (at_builtin; refine wpList_append_own _ rfl (.tmp 15) (.tmp 17) 54 rfl (go + 1) 9 i9 (.string ⟨#[]⟩) 1 16 Try.underlying54 H9.out hz9 hs9 hb9 rfl (by decide) (.slice A L.length c) L.length (rowS L) rfl (HO1.out.alloc _) ⟨w1.heap.size, 0, none⟩ 1 1 [.string b] rfl rfl (newS_cells w1 _) (by intro u hu; rw [List.mem_singleton] at hu; rw [hu]; rfl) (by unfold maxLen; omega) (by omega) (by have := HN1.out.at_; obtain ⟨v, h1, _⟩ := HN1.out.out; have := (Array.getElem?_eq_some_iff.1 h1).1; simp; omega) ?_; intro v8 w8 ho8 hg8 _; obtain ⟨A8, c8, rfl, g1, ⟨v0, g2⟩, g3, g4⟩ := NearAt.grow HN1.out HO1.out ho8 hg8; have hcg : w8.cell? ⟨go, 0, none⟩ = some v0 := (by rw [cell_of_row w8 go 0 _ _ _ g2]; rfl); have hfg := frozen_of_row w8 go 0 _ _ g2; have HG := Lib.hid (show BRow w8 gb b from (HR1.out.below ((Below.refl _ _).alloc (Nat.le_refl _) _)).grown hg8 (owns_ne HO1.out HR1.out)); have HSz := Lib.hid (show w1.heap.size ≤ w8.heap.size from Nat.le_trans (by simp) hg8.size); have H1 := Lib.hid g1; have H2 := Lib.hid g2; have H3 := Lib.hid g3; have H4 := Lib.hid g4; clear g1 g2 g3 g4 ho8 hg8))
      first | go_end0 | go_returns | go_ret
      have hlt := HN1.out.lt
      have hlow := HN1.out.low
      refine ⟨rfl, ⟨?_, ⟨_, ?_, ownsS_set H4.out⟩, hlt, hlow, H3.out.setCell (by show w.heap.size ≤ go; omega) _⟩, HG.out.setFar (by omega) _, ?_⟩
      · rw [heap_setCell_other w8 _ _ _ (show gs ≠ go by omega)]; exact H1.out
      · rw [heap_setCell_same w8 go 0 _ _ _ H2.out]; rfl
      · have := below_size HB1.out
        have := HSz.out
        simp
        omega
    · have Hif := Lib.hid (show (if b ≠ s ∧ e0 = 0 then L ++ [b] else L) = L from if_neg (fun h => he h.2))
      rw [Hif.out]
      have hd : (e0 == 0) = false := beq_eq_false_iff_ne.mpr he
      clear he hs
      go_enter Try.func84, Try.ntmps84
      go_wp2_with (first | (go_at_call 36; go_must (with_reducible refine (HV.out _).mono ?_); rintro _ w1 ⟨rfl, hb1⟩; have HB1 := Lib.hid hb1; have HN1 := Lib.hid (HN.out.below hb1); have HR1 := Lib.hid (HR.out.below hb1); clear hb1))
      first | go_end0 | go_returns | go_ret
      exact ⟨rfl, HN1.out, HR1.out, below_size HB1.out⟩
end Go.Proofs.Ytlbhighbhchdmaa.Q
