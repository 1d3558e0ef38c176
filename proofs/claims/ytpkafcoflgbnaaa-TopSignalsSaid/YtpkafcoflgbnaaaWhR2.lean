import Derived.Test.YtpkafcoflgbnaaaWLast
import Derived.Test.YtpkafcoflgbnaaaWMore
import Derived.Test.YtpkafcoflgbnaaaProg
import Derived.Test.YtpkafcoflgbnaaaShelf
import Derived.OwnWalk
import Derived.Handy
import Derived.Deep.DeepMust
import Derived.Lib.Hide
import Derived.Outline
import Derived.IntWalk
import Derived.Deep.RegionWith
import Derived.RangeFuncBox
import Derived.RangeFuncNested
import Derived.Maps.Own
import Derived.Maps.AppendAt
import Derived.Maps.Views
import Derived.StringKeys
import Derived.Laws.EntriesVeiled
import Derived.Lib.OwnBridge
import Derived.Deep.DeepCutAuto
import Derived.Deep.RegionHeld3
import Derived.StillTailTactics
import Derived.Deep.QuietTactic
import Derived.BigQuiet
import Derived.Test.YtpkafcoflgbnaaaWhP3
/- Alike, part 1. For all codes. -/
namespace Go.Proofs.Ytpkafcoflgbnaaa.Q
open Go.RowKit Go.Proofs.YtpkafcoflgbnaaaW.PrintWords Go.Proofs.YtpkafcoflgbnaaaW.PrintLast Go.Proofs.YtpkafcoflgbnaaaW.PrintMore Go.Shelf Go.Maps
set_option linter.unusedVariables false
set_option linter.unusedSimpArgs false
/-! Alike: the pairs that are open, the rests that were seen, and the closure that adds a pair. -/
abbrev PV := Value × Value × ByteArray
def cellsP : List PV → List Value
  | [] => []
  | p :: ps => p.1 :: p.2.1 :: .string p.2.2 :: cellsP ps
def restsP (ps : List PV) : List ByteArray := ps.map fun p => p.2.2
theorem cellsP_len : ∀ ps, (cellsP ps).length = ps.length * 3
  | [] => rfl
  | p :: ps => by unfold cellsP; simp only [List.length_cons]; rw [cellsP_len ps]; omega
theorem cellsP_app : ∀ a b, cellsP (a ++ b) = cellsP a ++ cellsP b
  | [], _ => rfl
  | p :: a, b => by simp [cellsP, cellsP_app a b]
theorem cellsP_at : ∀ (ps : List PV) (i : Nat) (h : i < ps.length), (cellsP ps)[i * 3]? = some ps[i].1 ∧ (cellsP ps)[i * 3 + 1]? = some ps[i].2.1 ∧ (cellsP ps)[i * 3 + 2]? = some (.string ps[i].2.2)
  | [], i, h => by simp at h
  | p :: ps, 0, _ => ⟨rfl, rfl, rfl⟩
  | p :: ps, i + 1, h => by
    have := cellsP_at ps i (by simpa using h)
    unfold cellsP
    rw [show (i + 1) * 3 = i * 3 + 1 + 1 + 1 by omega, show i * 3 + 1 + 1 + 1 + 1 = i * 3 + 1 + 1 + 1 + 1 by omega, show i * 3 + 1 + 1 + 1 + 2 = i * 3 + 2 + 1 + 1 + 1 by omega]
    simpa using this
/-- What a walk may write besides: rows of pairs and the variable that holds them. -/
def KeepT (W W' : World) : Prop := ∀ (b : Nat) (cur : Array Value) (t : TypeId) (fr : Nat × Nat), W.heap[b]? = some (Obj.cells cur t fr) → t ≠ 82 → t ≠ 85 → W'.heap[b]? = W.heap[b]?
theorem KeepT.refl (W : World) : KeepT W W := fun _ _ _ _ _ _ _ => rfl
theorem KeepT.trans {W W' W2 : World} (h : KeepT W W') (h2 : KeepT W' W2) : KeepT W W2 := fun b cur t fr hb h82 h85 => by
  have e := h b cur t fr hb h82 h85
  rw [← e]
  exact h2 b cur t fr (e.trans hb) h82 h85
theorem KeepT.below {W W' : World} (h : Below W.heap.size W W') : KeepT W W' := fun b _ _ _ hb _ _ => h.block b (Array.getElem?_eq_some_iff.1 hb).1
theorem KeepT.boxed {W W' : World} (h : KeepT W W') {B : Nat} {t : TypeId} {v : Value} (hb : Boxed W B t v) (h1 : t ≠ 82) (h2 : t ≠ 85) : Boxed W' B t v := (h B _ _ _ hb h1 h2).trans hb
theorem KeepT.sig {W W' : World} (h : KeepT W W') {base : Nat} {v : Value} {S : List Nat} (hs : SigAt W base v S) : SigAt W' base v S := hs.keep fun b _ ⟨cur, hh⟩ => h b cur 3 _ hh (by decide) (by decide)
theorem boxed_ne {W : World} {B B' : Nat} {t t' : TypeId} {v v' : Value} (h : Boxed W B t v) (h' : Boxed W B' t' v') (hne : t ≠ t') : B ≠ B' := fun e => by
  subst e
  have := (show W.heap[B]? = _ from h).symm.trans h'
  injection this with this; injection this with _ h2; exact hne h2
theorem plainElem_bool_inv {H : Type} {P : Program} {e : TypeId} (he : P.underlying e = some .bool) {v : Value} {z : DataW H × List MemPlace} (h : plainElem P e v = some z) : ∃ x, v = .bool x ∧ z = (.lit (.bool x), []) := by
  unfold plainElem at h
  rw [he] at h
  cases v <;> simp at h
  exact ⟨_, rfl, h.symm⟩
/-- The rests that were seen. -/
def SeenAt (W : World) (mb : Nat) (rs : List ByteArray) : Prop :=
  ∃ (n : Nat) (D : DataW Unit), n ≤ rs.length ∧ W.ownsMap Try.prog 9 (plainElem Try.prog 4) mb n D ∧ Maps.IsMap D ∧ ∀ s : ByteArray, D.atKey (.string s.data.toList) (.lit (.bool false)) = .lit (.bool (Lib.containsS rs s))
theorem SeenAt.new (W : World) : SeenAt (W.alloc (.map #[] 0)) W.heap.size [] :=
  ⟨0, .map [], Nat.le_refl _, World.ownsMap_made W Try.prog 9 _, Maps.isMap_empty, fun s => rfl⟩
theorem SeenAt.block {W : World} {mb : Nat} {rs : List ByteArray} (h : SeenAt W mb rs) : ∃ es c, W.heap[mb]? = some (.map es c) := by
  obtain ⟨n, D, -, ⟨es, clock, hb, -⟩, -⟩ := h
  exact ⟨es, clock, hb⟩
theorem SeenAt.keep {W W' : World} {mb : Nat} {rs : List ByteArray} (h : SeenAt W mb rs) (he : W'.heap[mb]? = W.heap[mb]?) : SeenAt W' mb rs := by
  obtain ⟨n, D, h1, ⟨es, clock, hb, F, hs, hD⟩, h3, h4⟩ := h
  exact ⟨n, D, h1, ⟨es, clock, he.trans hb, F, hs, hD⟩, h3, h4⟩
theorem bool_zero (W : World) : (zeroValue 4).run Try.prog W = .ok (.bool false) W := by kernel_rfl
theorem SeenAt.look {W : World} {mb : Nat} {rs : List ByteArray} (h : SeenAt W mb rs) (s : ByteArray) (hs : s.size ≤ maxLen) : (Instr.lookup 83 (.map (some mb)) (.string s) false).run Try.prog W = .ok (.bool (Lib.containsS rs s)) W := by
  obtain ⟨n, D, -, ho, -, hat⟩ := h
  obtain ⟨v, ps, hrun, hv⟩ := ho.lookup (string_keyed Try.underlying9) Try.underlying83 (z := .bool false) (bool_zero W) (plainElem_bool Try.underlying4 false) (WideMaps.keyOf_string_mk Try.underlying9 hs)
  rw [hat s] at hv
  obtain ⟨x, rfl, e⟩ := plainElem_bool_inv Try.underlying4 hv
  have e1 : Lib.containsS rs s = x := by
    have e2 : (DataW.lit (Lit.bool (Lib.containsS rs s)) : DataW Unit) = DataW.lit (Lit.bool x) := congrArg Prod.fst e
    exact Lit.bool.inj (DataW.lit.inj e2)
  subst e1
  exact hrun
theorem string_key_ne {s t : ByteArray} (h : s ≠ t) : (Lit.string s.data.toList) ≠ .string t.data.toList := fun e => by
  injection e with e
  exact h (by cases s; cases t; simp only [Array.toList_inj] at e; rw [e])
theorem others_map {W W' : World} (h : KeepsOthers W W') {b : Nat} {es : Array MapEntry} {c : Nat} (hb : W.heap[b]? = some (.map es c)) : W'.heap[b]? = some (.map es c) := h.same b _ hb rfl
theorem put_isMap {H : Type} {D : DataW H} (h : Maps.IsMap D) (k : Lit) (d : DataW H) : Maps.IsMap (D.put k d) := by
  obtain ⟨es, rfl⟩ := h
  exact ⟨_, rfl⟩
theorem string_iskey (l : List UInt8) : WideAt.IsKeyLit (.string l) := by
  first | trivial | exact ⟨_, rfl⟩ | simp [WideAt.IsKeyLit]
theorem set_other2 {W : World} {p : Addr} {v : Value} {b : Nat} (h : b ≠ p.block) : (W.setCell p v).heap[b]? = W.heap[b]? := by
  have h2 : p.block ≠ b := fun e => h e.symm
  unfold World.setCell
  simp [Array.getElem?_modify, h2]
/-- The state of the search. -/
structure AlAt (W : World) (bo bs mb base pb : Nat) (ps : List PV) : Prop where
  seenBox : Boxed W bs 83 (.map (some mb))
  seen : SeenAt W mb (restsP ps)
  openBox : ∃ v, Boxed W bo 82 v ∧ W.ownsRow base 85 3 v ps.length (cellsP ps) ∧ v.ownBlock ≠ some pb
theorem AlAt.later {W W' : World} {bo bs mb base pb : Nat} {ps : List PV} (h : AlAt W bo bs mb base pb ps) (hb : Below W.heap.size W W') : AlAt W' bo bs mb base pb ps := by
  obtain ⟨h1, h2, v, h3, h4, h5⟩ := h
  have hg : W.grownBy W' none := ⟨hb.os, hb.tape, hb.output, hb.size, fun k hk _ => hb.block k hk⟩
  obtain ⟨es, c, hm⟩ := h2.block
  exact ⟨h1.kept hg (by simp), h2.keep (hb.block mb (Array.getElem?_eq_some_iff.1 hm).1), v, h3.kept hg (by simp), h4.kept hg (by cases v.ownBlock <;> simp), h5⟩
/-- A block that is made now is no row of the pairs. -/
theorem AlAt.fresh {W : World} {bo bs mb base pb : Nat} {ps : List PV} (h : AlAt W bo bs mb base pb ps) (o : Obj) : AlAt (W.alloc o) bo bs mb base W.heap.size ps := by
  obtain ⟨h1, h2, v, h3, h4, -⟩ := h.later ((Below.refl _ _).alloc (Nat.le_refl _) o)
  obtain ⟨-, -, v', h3', h4', -⟩ := h
  have e : v' = v := by
    have := (h3'.alloc o).cell.symm.trans h3.cell
    injection this
  subst e
  exact ⟨h1, h2, v', h3, h4, fun e => by have := (h4'.lt _ e).2; omega⟩
def addPV (ps : List PV) (p : PV) : List PV := if Lib.containsS (restsP ps) p.2.2 = true then ps else ps ++ [p]
theorem info85 : (Try.prog.info? 85).map (fun i => (i.zero, i.size, i.bytes)) = some (some (.agg #[.slice none 0 0, .slice none 0 0, .string ⟨#[]⟩]), 3, 64) := by kernel_rfl
theorem three_new (W : World) (c d e : Value) (t : TypeId) : (W.alloc (.cells #[c, d, e] t)).cell? ⟨W.heap.size, 0, none⟩ = some c ∧ (W.alloc (.cells #[c, d, e] t)).cell? ⟨W.heap.size, 1, none⟩ = some d ∧ (W.alloc (.cells #[c, d, e] t)).cell? ⟨W.heap.size, 2, none⟩ = some e := by
  have h := heap_alloc_new W (.cells #[c, d, e] t)
  exact ⟨by rw [cell_of_row _ _ 0 _ _ _ h]; rfl, by rw [cell_of_row _ _ 1 _ _ _ h]; rfl, by rw [cell_of_row _ _ 2 _ _ _ h]; rfl⟩
theorem three_news (W : World) (c d e : Value) (t : TypeId) : ∀ j u, [c, d, e][j]? = some u → (W.alloc (.cells #[c, d, e] t)).cell? ((⟨W.heap.size, 0, none⟩ : Addr).add j) = some u := by
  intro j u hu
  have h2 := heap_alloc_new W (.cells #[c, d, e] t)
  rw [Addr.add_lit, Nat.zero_add, cell_of_row _ _ j _ _ _ h2]
  simpa using hu
theorem three_one (b1 n1 c1 b2 n2 c2 : Nat) (r : ByteArray) : ∀ u ∈ [Value.slice (some ⟨b1, 0, none⟩) n1 c1, Value.slice (some ⟨b2, 0, none⟩) n2 c2, Value.string r], u.oneCell' = true := by
  intro u hu
  simp only [List.mem_cons, List.not_mem_nil, or_false] at hu
  rcases hu with rfl | rfl | rfl <;> rfl
theorem news_new (W : World) (cs : List Value) (t : TypeId) : ∀ j u, cs[j]? = some u → (W.alloc (.cells cs.toArray t)).cell? ((⟨W.heap.size, 0, none⟩ : Addr).add j) = some u := by
  intro j u hu
  have h2 := heap_alloc_new W (.cells cs.toArray t)
  rw [Addr.add_lit, Nat.zero_add, cell_of_row _ _ j _ _ _ h2]
  simpa using hu
set_option maxHeartbeats 4000000 in
set_option maxRecDepth 100000 in
/-- The closure that adds a pair whose rest was not seen. -/
theorem aladd_calls (bo bs mb base pb : Nat) (ps : List PV) (b1 n1 c1 b2 n2 c2 : Nat) (r : ByteArray) (W : World) (h : AlAt W bo bs mb base pb ps) (hpb : pb < W.heap.size) (hbo : base ≤ bo) (hmb : base ≤ mb) (hlen : ps.length ≤ 10000) (hr : r.size ≤ 1000) :
    Calls Try.prog 78 #[.agg #[.slice (some ⟨b1, 0, none⟩) n1 c1, .slice (some ⟨b2, 0, none⟩) n2 c2, .string r], .pointer (some ⟨bs, 0, none⟩), .pointer (some ⟨bo, 0, none⟩)] W fun e W' =>
      e = .returned (.tuple #[]) ∧ AlAt W' bo bs mb base pb (addPV ps (.slice (some ⟨b1, 0, none⟩) n1 c1, .slice (some ⟨b2, 0, none⟩) n2 c2, r)) ∧ KeepT W W' ∧ Below base W W' ∧ (∀ cur fr, W.heap[pb]? = some (Obj.cells cur 85 fr) → W'.heap[pb]? = W.heap[pb]?) := by
  obtain ⟨v, hob, hrow, hvp⟩ := h.openBox
  have hszW : base ≤ W.heap.size := by have := hob.lt; omega
  have hW1 : Below W.heap.size W (W.alloc (.cells #[.slice (some ⟨b1, 0, none⟩) n1 c1, .slice (some ⟨b2, 0, none⟩) n2 c2, .string r] 85)) := (Below.refl _ _).alloc (Nat.le_refl _) _
  have hA1 := h.later hW1
  have hlook := hA1.seen.look r (by unfold maxLen; omega)
  obtain ⟨d0, d1, d2⟩ := three_new W (.slice (some ⟨b1, 0, none⟩) n1 c1) (.slice (some ⟨b2, 0, none⟩) n2 c2) (.string r) 85
  have hsb := hA1.seenBox.cell
  by_cases hin : Lib.containsS (restsP ps) r = true
  · rw [hin] at hlook
    have Hin := Lib.hid hin
    have HA := Lib.hid hA1
    have HW := Lib.hid hW1
    clear hin hA1 h hW1 hob hrow
    go_enter Try.func78, Try.ntmps78
    go_wp2
    first | go_end0 | go_returns | go_ret
    refine ⟨rfl, ?_, KeepT.below HW.out, HW.out.mono hszW, fun _ _ _ => HW.out.block pb hpb⟩
    unfold addPV
    rw [if_pos Hin.out]
    exact HA.out
  · rw [Bool.eq_false_iff.2 hin] at hlook
    obtain ⟨v', hob1, hrow1, -⟩ := hA1.openBox
    obtain rfl : v = v' := by
      have := (hob.alloc (.cells #[.slice (some ⟨b1, 0, none⟩) n1 c1, .slice (some ⟨b2, 0, none⟩) n2 c2, .string r] 85)).cell.symm.trans hob1.cell
      injection this
    obtain ⟨n, D, hn, hmap, hIs, hat⟩ := hA1.seen
    have hn' : n ≤ 10000 := by unfold restsP at hn; rw [List.length_map] at hn; omega
    have hkey := WideMaps.keyOf_string_mk Try.underlying9 (s := r) (by unfold maxLen; omega)
    obtain ⟨i85, hi85, hz850, hz851, hz852⟩ := info_parts info85
    obtain ⟨W1, hWe⟩ : ∃ W1, W.alloc (.cells #[.slice (some ⟨b1, 0, none⟩) n1 c1, .slice (some ⟨b2, 0, none⟩) n2 c2, .string r] 85) = W1 := ⟨_, rfl⟩
    rw [hWe] at hW1 hA1 hlook d0 d1 d2 hsb hob1 hrow1 hmap
    have hmbk : ∃ es c, W1.heap[mb]? = some (.map es c) := hA1.seen.block
    have htb : W1.heap[W.heap.size]? = some (.cells #[.slice (some ⟨b1, 0, none⟩) n1 c1, .slice (some ⟨b2, 0, none⟩) n2 c2, .string r] 85 (0, 0)) := by rw [← hWe]; exact heap_alloc_new W _
    have nomap : ∀ {b : Nat} {cur : Array Value} {t : TypeId} {fr : Nat × Nat}, W1.heap[b]? = some (.cells cur t fr) → some b ≠ some mb := fun hb e => by
      obtain ⟨es, c, hm⟩ := hmbk
      injection e with e; subst e
      rw [hb] at hm; cases hm
    have nomapv : ∀ {B : Nat} {e : TypeId} {sz : Nat} {u : Value} {m : Nat} {xs : List Value}, W1.ownsRow B e sz u m xs → u.ownBlock = none ∨ u.ownBlock ≠ some mb := fun ho => by
      rcases ho.2 with ⟨rfl, _⟩ | ⟨g, cap, cur, rfl, _, hg, _⟩
      · exact .inl rfl
      · exact .inr (nomap hg)
    have HM := Lib.hid (And.intro hmap (And.intro hIs hat))
    have HK := Lib.hid hA1
    have HW := Lib.hid hW1
    have HT := Lib.hid htb
    have HB1 := Lib.hid hob1
    have HR1 := Lib.hid hrow1
    have Hin := Lib.hid hin
    clear hin hA1 h hW1 hob hrow hmap hIs hat htb hob1 hrow1 hmbk
    go_enter Try.func78, Try.ntmps78
    go_wp2_with (first | (at_mapUpdate; refine wpList_mapUpdate_own _ rfl _ _ _ 83 rfl 9 4 (string_keyed Try.underlying9) Try.underlying83 _ mb n D rfl HM.out.1 (by unfold maxLen; omega) _ _ _ rfl rfl hkey (.lit (.bool true)) [] (plainElem_bool Try.underlying4 true) ?_; intro W2 hm2 hg2; have hob2 := HB1.out.kept hg2 (nomap HB1.out); have hoc2 := hob2.cell; have e0 := hg2.cell d0 (nomap HT.out); have e1 := hg2.cell d1 (nomap HT.out); have e2 := hg2.cell d2 (nomap HT.out); have hrow2 := HR1.out.kept hg2 (nomapv HR1.out)) | (at_builtin; refine wpList_append_own_at _ rfl _ _ 82 rfl base 85 i85 (.agg #[.slice none 0 0, .slice none 0 0, .string ⟨#[]⟩]) 3 64 Try.underlying82 hi85 hz850 hz851 hz852 rfl (by decide) _ ps.length (cellsP ps) rfl (hrow2.alloc _) ⟨_, 0, none⟩ 1 1 [.slice (some ⟨b1, 0, none⟩) n1 c1, .slice (some ⟨b2, 0, none⟩) n2 c2, .string r] rfl rfl (three_news _ _ _ _ _) (three_one _ _ _ _ _ _ _) (by unfold maxLen; omega) (by omega) (by have := hob2.lt; simp; omega) ?_; intro v3 W3 ho3 hg3 hn3 hat3; obtain ⟨g, cap, hv3⟩ := ownsRow_succ ho3; obtain ⟨ha1, ha2, ha3, ha4, ha5⟩ := hob2.appended (tmp := .cells #[.slice (some ⟨b1, 0, none⟩) n1 c1, .slice (some ⟨b2, 0, none⟩) n2 c2, .string r] 85) (by decide) hrow2 (by have := hob2.lt; omega) hbo ho3 hg3; subst hv3; have hac := ha1.cell; have haf := ha1.frozen))
    first | go_end0 | go_returns | go_ret
    have hs2 := HK.out.seenBox.kept hg2 (nomap HK.out.seenBox)
    have hs3 := (hs2.alloc (.cells #[.slice (some ⟨b1, 0, none⟩) n1 c1, .slice (some ⟨b2, 0, none⟩) n2 c2, .string r] 85)).kept hg3 (hs2.not_row (by decide) hrow2)
    have hs4 := hs3.other (boxed_ne hs3 ha1 (by decide)) (.slice (some ⟨g, 0, none⟩) (ps.length + 1) cap)
    have hl : addPV ps (.slice (some ⟨b1, 0, none⟩) n1 c1, .slice (some ⟨b2, 0, none⟩) n2 c2, r) = ps ++ [(.slice (some ⟨b1, 0, none⟩) n1 c1, .slice (some ⟨b2, 0, none⟩) n2 c2, r)] := if_neg Hin.out
    have hmb2 : ∃ es c, W2.heap[mb]? = some (.map es c) := by
      obtain ⟨es, clock, hb, -⟩ := hm2
      exact ⟨es, clock, hb⟩
    refine ⟨rfl, ⟨hs4, ?_, _, ha2, ?_, ?_⟩, ?_, ?_, ?_⟩
    · rw [hl]
      have hmm : (W3.setCell ⟨bo, 0, none⟩ (.slice (some ⟨g, 0, none⟩) (ps.length + 1) cap)).heap[mb]? = W2.heap[mb]? := by
        obtain ⟨es, c, hb⟩ := hmb2
        rw [hb]
        exact others_map ha4 hb
      obtain ⟨es, clock, hb, F, hs, hD⟩ := hm2
      refine ⟨n + 1, D.put (.string r.data.toList) (.lit (.bool true)), by unfold restsP at hn ⊢; simp at hn ⊢; exact hn, ⟨es, clock, hmm.trans hb, F, hs, hD⟩, put_isMap HM.out.2.1 _ _, fun s => ?_⟩
      have hr2 : restsP (ps ++ [(Value.slice (some ⟨b1, 0, none⟩) n1 c1, Value.slice (some ⟨b2, 0, none⟩) n2 c2, r)]) = restsP ps ++ [r] := by unfold restsP; rw [List.map_append]; rfl
      rw [hr2]
      by_cases e : s = r
      · subst e
        rw [Maps.atKey_put_same HM.out.2.1 (string_iskey _)]
        rw [show Lib.containsS (restsP ps ++ [s]) s = true from (Lib.containsS_iff _ _).2 (by simp)]
      · rw [Maps.atKey_put_other (string_key_ne e), HM.out.2.2 s]
        congr 2
        rw [Bool.eq_iff_iff, Lib.containsS_iff, Lib.containsS_iff]
        simp [e]
    · rw [hl, cellsP_app, List.length_append]
      exact ha3
    · intro e
      rcases (show (Value.slice (some ⟨g, 0, none⟩) (ps.length + 1) cap).ownBlock = v.ownBlock ∨ _ from hat3) with h | h
      · exact hvp (h.symm.trans e)
      · have h2 := h.symm.trans e
        injection h2 with h2
        simp at h2
        have := hg2.size
        have := HW.out.size
        omega
    · intro b cur t fr hb h82 h85
      have x1 := (HW.out.block b (Array.getElem?_eq_some_iff.1 hb).1)
      have x2 := hg2.block b (Array.getElem?_eq_some_iff.1 (x1.trans hb)).1 (nomap (x1.trans hb))
      have y2 := x2.trans (x1.trans hb)
      have hlt2 := (Array.getElem?_eq_some_iff.1 y2).1
      have x3 := Below.heap_alloc W2 (.cells #[.slice (some ⟨b1, 0, none⟩) n1 c1, .slice (some ⟨b2, 0, none⟩) n2 c2, .string r] 85) b hlt2
      have x4 := (show World.grownBy _ W3 v.ownBlock from hg3).block b (by simp; omega) (by
        rcases hrow2.2 with ⟨rfl, _⟩ | ⟨g', cap', cur', rfl, _, hg', _⟩
        · simp [Value.ownBlock]
        · intro e
          have e : b = g' := Option.some.inj e
          subst e
          rw [hg'] at y2; injection y2 with y2; injection y2 with _ y2; exact h85 y2.symm)
      have x5 : (W3.setCell ⟨bo, 0, none⟩ (.slice (some ⟨g, 0, none⟩) (ps.length + 1) cap)).heap[b]? = W3.heap[b]?   := set_other2 (by
        intro e
        have e : b = bo := e
        subst e
        have := (show W2.heap[b]? = _ from hob2).symm.trans y2
        injection this with this; injection this with _ h; exact h82 h.symm)
      rw [x5, x4, x3, x2, x1]
    · exact ((HW.out.mono hszW).grown hg2 (by have := HW.out.size; omega) (fun k e => by cases e; exact hmb)).trans ha5
    · intro cur fr hb
      have x1 := HW.out.block pb hpb
      have x2 := hg2.block pb (Array.getElem?_eq_some_iff.1 (x1.trans hb)).1 (nomap (x1.trans hb))
      have y2 := x2.trans (x1.trans hb)
      have hlt2 := (Array.getElem?_eq_some_iff.1 y2).1
      have x3 := Below.heap_alloc W2 (.cells #[.slice (some ⟨b1, 0, none⟩) n1 c1, .slice (some ⟨b2, 0, none⟩) n2 c2, .string r] 85) pb hlt2
      have x4 := (show World.grownBy _ W3 v.ownBlock from hg3).block pb (by simp; omega) (fun e => hvp e.symm)
      have x5 : (W3.setCell ⟨bo, 0, none⟩ (.slice (some ⟨g, 0, none⟩) (ps.length + 1) cap)).heap[pb]? = W3.heap[pb]? := set_other2 (by
        intro e
        have e : pb = bo := e
        subst e
        have := (show W2.heap[pb]? = _ from hob2).symm.trans y2
        injection this with this; injection this with _ h; exact absurd h (by decide))
      rw [x5, x4, x3, x2, x1]
end Go.Proofs.Ytpkafcoflgbnaaa.Q
/- Alike, part 2. For all codes. -/
namespace Go.Proofs.Ytpkafcoflgbnaaa.Q
open Go.RowKit Go.Proofs.YtpkafcoflgbnaaaW.PrintWords Go.Proofs.YtpkafcoflgbnaaaW.PrintLast Go.Proofs.YtpkafcoflgbnaaaW.PrintMore Go.Shelf Go.Maps
set_option linter.unusedVariables false
set_option linter.unusedSimpArgs false
/-! Alike, plainly: pairs with what is left of the longer one; and how they lie in memory. -/
abbrev PQ := List Nat × List Nat × ByteArray
def restsQ (qs : List PQ) : List ByteArray := qs.map fun q => q.2.2
def addQ (qs : List PQ) (q : PQ) : List PQ := if Lib.containsS (restsQ qs) q.2.2 = true then qs else qs ++ [q]
def qAt (qs : List PQ) (i : Nat) : PQ := qs.getD i ([], [], ByteArray.empty)
def sig (C : List ByteArray) (n : Nat) : ByteArray := C.getD n ByteArray.empty
def oneQ1 (p : PQ) (n : Nat) (s : ByteArray) (qs : List PQ) : List PQ := if headB s p.2.2 = true then addQ qs (p.2.1, p.1 ++ [n], restB s p.2.2) else qs
def oneQ2 (p : PQ) (n : Nat) (s : ByteArray) (qs : List PQ) : List PQ := if headB p.2.2 s = true then addQ qs (p.1 ++ [n], p.2.1, restB p.2.2 s) else qs
def oneQ (p : PQ) (n : Nat) (s : ByteArray) (qs : List PQ) : List PQ := oneQ2 p n s (oneQ1 p n s qs)
def folI (C : List ByteArray) (p : PQ) : Nat → Nat → List PQ → Option Nat × List PQ
  | 0, _, qs => (none, qs)
  | d + 1, n, qs => if (sig C n).toList = p.2.2.toList then (some n, qs) else folI C p d (n + 1) (oneQ p n (sig C n) qs)
def followF (C : List ByteArray) : Nat → Nat → List PQ → Option (Option (List Nat × List Nat))
  | 0, _, _ => none
  | k + 1, i, qs => if i = qs.length then some none else if i < qs.length ∧ qs.length ≤ 5000 ∧ (qAt qs i).1.length ≤ 5000 ∧ (qAt qs i).2.1.length ≤ 5000 then
      (match (folI C (qAt qs i) C.length 0 qs).1 with
       | some n => some (some ((qAt qs i).1 ++ [n], (qAt qs i).2.1))
       | none => followF C k (i + 1) (folI C (qAt qs i) C.length 0 qs).2)
    else none
def startI (C : List ByteArray) (i : Nat) : Nat → List PQ → List PQ
  | 0, qs => qs
  | n + 1, qs => if (headB (sig C n) (sig C i) && decide (i ≠ n)) = true then addQ (startI C i n qs) ([i], [n], restB (sig C n) (sig C i)) else startI C i n qs
def startO (C : List ByteArray) : Nat → List PQ
  | 0 => []
  | i + 1 => startI C i C.length (startO C i)
theorem addQ_le (qs : List PQ) (q : PQ) : (addQ qs q).length ≤ qs.length + 1 := by
  unfold addQ; split
  · omega
  · simp
theorem oneQ1_le (p : PQ) (n : Nat) (s : ByteArray) (qs : List PQ) : (oneQ1 p n s qs).length ≤ qs.length + 1 := by
  unfold oneQ1; split
  · exact addQ_le _ _
  · omega
theorem oneQ_le (p : PQ) (n : Nat) (s : ByteArray) (qs : List PQ) : (oneQ p n s qs).length ≤ qs.length + 2 := by
  have h1 := oneQ1_le p n s qs
  unfold oneQ oneQ2; split
  · have := addQ_le (oneQ1 p n s qs) (p.1 ++ [n], p.2.1, restB p.2.2 s); omega
  · omega
theorem startI_le (C : List ByteArray) (i : Nat) : ∀ n qs, (startI C i n qs).length ≤ qs.length + n
  | 0, qs => Nat.le_refl _
  | n + 1, qs => by
    have h := startI_le C i n qs
    unfold startI; split
    · have := addQ_le (startI C i n qs) ([i], [n], restB (sig C n) (sig C i)); omega
    · omega
theorem startO_le (C : List ByteArray) : ∀ i, (startO C i).length ≤ i * C.length
  | 0 => Nat.zero_le _
  | i + 1 => by
    have h := startO_le C i
    have h2 := startI_le C i C.length (startO C i)
    rw [Nat.add_mul]
    show (startI C i C.length (startO C i)).length ≤ _
    omega
theorem restB_le (y x : ByteArray) : (restB y x).size ≤ y.size := by
  unfold restB Lib.trimPrefix
  split
  · show (List.drop _ _).toArray.size ≤ y.data.size
    simp
  · show y.data.toList.toArray.size ≤ y.data.size
    simp
def RestOk (qs : List PQ) : Prop := ∀ q ∈ qs, q.2.2.size ≤ 1000
theorem RestOk.add {qs : List PQ} (h : RestOk qs) {q : PQ} (hq : q.2.2.size ≤ 1000) : RestOk (addQ qs q) := by
  unfold addQ; split
  · exact h
  · intro x hx
    rcases List.mem_append.1 hx with hx | hx
    · exact h x hx
    · obtain rfl := List.mem_singleton.1 hx; exact hq
/-- Pairs of lists, as they lie in memory. -/
def Prs (W : World) (base : Nat) (ps : List PV) (qs : List PQ) : Prop :=
  ps.length = qs.length ∧ ∀ (i : Nat) (h : i < ps.length), ps[i].2.2 = (qAt qs i).2.2 ∧ SigAt W base ps[i].1 (qAt qs i).1 ∧ SigAt W base ps[i].2.1 (qAt qs i).2.1
theorem Prs.rests {W : World} {base : Nat} {ps : List PV} {qs : List PQ} (h : Prs W base ps qs) : restsP ps = restsQ qs := by
  unfold restsP restsQ
  apply List.ext_getElem
  · simp [h.1]
  · intro i h1 h2
    have hi : i < ps.length := by simpa using h1
    have hq : i < qs.length := by simpa using h2
    simp only [List.getElem_map]
    rw [(h.2 i hi).1]
    unfold qAt
    rw [List.getD_eq_getElem?_getD, List.getElem?_eq_getElem hq]; rfl
theorem Prs.keep {W W' : World} {base : Nat} {ps : List PV} {qs : List PQ} (h : Prs W base ps qs) (hk : ∀ v S, SigAt W base v S → SigAt W' base v S) : Prs W' base ps qs :=
  ⟨h.1, fun i hi => ⟨(h.2 i hi).1, hk _ _ (h.2 i hi).2.1, hk _ _ (h.2 i hi).2.2⟩⟩
theorem Prs.add {W : World} {base : Nat} {ps : List PV} {qs : List PQ} (h : Prs W base ps qs) {v1 v2 : Value} {S T : List Nat} {r : ByteArray} (h1 : SigAt W base v1 S) (h2 : SigAt W base v2 T) : Prs W base (addPV ps (v1, v2, r)) (addQ qs (S, T, r)) := by
  unfold addPV addQ
  rw [h.rests]
  split
  · exact h
  · refine ⟨by simp [h.1], fun i hi => ?_⟩
    rw [List.length_append, List.length_singleton] at hi
    by_cases hlt : i < ps.length
    · have hq : i < qs.length := by rw [← h.1]; exact hlt
      have e : qAt (qs ++ [(S, T, r)]) i = qAt qs i := by unfold qAt; rw [List.getD_eq_getElem?_getD, List.getD_eq_getElem?_getD, List.getElem?_append_left hq]
      rw [List.getElem_append_left hlt, e]
      exact h.2 i hlt
    · obtain rfl : i = ps.length := by omega
      have e : qAt (qs ++ [(S, T, r)]) ps.length = (S, T, r) := by unfold qAt; rw [h.1, List.getD_eq_getElem?_getD, List.getElem?_append_right (Nat.le_refl _)]; simp
      rw [e]
      simp only [List.getElem_append_right (Nat.le_refl _), Nat.sub_self, List.getElem_cons_zero]
      exact ⟨trivial, h1, h2⟩
/-- The state of the search, in lists. -/
def ASt (W : World) (bo bs mb base pb : Nat) (qs : List PQ) : Prop := ∃ ps, AlAt W bo bs mb base pb ps ∧ Prs W base ps qs
theorem ASt.later {W W' : World} {bo bs mb base pb : Nat} {qs : List PQ} (h : ASt W bo bs mb base pb qs) (hb : Below W.heap.size W W') : ASt W' bo bs mb base pb qs := by
  obtain ⟨ps, h1, h2⟩ := h
  exact ⟨ps, h1.later hb, h2.keep fun v S hs => hs.below hb⟩
theorem ASt.fresh {W : World} {bo bs mb base pb : Nat} {qs : List PQ} (h : ASt W bo bs mb base pb qs) (o : Obj) : ASt (W.alloc o) bo bs mb base W.heap.size qs := by
  obtain ⟨ps, h1, h2⟩ := h
  exact ⟨ps, h1.fresh o, h2.keep fun v S hs => hs.below ((Below.refl _ _).alloc (Nat.le_refl _) o)⟩
theorem addst_calls (bo bs mb base pb : Nat) (qs : List PQ) (b1 n1 c1 b2 n2 c2 : Nat) (S T : List Nat) (r : ByteArray) (W : World) (h : ASt W bo bs mb base pb qs) (hpb : pb < W.heap.size) (hbo : base ≤ bo) (hmb : base ≤ mb) (hlen : qs.length ≤ 10000) (hr : r.size ≤ 1000)
    (h1 : SigAt W base (.slice (some ⟨b1, 0, none⟩) n1 c1) S) (h2 : SigAt W base (.slice (some ⟨b2, 0, none⟩) n2 c2) T) :
    Calls Try.prog 78 #[.agg #[.slice (some ⟨b1, 0, none⟩) n1 c1, .slice (some ⟨b2, 0, none⟩) n2 c2, .string r], .pointer (some ⟨bs, 0, none⟩), .pointer (some ⟨bo, 0, none⟩)] W fun e W' =>
      e = .returned (.tuple #[]) ∧ ASt W' bo bs mb base pb (addQ qs (S, T, r)) ∧ KeepT W W' ∧ Below base W W' ∧ (∀ cur fr, W.heap[pb]? = some (Obj.cells cur 85 fr) → W'.heap[pb]? = W.heap[pb]?) := by
  obtain ⟨ps, ha, hp⟩ := h
  refine (aladd_calls bo bs mb base pb ps b1 n1 c1 b2 n2 c2 r W ha hpb hbo hmb (by rw [hp.1]; exact hlen) hr).mono ?_
  rintro e W' ⟨rfl, h3, h4, h5, h6⟩
  exact ⟨rfl, ⟨_, h3, (hp.add h1 h2).keep fun v S hs => h4.sig hs⟩, h4, h5, h6⟩
/-- What lies around the search. -/
structure Env (w W : World) (A0 : Option Addr) (n c0 bo bs cB aB bB adB fB : Nat) : Prop where
  below : Below w.heap.size w W
  code : Boxed W cB 22 (.slice A0 n c0)
  ab : Boxed W aB 35 (.slice none 0 0)
  bb : Boxed W bB 35 (.slice none 0 0)
  add : Boxed W adB 86 (.func (.func 78) #[] #[.pointer (some ⟨bs, 0, none⟩), .pointer (some ⟨bo, 0, none⟩)])
theorem Env.keep {w W W' : World} {A0 : Option Addr} {n c0 bo bs cB aB bB adB fB : Nat} (h : Env w W A0 n c0 bo bs cB aB bB adB fB) (hk : KeepT W W') (hb : Below w.heap.size W W') : Env w W' A0 n c0 bo bs cB aB bB adB fB :=
  ⟨h.below.trans hb, hk.boxed h.code (by decide) (by decide), hk.boxed h.ab (by decide) (by decide), hk.boxed h.bb (by decide) (by decide), hk.boxed h.add (by decide) (by decide)⟩
/-- A list of numbers, cloned and one more behind it. -/
theorem clone_calls (W : World) (base : Nat) (v : Value) (S : List Nat) (b n c : Nat) (hv : v = .slice (some ⟨b, 0, none⟩) n c) (h : SigAt W base v S) (hl : S.length ≤ 100000) :
    Calls Try.prog 81 #[.slice (some ⟨b, 0, none⟩) n c] W fun e w' => ∃ v', e = .returned v' ∧ w'.ownsRow W.heap.size 3 1 v' S.length (numsV S) ∧ Below W.heap.size W w' := by
  obtain ⟨b', c', cur, e, -, -, hj, -⟩ := h
  rw [hv] at e
  cases e
  refine (Try.slices_Clone_int b 0 S.length c (S.map fun n : Nat => (n : Int)) W (by simp) (by omega) (fun j hj2 => ?_)).mono ?_
  · rw [Nat.zero_add]
    rw [List.length_map] at hj2
    rw [hj j _ (numsV_get S j hj2)]
    simp [List.getD_eq_getElem?_getD, hj2]
  · rintro e w' ⟨v', rfl, ho, -, hb⟩
    refine ⟨v', rfl, ?_, hb⟩
    have e1 : ((S.map fun n : Nat => (n : Int)).take S.length).map (Value.int .i64) = numsV S := by
      rw [List.take_of_length_le (by simp), List.map_map]; rfl
    rw [e1] at ho
    exact ho
theorem followF_len (C : List ByteArray) : ∀ (k i : Nat) (qs : List PQ) (r : List Nat × List Nat), followF C k i qs = some (some r) → r.1.length ≤ 5001 ∧ r.2.length ≤ 5000
  | 0, _, _, _, h => by cases h
  | k + 1, i, qs, r, h => by
    unfold followF at h
    split at h
    · cases h
    · split at h
      · rename_i hc
        split at h
        · injection h with h
          injection h with h
          rw [← h]
          simp only [List.length_append, List.length_singleton]
          omega
        · exact followF_len C k (i + 1) _ r h
      · cases h
/-- The same, where the new list is told. -/
theorem clone_calls2 (W : World) (base : Nat) (S : List Nat) (b n c : Nat) (h : SigAt W base (.slice (some ⟨b, 0, none⟩) n c) S) (hl : S.length ≤ 100000) :
    Calls Try.prog 81 #[.slice (some ⟨b, 0, none⟩) n c] W fun e w' => ∃ g m cap, e = .returned (.slice (some ⟨g, 0, none⟩) m cap) ∧ w'.ownsRow W.heap.size 3 1 (.slice (some ⟨g, 0, none⟩) m cap) S.length (numsV S) ∧ Below W.heap.size W w' := by
  obtain ⟨b', c', cur, e, -, -, hj, -⟩ := h
  cases e
  refine (Try.slices_Clone_int b 0 S.length c (S.map fun n : Nat => (n : Int)) W (by simp) (by omega) (fun j hj2 => ?_)).mono ?_
  · rw [Nat.zero_add]
    rw [List.length_map] at hj2
    rw [hj j _ (numsV_get S j hj2)]
    simp [List.getD_eq_getElem?_getD, hj2]
  · rintro e w' ⟨v', rfl, ho, hnn, hb⟩
    have e1 : ((S.map fun n : Nat => (n : Int)).take S.length).map (Value.int .i64) = numsV S := by
      rw [List.take_of_length_le (by simp), List.map_map]; rfl
    rw [e1] at ho
    have ho' := ho
    rcases ho.2 with ⟨e, _⟩ | ⟨g, cap, _, rfl, _⟩
    · exact absurd e hnn
    · exact ⟨g, _, cap, rfl, ho', hb⟩
end Go.Proofs.Ytpkafcoflgbnaaa.Q
