/- Cheapest: what lies in memory. For at most 12. -/
import Derived.Test.YtpkafcoflgbnaaaWLast
import Derived.Test.YtpkafcoflgbnaaaWMore
import Derived.Test.YtpkafcoflgbnaaaProg
import Derived.Test.YtpkafcoflgbnaaaShelf
import Derived.OwnWalk
import Derived.Handy
import Derived.Deep.DeepMust
import Derived.Lib.Hide
import Derived.Outline
import Derived.IntWalk
import Derived.Deep.RegionWith
import Derived.Lib.OwnBridge
import Derived.Deep.DeepCutAuto
import Derived.Deep.RegionHeld3
import Derived.StillTailTactics
import Derived.Deep.RegionLawGrows
import Derived.Test.YtpkafcoflgbnaaaWhP2
namespace Go.Proofs.Ytpkafcoflgbnaaa.Q
open Go.RowKit Go.Proofs.YtpkafcoflgbnaaaW.PrintWords Go.Proofs.YtpkafcoflgbnaaaW.PrintLast Go.Proofs.YtpkafcoflgbnaaaW.PrintMore Go.Shelf
set_option linter.unusedVariables false
set_option linter.unusedSimpArgs false
/-! Cheapest: the walk. -/
/-- The branches as they lie in memory. -/
def Brs (P : Value → List Nat → Prop) (es : List BrV) (o : List Br) : Prop :=
  es.length = o.length ∧ ∀ i, i < o.length → (brV es i).1 = (brAt o i).1 ∧ P (brV es i).2 (brAt o i).2
theorem Brs.mono {P Q : Value → List Nat → Prop} {es : List BrV} {o : List Br} (h : Brs P es o) (hp : ∀ v S, P v S → Q v S) : Brs Q es o :=
  ⟨h.1, fun i hi => ⟨(h.2 i hi).1, hp _ _ (h.2 i hi).2⟩⟩
theorem Brs.wts {P : Value → List Nat → Prop} {es : List BrV} {o : List Br} (h : Brs P es o) : wtsV es = wtsB o := by
  unfold wtsV wtsB
  apply List.ext_getElem
  · simp [h.1]
  · intro i h1 h2
    simp only [List.getElem_map]
    have hi : i < o.length := by simpa using h2
    have he : i < es.length := by rw [h.1]; exact hi
    have := (h.2 i hi).1
    unfold brV brAt at this
    rw [List.getD_eq_getElem?_getD, List.getD_eq_getElem?_getD, List.getElem?_eq_getElem hi, List.getElem?_eq_getElem he] at this
    simp only [Option.getD_some] at this
    rw [this]
theorem brV_perm (es : List BrV) (d : List Nat) (i : Nat) (h : i < d.length) : brV (permBr es d) i = brV es (d[i] % es.length) := by
  unfold permBr
  conv => lhs; unfold brV
  rw [List.getD_eq_getElem?_getD, List.getElem?_map, List.getElem?_eq_getElem h]; rfl
theorem Brs.sort {P : Value → List Nat → Prop} {es : List BrV} {o : List Br} (h : Brs P es o) : Brs P (sortV es) (sortB o) := by
  refine ⟨by rw [sortV_len, sortB_len]; exact h.1, fun i hi => ?_⟩
  rw [sortB_len] at hi
  have hn : (ordN (wtsV es)).toList.length = o.length := by rw [Array.length_toList, ordN_size, wtsV_len]; exact h.1
  have hm : (ordN (wtsV es)).toList[i]'(by omega) % o.length < o.length := Nat.mod_lt _ (by omega)
  have e1 : brV (sortV es) i = brV es ((ordN (wtsV es)).toList[i]'(by omega) % o.length) := by
    unfold sortV
    rw [brV_perm _ _ _ (by omega), h.1]
  have e2 : brAt (sortB o) i = brAt o ((ordN (wtsV es)).toList[i]'(by omega) % o.length) := by
    have hw := h.wts
    unfold sortB
    conv => lhs; unfold brAt
    rw [List.getD_eq_getElem?_getD, List.getElem?_map, List.getElem?_eq_getElem (by rw [← hw]; omega)]
    simp only [← hw]; rfl
  rw [e1, e2]
  exact h.2 _ hm
theorem Brs.drop {P : Value → List Nat → Prop} {es : List BrV} {o : List Br} (h : Brs P es o) (k : Nat) : Brs P (es.drop k) (o.drop k) := by
  refine ⟨by simp [h.1], fun i hi => ?_⟩
  have := h.2 (k + i) (by simp at hi; omega)
  unfold brV brAt at this ⊢
  simpa [List.getD_eq_getElem?_getD, List.getElem?_drop] using this
theorem Brs.snoc {P : Value → List Nat → Prop} {es : List BrV} {o : List Br} (h : Brs P es o) {e : BrV} {b : Br} (h1 : e.1 = b.1) (h2 : P e.2 b.2) : Brs P (es ++ [e]) (o ++ [b]) := by
  refine ⟨by simp [h.1], fun i hi => ?_⟩
  rw [List.length_append, List.length_singleton] at hi
  unfold brV brAt
  rw [List.getD_eq_getElem?_getD, List.getD_eq_getElem?_getD]
  by_cases hl : i < o.length
  · rw [List.getElem?_append_left (by rw [h.1]; exact hl), List.getElem?_append_left hl]
    have := h.2 i hl
    unfold brV brAt at this
    simpa [List.getD_eq_getElem?_getD] using this
  · obtain rfl : i = o.length := by omega
    rw [List.getElem?_append_right (by rw [h.1]; exact Nat.le_refl _), List.getElem?_append_right (Nat.le_refl _), h.1]
    simp only [Nat.sub_self, List.getElem?_cons_zero, Option.getD_some]
    exact ⟨h1, h2⟩
theorem info97 : (Try.prog.info? 97).map (fun i => (i.zero, i.size, i.bytes)) = some (some (.agg #[.int .i64 0, .slice none 0 0]), 2, 32) := by kernel_rfl
theorem cheap_bad (A0 : Option Addr) (n c0 : Nat) (e0 : Int) (w : World) (hne : e0 ≠ 0)
    (hv : Calls Try.prog 88 #[.slice A0 n c0] w fun e w' => e = .returned (.int .i64 e0) ∧ Below w.heap.size w w') :
    Calls Try.prog 44 #[.slice A0 n c0] w fun e w' => e = .returned (.tuple #[.slice none 0 0, .int .i64 0, .int .i64 e0]) ∧ Below w.heap.size w w' := by
  have h1 : (e0 == 0) = false := by simpa using hne
  have h2 : (e0 != 0) = true := by simpa using hne
  clear hne
  go_enter Try.func44, Try.ntmps44
  go_wp2_with (first | (go_at_call 88; go_must (with_reducible refine hv.mono ?_); rintro e w' ⟨rfl, hb⟩))
  first | go_ret3 | go_ret2 | go_ret
  exact ⟨rfl, hb⟩
theorem rd_in {l : List Int} {i : Nat} (h : i < l.length) : l[i]? = some (rd l (i : Int)) := by
  unfold rd
  rw [Int.toNat_natCast, List.getD_eq_getElem?_getD, List.getElem?_eq_getElem h]; rfl
theorem startB_take (ws : List Int) (k : Nat) (h : k < ws.length) : (startB ws).take (k + 1) = (startB ws).take k ++ [((rd ws (k : Int)).toNat, [k])] := by
  have hl : k < (startB ws).length := by unfold startB; simpa using h
  rw [List.take_succ_eq_append_getElem hl]
  congr 1
  have : (startB ws)[k] = ((rd ws (k : Int)).toNat, [k]) := by simp [startB]
  rw [this]
theorem brs_nil (P : Value → List Nat → Prop) : Brs P [] [] := ⟨rfl, fun i hi => by simp at hi⟩
/-- An owned row of branches that is not nil lies at a place. -/
theorem open_of_owns {W : World} {base n : Nat} {v : Value} {es : List BrV} (h : W.ownsRow base 97 2 v n (cellsBr es)) (hn : 0 < n) : ∃ g cap, v = .slice (some ⟨g, 0, none⟩) n cap ∧ base ≤ g ∧ OpenAt W g 0 cap (cellsBr es) := by
  obtain ⟨hl, ⟨_, h0⟩ | ⟨g, cap, cur, rfl, hb, hg, h1, h2, h3, h4⟩⟩ := h
  · omega
  · refine ⟨g, cap, rfl, hb, cur, hg, by omega, by rw [hl]; exact Nat.mul_le_mul_right _ h1, h2, fun j hj => ?_⟩
    rw [← h4, List.getElem?_take_of_lt (by omega), Nat.zero_add, Array.getElem?_toList]
theorem cur_row {W : World} {base n : Nat} {e : TypeId} {sz : Nat} {v : Value} {xs : List Value} (h : W.ownsRow base e sz v n xs) : ∀ k, v.ownBlock = some k → ∃ cur, W.heap[k]? = some (.cells cur e (0, 0)) := by
  intro k hk
  rcases h.2 with ⟨rfl, _⟩ | ⟨g, cap, cur, rfl, _, hg, _⟩
  · cases hk
  · cases hk; exact ⟨cur, hg⟩
/-- A list of one signal, just made. -/
theorem sig_new (W : World) (base k : Nat) (hb : base ≤ W.heap.size) (o : Obj) : SigAt ((W.alloc (.cells #[.int .i64 (k : Int)] 3)).alloc o) base (.slice (some ⟨W.heap.size, 0, none⟩) 1 1) [k] := by
  have h2 := heap_alloc_new W (.cells #[.int .i64 (k : Int)] 3)
  have h3 : ((W.alloc (.cells #[.int .i64 (k : Int)] 3)).alloc o).heap[W.heap.size]? = some (.cells #[.int .i64 (k : Int)] 3 (0, 0)) := (Below.heap_alloc _ _ _ (by simp)).trans h2
  refine ⟨W.heap.size, 1, _, rfl, hb, h3, fun j u hu => ?_, Nat.le_refl _, by unfold maxLen; omega, rfl, rfl⟩
  rw [cell_of_row _ _ j _ _ _ h3]
  simpa [numsV] using hu
theorem two_new (W : World) (o : Obj) (c d : Value) (t : TypeId) : ∀ j u, [c, d][j]? = some u → ((W.alloc o).alloc (.cells #[c, d] t)).cell? ((⟨W.heap.size + 1, 0, none⟩ : Addr).add j) = some u := by
  intro j u hu
  have h2 := heap_alloc_new (W.alloc o) (.cells #[c, d] t)
  rw [World.size_alloc] at h2
  rw [Addr.add_lit, Nat.zero_add, cell_of_row _ _ j _ _ _ h2]
  simpa using hu
theorem pair_new (W : World) (c d : Value) (t : TypeId) : (W.alloc (.cells #[c, d] t)).cell? ⟨W.heap.size, 0, none⟩ = some c ∧ (W.alloc (.cells #[c, d] t)).cell? ⟨W.heap.size, 1, none⟩ = some d := by
  have h := heap_alloc_new W (.cells #[c, d] t)
  exact ⟨by rw [cell_of_row _ _ 0 _ _ _ h]; rfl, by rw [cell_of_row _ _ 1 _ _ _ h]; rfl⟩
/-- A list that Concat has made. -/
theorem sig_made {W w' : World} {base : Nat} {v : Value} {S : List Nat} (ho : w'.ownsRow W.heap.size 3 1 v S.length (numsV S)) (hb : base ≤ W.heap.size) (h0 : 0 < S.length) : ∃ b c, v = .slice (some ⟨b, 0, none⟩) S.length c ∧ SigAt w' base v S := by
  rcases ho.2 with ⟨_, h⟩ | ⟨g, cap, cur, rfl, hg, hh, hx⟩
  · omega
  · exact ⟨g, cap, rfl, g, cap, cur, rfl, by omega, hh, fun j u hu => by have := ho.cells rfl j u hu; rwa [Addr.add_lit, Nat.zero_add] at this, hx⟩
/-- What Concat of two branches' signals leaves. -/
def Joined (w5 : World) (base m : Nat) (S : List Nat) (C : World → Prop) (e : Ending) (w' : World) : Prop :=
  ∃ b3 c3, e = .returned (.slice (some ⟨b3, 0, none⟩) m c3) ∧ Hid (SigAt w' base (.slice (some ⟨b3, 0, none⟩) m c3) S) ∧ Hid (Below w5.heap.size w5 w') ∧ C w'
theorem joined_calls (w5 W : World) (base cb m1 m2 : Nat) (S T : List Nat) (v1 v2 : Value) (C : World → Prop) (hb : Below w5.heap.size w5 W) (hbase : base ≤ w5.heap.size) (hc1 : W.cell? ⟨cb, 0, none⟩ = some v1) (hc2 : W.cell? ⟨cb, 1, none⟩ = some v2) (hS : SigAt w5 base v1 S) (hT : SigAt w5 base v2 T)
    (e1 : S.length = m1) (e2 : T.length = m2) (h0 : 0 < m1) (hl : m1 + m2 ≤ 100) (hC : ∀ w', W.grownBy w' none → C w') :
    Calls Try.prog 91 #[.slice (some ⟨cb, 0, none⟩) 2 2] W (Joined w5 base (m1 + m2) (S ++ T) C) := by
  refine (concat_calls W cb S T v1 v2 hc1 hc2 base (hS.below hb) (hT.below hb) (by omega) (by omega)).mono ?_
  rintro e w' ⟨v, rfl, ho, hg⟩
  obtain ⟨b, c, hv, hs⟩ := sig_made (base := base) ho (by have := hb.size; omega) (by rw [List.length_append]; omega)
  have hl : (S ++ T).length = m1 + m2 := by rw [List.length_append, e1, e2]
  rw [hl] at hv
  subst hv
  exact ⟨b, c, rfl, hs, hb.grown hg hb.size (fun k e => by cases e), hC w' hg⟩
theorem zero_kept {W w' : World} {tb : Nat} {c d : Value} (hz : W.heap[tb]? = some (.cells #[c, d] 97 (0, 0))) (hg : W.drew.grownBy w' none) : w'.heap[tb]? = some (.cells #[c, d] 97 (0, 0)) := (hg.block tb (Array.getElem?_eq_some_iff.1 hz).1 (by simp)).trans hz
/-- A pair of cells, both written. -/
theorem pair_set {W : World} {tb : Nat} {c d c' d' : Value} {t : TypeId} (hz : W.heap[tb]? = some (.cells #[c, d] t (0, 0))) : ((W.setCell ⟨tb, 0, none⟩ c').setCell ⟨tb, 1, none⟩ d').heap[tb]? = some (.cells #[c', d'] t (0, 0)) := by
  have hlt := (Array.getElem?_eq_some_iff.1 hz).1
  simp [World.setCell, hz, Array.getElem?_modify]
theorem alloc_next (W : World) (o : Obj) (cs : Array Value) (t : TypeId) : ((W.alloc o).alloc (.cells cs t)).heap[W.heap.size + 1]? = some (.cells cs t (0, 0)) := by
  have h2 := heap_alloc_new (W.alloc o) (.cells cs t)
  rwa [World.size_alloc] at h2
theorem alloc_first (W : World) (cs : Array Value) (t : TypeId) (o : Obj) : ((W.alloc (.cells cs t)).alloc o).heap[W.heap.size]? = some (.cells cs t (0, 0)) :=
  (Below.heap_alloc _ _ _ (by simp)).trans (heap_alloc_new W (.cells cs t))
theorem cell_two (W : World) (c d : Value) (t : TypeId) (o : Obj) : ((W.alloc (.cells #[c, d] t)).alloc o).cell? ⟨W.heap.size, 0, none⟩ = some c ∧ ((W.alloc (.cells #[c, d] t)).alloc o).cell? ⟨W.heap.size, 1, none⟩ = some d := by
  have h := alloc_first W #[c, d] t o
  exact ⟨by rw [cell_of_row _ _ 0 _ _ _ h]; rfl, by rw [cell_of_row _ _ 1 _ _ _ h]; rfl⟩
theorem pair_is {W : World} {tb : Nat} {c d : Value} {t : TypeId} (h : W.heap[tb]? = some (.cells #[c, d] t (0, 0))) : W.cell? ⟨tb, 0, none⟩ = some c ∧ W.cell? ⟨tb, 1, none⟩ = some d ∧ W.frozen? ⟨tb, 0, none⟩ = false ∧ W.frozen? ⟨tb, 1, none⟩ = false :=
  ⟨by rw [cell_of_row _ _ 0 _ _ _ h]; rfl, by rw [cell_of_row _ _ 1 _ _ _ h]; rfl, by simp [World.frozen?, h], by simp [World.frozen?, h]⟩
theorem set_other {W : World} {p : Addr} {v : Value} {b : Nat} (h : b ≠ p.block) : (W.setCell p v).heap[b]? = W.heap[b]? := by
  have h2 : p.block ≠ b := fun e => h e.symm
  unfold World.setCell
  simp [Array.getElem?_modify, h2]
theorem SigAt.pair {W : World} {base tb : Nat} {v c d c' d' : Value} {S : List Nat} (h : SigAt W base v S) (hz : W.heap[tb]? = some (.cells #[c, d] 97 (0, 0))) : SigAt ((W.setCell ⟨tb, 0, none⟩ c').setCell ⟨tb, 1, none⟩ d') base v S :=
  h.keep fun b _ ⟨cur, hh⟩ => by
    have hne : b ≠ tb := fun e => by subst e; rw [hh] at hz; injection hz with hz; injection hz with _ hz; exact absurd hz (by decide)
    rw [set_other (by exact hne), set_other (by exact hne)]
/-- A branch behind the others, where there is room. -/
theorem open_room {W : World} {g off cap n : Nat} {es : List BrV} (h : OpenAt W g off cap (cellsBr es)) (hn : es.length = n) (hr : n + 1 ≤ cap) (e : BrV) :
    OpenAt (W.setCells g (off + n * 2) [.int .i64 (e.1 : Int), e.2]) g off cap (cellsBr (es ++ [e])) ∧ W.grownBy (W.setCells g (off + n * 2) [.int .i64 (e.1 : Int), e.2]) (some g) := by
  obtain ⟨cur, hb, hs, hl, hm, hc⟩ := h
  rw [cellsBr_len, hn] at hl hc
  have hlt := (Array.getElem?_eq_some_iff.1 hb).1
  refine ⟨⟨(cur.setIfInBounds (off + n * 2) (.int .i64 (e.1 : Int))).setIfInBounds (off + n * 2 + 1) e.2, ?_, by simpa using hs, by rw [cellsBr_len, List.length_append, hn]; simp; omega, hm, fun j hj => ?_⟩, ?_⟩
  · show (World.setCell _ _ _).heap[g]? = _
    simp [World.setCell, Array.getElem?_modify, hb]
  · rw [cellsBr_len, List.length_append, hn] at hj
    simp only [List.length_singleton] at hj
    rw [cellsBr_app]
    by_cases h1 : j < n * 2
    · rw [List.getElem?_append_left (by rw [cellsBr_len, hn]; exact h1), ← hc j h1, Array.getElem?_setIfInBounds_ne (by omega), Array.getElem?_setIfInBounds_ne (by omega)]
    · rw [List.getElem?_append_right (by rw [cellsBr_len, hn]; omega), cellsBr_len, hn]
      rcases (by omega : j = n * 2 ∨ j = n * 2 + 1) with rfl | rfl
      · rw [Array.getElem?_setIfInBounds_ne (by omega), Array.getElem?_setIfInBounds_self_of_lt (by omega), Nat.sub_self]; rfl
      · rw [← Nat.add_assoc, Array.getElem?_setIfInBounds_self_of_lt (by simp; omega), Nat.add_sub_cancel_left]; rfl
  · refine ⟨rfl, rfl, rfl, by show _ ≤ (World.setCell _ _ _).heap.size; simp [World.setCell], fun k hk hne => ?_⟩
    have h2 : k ≠ g := fun e => hne (by rw [e])
    show (World.setCell (World.setCell _ _ _) _ _).heap[k]? = _
    rw [set_other (by exact h2), set_other (by exact h2)]
/-- A row of branches without its first ones. -/
theorem OpenAt.drop {W : World} {g off cap : Nat} {a b : BrV} {es : List BrV} (h : OpenAt W g off cap (cellsBr (a :: b :: es))) : OpenAt W g (off + 4) (cap - 2) (cellsBr es) ∧ 2 ≤ cap ∧ (cap = 2 → es = [] ∧ OpenAt W g off 0 (cellsBr [])) := by
  obtain ⟨cur, hb, hs, hl, hm, hc⟩ := h
  rw [cellsBr_len] at hl
  simp only [List.length_cons] at hl
  have h2 : 2 ≤ cap := by omega
  refine ⟨⟨cur, hb, by omega, by rw [cellsBr_len]; omega, by omega, fun j hj => ?_⟩, h2, fun e => ⟨?_, cur, hb, by omega, Nat.zero_le _, Nat.zero_le _, fun j hj => by simp [cellsBr] at hj⟩⟩
  · have := hc (j + 4) (by rw [cellsBr_len] at hj ⊢; simp only [List.length_cons]; omega)
    rw [show off + 4 + j = off + (j + 4) by omega, this]
    simp [cellsBr]
  · exact List.eq_nil_of_length_eq_zero (by omega)
theorem bump_snoc (i : Nat) : ∀ (S : List Nat) (l : List Nat), bump l (S ++ [i]) = (bump l S).set i ((bump l S).getD i 0 + 1)
  | [], l => rfl
  | x :: S, l => by
    show bump (l.set x (l.getD x 0 + 1)) (S ++ [i]) = _
    rw [bump_snoc i S]
    rfl
theorem bump_le : ∀ (S : List Nat) (l : List Nat) (j m : Nat), (∀ i, l.getD i 0 ≤ m) → (bump l S).getD j 0 ≤ m + S.length
  | [], l, j, m, h => h j
  | x :: S, l, j, m, h => by
    have := bump_le S (l.set x (l.getD x 0 + 1)) j (m + 1) fun i => by
      by_cases e : x = i
      · subst e
        by_cases hx : x < l.length
        · have := h x
          simp [List.getD_eq_getElem?_getD, hx] at this ⊢; omega
        · have := h x
          rw [List.set_eq_of_length_le (by omega)]; omega
      · have h2 : (l.set x (l.getD x 0 + 1)).getD i 0 = l.getD i 0 := by simp [List.getD_eq_getElem?_getD, List.getElem?_set_ne e]
        rw [h2]; have := h i; omega
    unfold bump
    rw [List.length_cons]; omega
theorem Good.br_len {n : Nat} {o : List Br} {l : List Nat} (h : Good n o l) {b : Br} (hb : b ∈ o) : b.2.length ≤ n := by
  have h1 : (o.flatMap fun b => b.2).length = n := by rw [h.part.length_eq, List.length_range]
  obtain ⟨s, t, rfl⟩ := List.append_of_mem hb
  rw [List.flatMap_append, List.flatMap_cons, List.length_append, List.length_append] at h1
  omega
theorem Good.small {n : Nat} {o : List Br} {l : List Nat} (h : Good n o l) (j : Nat) : l.getD j 0 ≤ n := by
  by_cases hj : j < n
  · obtain ⟨b, hb, hi⟩ := List.mem_flatMap.1 (h.part.mem_iff.2 (List.mem_range.2 hj))
    exact Nat.le_trans (h.low b hb j hi) (h.br_len hb)
  · rw [List.getD_eq_getElem?_getD, List.getElem?_eq_none (by rw [h.len]; omega)]; exact Nat.zero_le _
theorem C_of_nums {W : World} {base lb n : Nat} {S : List Nat} (h : W.ownsRow base 3 1 (.slice (some ⟨lb, 0, none⟩) n n) n (numsV S)) (hS : S.length = n) (h12 : n ≤ 12) : Kd.C (Kd.int .i64) W (some ⟨lb, 0, none⟩) n (S.map fun n : Nat => (n : Int)) := by
  refine Kd.C_of_reads (d := (0 : Int)) ⟨by simp [hS], by omega, fun _ => ⟨_, rfl, fun j hj => ?_⟩⟩
  rw [Addr.add_lit, Nat.zero_add]
  refine (h.cellAt j (by omega)).trans ?_
  rw [numsV_get S j (by omega)]
  have hj2 : j < S.length := by omega
  simp [List.getD_eq_getElem?_getD, hj2]
/-- What holds ahead of each round of the putting together. -/
def ChRel (n lb base : Nat) (R : List Nat) (w4 : World) (gh : Nat) (q : Value) (wr : World) : Prop :=
  ∃ (o : List Br) (l : List Nat) (es : List BrV) (gb off cap : Nat), q = .slice (some ⟨gb, off, none⟩) o.length cap ∧ 1 ≤ o.length ∧ o.length ≤ gh + 1 ∧ Good n o l ∧ cheapRun o.length o l = R ∧ wr.ownsRow lb 3 1 (.slice (some ⟨lb, 0, none⟩) n n) n (numsV l) ∧
    OpenAt wr gb off cap (cellsBr es) ∧ base ≤ gb ∧ Brs (SigAt wr base) es o ∧ Below lb w4 wr
theorem numsV_zero (n : Nat) : (madeCells (Value.int .i64 0).cells (n * 1)).toList = numsV (List.replicate n 0) := by
  rw [show (Value.int IntKind.i64 0).cells = #[Value.int .i64 0] from rfl, toList_madeCells_one, Nat.mul_one]
  unfold numsV
  rw [List.map_replicate]; rfl
theorem sort_two {P : Value → List Nat → Prop} {es : List BrV} {o : List Br} (h : Brs P es o) (h2 : 2 ≤ o.length) :
    ∃ v1 v2 er, sortV es = ((brAt (sortB o) 0).1, v1) :: ((brAt (sortB o) 1).1, v2) :: er ∧ P v1 (brAt (sortB o) 0).2 ∧ P v2 (brAt (sortB o) 1).2 ∧ Brs P er ((sortB o).drop 2) := by
  have hs := h.sort
  have hl := sortB_len o
  have h0 := hs.2 0 (by omega)
  have h1 := hs.2 1 (by omega)
  have hd := hs.drop 2
  have hl2 : (sortV es).length = o.length := by rw [hs.1, hl]
  revert h0 h1 hd
  generalize sortV es = s at hl2
  match s, hl2 with
  | [], e => simp at e; omega
  | [x], e => simp at e; omega
  | x :: y :: er, e =>
    intro h0 h1 hd
    obtain ⟨x1, x2⟩ := x
    obtain ⟨y1, y2⟩ := y
    simp only [brV, List.getD_cons_zero, List.getD_cons_succ] at h0 h1
    exact ⟨x2, y2, er, by rw [← h0.1, ← h1.1], h0.2, h1.2, hd⟩
theorem Brs.oneCell {W : World} {base : Nat} {es : List BrV} {o : List Br} (h : Brs (SigAt W base) es o) : ∀ e ∈ es, e.2.oneCell' = true := by
  intro e he
  obtain ⟨i, hi, rfl⟩ := List.getElem_of_mem he
  have := (h.2 i (by rw [← h.1]; exact hi)).2.oneCell
  unfold brV at this
  rwa [List.getD_eq_getElem?_getD, List.getElem?_eq_getElem hi] at this
theorem OpenAt.type {W : World} {g off cap : Nat} {cs : List Value} (h : OpenAt W g off cap cs) (base : Nat) : ∀ k, some g = some k → k < base ∨ ∃ cur, W.heap[k]? = some (.cells cur 97 (0, 0)) := by
  obtain ⟨cur, hb, -⟩ := h
  intro k e
  cases e
  exact .inr ⟨cur, hb⟩
/-- An append of a branch, at a step of a region that draws its order. -/
theorem step_open {ops : Array Oper} {o : Oper} {a : Act} {w : World} {K : Act → World → Prop} {Q : Exit → Act → World → Prop} {E : Prop} (hg : o.guard = none) (s x : Operand) (hop : o.op = Op.call { callee := Callee.builtin Builtin.append, args := #[s, x], argTypes := #[95, 95] })
    (g off n cap : Nat) (es : List BrV) (hs : a.eval s = .slice (some ⟨g, off, none⟩) n cap) (ho : OpenAt w g off cap (cellsBr es)) (hn : es.length = n) (ad : Addr) (e : BrV) (hx : a.eval x = .slice (some ad) 1 1)
    (hc : ∀ j u, [Value.int .i64 (e.1 : Int), e.2][j]? = some u → w.cell? (ad.add j) = some u) (h1 : e.2.oneCell' = true) (hsm : n ≤ 1000)
    (hK : ∀ g2 off2 cap2 w', OpenAt w' g2 off2 cap2 (cellsBr (es ++ [e])) → w.grownBy w' (some g) → (g2 = g ∨ w.heap.size ≤ g2) → K (a.put o.dst (.slice (some ⟨g2, off2, none⟩) (n + 1) cap2)) w') :
    if Region.wanted o (yielded ops a.tmps) = true then Oper.wp Try.prog o a w K Q else E := by
  obtain ⟨i97, hi97, hz970, hz971, hz972⟩ := info_parts info97
  have hone : ∀ u ∈ [Value.int .i64 (e.1 : Int), e.2], u.oneCell' = true := fun u hu => by
    rcases List.mem_cons.1 hu with rfl | hu
    · rfl
    · obtain rfl := List.mem_singleton.1 hu; exact h1
  by_cases hr : n + 1 ≤ cap
  · obtain ⟨r1, r2⟩ := open_room ho hn hr e
    refine step_append_room hg s x 95 hop 97 i97 2 Try.underlying95 hi97 hz971 g off n cap hs ad 1 1 _ hx rfl hc hone hr (fun j hj => ?_) (hK g off cap _ r1 r2 (.inl rfl))
    obtain ⟨cur, hb, hz, -⟩ := ho
    have hlt : off + n * 2 + j < cur.size := by simp at hj; omega
    exact ⟨by rw [cell_of_row _ _ _ _ _ _ hb, Array.getElem?_eq_getElem hlt]; rfl, by simp [World.frozen?, hb]⟩
  · refine step_append_grows hg s x 95 hop 97 i97 (.agg #[.int .i64 0, .slice none 0 0]) 2 32 Try.underlying95 hi97 hz970 hz971 hz972 rfl (by decide) (some ⟨g, off, none⟩) n cap (cellsBr es) hs (fun h => by cases h) (by rw [cellsBr_len, hn]) (fun b hb j u hu => by cases hb; rw [Addr.add_lit]; exact (ho.cell hu).1) ad 1 1 _ hx rfl hc hone (by omega) (by unfold maxLen; omega) (by omega) (fun v' w' hw hgw => ?_)
    have hap : cellsBr es ++ [Value.int .i64 (e.1 : Int), e.2] = cellsBr (es ++ [e]) := by rw [cellsBr_app]; rfl
    rw [hap] at hw
    obtain ⟨g2, cap2, rfl, hb2, ho2⟩ := open_of_owns hw (by omega)
    exact hK g2 0 cap2 w' ho2 ⟨hgw.os, hgw.tape, hgw.output, hgw.size, fun k hk _ => hgw.block k hk (by simp)⟩ (.inr hb2)
theorem one_new (W : World) (c d : Value) (t : TypeId) : ∀ j u, [c, d][j]? = some u → ((W.alloc (.cells #[c, d] t)).drew).cell? ((⟨W.heap.size, 0, none⟩ : Addr).add j) = some u := by
  intro j u hu
  have h2 := heap_alloc_new W (.cells #[c, d] t)
  rw [Addr.add_lit, Nat.zero_add]
  show (W.alloc (.cells #[c, d] t)).cell? _ = _
  rw [cell_of_row _ _ j _ _ _ h2]
  simpa using hu
/-- What holds behind a round. -/
theorem rel_next {n lb base : Nat} {R : List Nat} {w4 wr w8 w7 : World} {o : List Br} {l : List Nat} {a b : Br} {r : List Br} {er : List BrV} {gq off cap g2 off2 cap2 gh : Nat} {v3 : Value} {N : Nat} {cs : List Value}
    (hgd : Good n o l) (h2 : 2 ≤ o.length) (hbo : bothB o = joinB a b) (hso : stepO o = r ++ [joinB a b]) (hrn : cheapRun o.length o l = R) (hlb : lb < base) (hgq : base ≤ gq) (hgh : o.length ≤ gh + 2)
    (hlk : wr.ownsRow lb 3 1 (.slice (some ⟨lb, 0, none⟩) n n) n (numsV (bump l (a.2 ++ b.2)))) (hop : OpenAt wr gq off cap cs) (hsg : SigAt wr base v3 (a.2 ++ b.2)) (hpk : Brs (SigAt wr base) er r) (hbw : Below lb w4 wr) (hw : base ≤ wr.heap.size)
    (hb8 : Below wr.heap.size wr w8) (ho7 : OpenAt w7 g2 off2 cap2 (cellsBr (er ++ [(a.1 + b.1, v3)]))) (hg7 : w8.grownBy w7 (some gq)) (hat : g2 = gq ∨ w8.heap.size ≤ g2) (hN : N + 2 = o.length) :
    ChRel n lb base R w4 gh (.slice (some ⟨g2, off2, none⟩) (N + 1) cap2) w7 := by
  have hl := stepO_len h2
  have hgood := hgd.step h2
  have hj : (bothB o).2 = a.2 ++ b.2 := by rw [hbo]; rfl
  rw [hj] at hgood
  have hlen : (stepO o).length = N + 1 := by omega
  have hop8 := hop.below hb8 hop.lt
  have htyp := hop8.type base
  refine ⟨stepO o, bump l (a.2 ++ b.2), er ++ [(a.1 + b.1, v3)], g2, off2, cap2, by rw [hlen], by omega, by omega, hgood, ?_, ?_, ho7, ?_, ?_, ?_⟩
  · have : o.length = (stepO o).length + 1 := by omega
    rw [this] at hrn
    unfold cheapRun at hrn
    rw [if_neg (by omega), hj] at hrn
    exact hrn
  · exact (own_below hlk hb8).kept hg7 (.inr (by intro e; have e : lb = gq := Option.some.inj e; omega))
  · rcases hat with rfl | h
    · exact hgq
    · have := hb8.size; omega
  · rw [hso]
    exact (hpk.mono fun v S hs => (hs.below hb8).grown hg7 htyp).snoc rfl ((hsg.below hb8).grown hg7 htyp)
  · have hs := hb8.size
    exact (hbw.trans (hb8.mono (by omega))).grown hg7 (by omega) (fun k e => by cases e; omega)
end Go.Proofs.Ytpkafcoflgbnaaa.Q
