import Derived.Test.YtpkafcoflgbnaaaWLast
import Derived.Test.YtpkafcoflgbnaaaWMore
import Derived.Test.YtpkafcoflgbnaaaProg
import Derived.Test.YtpkafcoflgbnaaaShelf
import Derived.OwnWalk
import Derived.Handy
import Derived.Deep.DeepMust
import Derived.Lib.Hide
import Derived.Outline
import Derived.IntWalk
import Derived.Deep.RegionWith
import Derived.Lib.OwnBridge
import Derived.Test.YtpkafcoflgbnaaaWh4
import Derived.Test.YtpkafcoflgbnaaaShelfB
import Derived.Deep.QuietTactic
import Derived.BigQuiet
import Derived.Sort.LotA
/- The cheapest lengths: a row of branches and its sort. For at most 12. -/
namespace Go.Proofs.Ytpkafcoflgbnaaa.Q
open Go.RowKit Go.Proofs.YtpkafcoflgbnaaaW.PrintWords Go.Proofs.YtpkafcoflgbnaaaW.PrintLast Go.Proofs.YtpkafcoflgbnaaaW.PrintMore Go.Shelf
set_option linter.unusedVariables false
set_option linter.unusedSimpArgs false
/-! Cheapest, plainly: the branches (their weights and signals), and the lengths so far. -/
abbrev Br := Nat × List Nat
def wtsB (o : List Br) : List Int := o.map fun b => (b.1 : Int)
def brAt (o : List Br) (i : Nat) : Br := o.getD i (0, [])
def sortB (o : List Br) : List Br := (ordN (wtsB o)).toList.map fun x => brAt o (x % o.length)
def joinB (a b : Br) : Br := (a.1 + b.1, a.2 ++ b.2)
def bump : List Nat → List Nat → List Nat
  | l, [] => l
  | l, i :: S => bump (l.set i (l.getD i 0 + 1)) S
def bothB (o : List Br) : Br := joinB (brAt (sortB o) 0) (brAt (sortB o) 1)
def stepO (o : List Br) : List Br := (sortB o).drop 2 ++ [bothB o]
def cheapRun : Nat → List Br → List Nat → List Nat
  | 0, _, l => l
  | k + 1, o, l => if o.length ≤ 1 then l else cheapRun k (stepO o) (bump l (bothB o).2)
def startB (ws : List Int) : List Br := (List.range ws.length).map fun i : Nat => ((rd ws (i : Int)).toNat, [i])
def firstL (n : Nat) : List Nat := if n = 1 then [1] else List.replicate n 0
def cheapL (ws : List Int) : List Nat := cheapRun ws.length (startB ws) (firstL ws.length)
theorem wtsB_len (o : List Br) : (wtsB o).length = o.length := by unfold wtsB; rw [List.length_map]
theorem wtsB_rd (o : List Br) (i : Nat) (h : i < o.length) : rd (wtsB o) (i : Int) = ((brAt o i).1 : Int) := by
  unfold rd wtsB brAt
  rw [Int.toNat_natCast, List.getD_eq_getElem?_getD, List.getElem?_map, List.getD_eq_getElem?_getD, List.getElem?_eq_getElem h]; rfl
theorem sortB_len (o : List Br) : (sortB o).length = o.length := by unfold sortB; rw [List.length_map, Array.length_toList, ordN_size, wtsB_len]
theorem ordN_perm (l : List Int) : (ordN l).toList.Perm (List.range l.length) := by
  have h := (ordN_holds l).1.2.2
  have e : (ordN l).extract 0 l.length = ordN l := by rw [← ordN_size l]; simp
  rw [e] at h
  simpa using h
theorem map_range (o : List Br) : (List.range o.length).map (fun x => brAt o (x % o.length)) = o := by
  apply List.ext_getElem
  · simp
  · intro i h1 h2
    simp only [List.getElem_map, List.getElem_range]
    rw [Nat.mod_eq_of_lt h2]
    unfold brAt
    rw [List.getD_eq_getElem?_getD, List.getElem?_eq_getElem h2]; rfl
theorem sortB_perm (o : List Br) : (sortB o).Perm o := by
  have h := (ordN_perm (wtsB o)).map fun x => brAt o (x % o.length)
  rw [wtsB_len, map_range] at h
  exact h
theorem sortB_sorted (o : List Br) : (sortB o).Pairwise fun a b => a.1 ≤ b.1 := by
  rw [List.pairwise_iff_getElem]
  intro i j hi hj hij
  have hn : (ordN (wtsB o)).size = o.length := by rw [ordN_size, wtsB_len]
  have hi' : i < o.length := by rw [sortB_len] at hi; exact hi
  have hj' : j < o.length := by rw [sortB_len] at hj; exact hj
  have h := (ordN_holds (wtsB o)).2 i j (Nat.zero_le _) hij (by rw [wtsB_len]; exact hj')
  rw [getElem!_pos (ordN (wtsB o)) j (by omega), getElem!_pos (ordN (wtsB o)) i (by omega), lt_cfN, decide_eq_false_iff_not] at h
  have hp : 0 < o.length := by omega
  have hm : ∀ x, x % (wtsB o).length < o.length := fun x => by rw [wtsB_len]; exact Nat.mod_lt _ hp
  rw [wtsB_rd _ _ (hm _), wtsB_rd _ _ (hm _), wtsB_len] at h
  have hg : ∀ k (hk : k < (sortB o).length), (sortB o)[k] = brAt o ((ordN (wtsB o))[k]'(by rw [sortB_len] at hk; omega) % o.length) := fun k hk => by simp [sortB]
  rw [hg, hg]
  omega
/-- The two lightest branches, and the others. -/
theorem sortB_cases {o : List Br} (h : 2 ≤ o.length) : ∃ a b r, sortB o = a :: b :: r ∧ bothB o = joinB a b ∧ stepO o = r ++ [joinB a b] ∧ o.Perm (a :: b :: r) ∧ (∀ x ∈ b :: r, a.1 ≤ x.1) ∧ (∀ x ∈ r, b.1 ≤ x.1) := by
  have hl := sortB_len o
  have hp := sortB_perm o
  have hs := sortB_sorted o
  unfold stepO bothB brAt
  generalize sortB o = s at hl hp hs
  match s, hl with
  | [], hl => simp at hl; omega
  | [a], hl => simp at hl; omega
  | a :: b :: r, hl =>
    rw [List.pairwise_cons, List.pairwise_cons] at hs
    exact ⟨a, b, r, rfl, rfl, rfl, hp.symm, hs.1, hs.2.1⟩
theorem stepO_len {o : List Br} (h : 2 ≤ o.length) : (stepO o).length + 1 = o.length := by
  obtain ⟨a, b, r, -, -, e, hp, -, -⟩ := sortB_cases h
  have := hp.length_eq
  rw [e]; simp at this ⊢; omega
theorem bump_len : ∀ (S : List Nat) (l : List Nat), (bump l S).length = l.length
  | [], _ => rfl
  | i :: S, l => by unfold bump; rw [bump_len S, List.length_set]
/-- What the walk needs to know of branches and lengths. -/
structure Good (n : Nat) (o : List Br) (l : List Nat) : Prop where
  part : (o.flatMap fun b => b.2).Perm (List.range n)
  len : l.length = n
  wt : ∀ b ∈ o, b.1 ≤ 1000 * b.2.length
  ne : ∀ b ∈ o, b.2 ≠ []
  low : ∀ b ∈ o, ∀ i ∈ b.2, l.getD i 0 ≤ b.2.length
theorem bump_get : ∀ (S : List Nat) (l : List Nat) (j : Nat), S.Nodup → (∀ i ∈ S, i < l.length) → (bump l S).getD j 0 = l.getD j 0 + (if j ∈ S then 1 else 0)
  | [], l, j, _, _ => by simp [bump]
  | i :: S, l, j, hn, hi => by
    rw [List.nodup_cons] at hn
    unfold bump
    rw [bump_get S _ j hn.2 (fun k hk => by rw [List.length_set]; exact hi k (List.mem_cons_of_mem _ hk))]
    have hil := hi i (List.mem_cons_self ..)
    by_cases e : i = j
    · subst e
      rw [if_neg hn.1, if_pos (List.mem_cons_self ..)]
      simp [List.getD_eq_getElem?_getD, hil]
    · have e2 : (l.set i (l.getD i 0 + 1)).getD j 0 = l.getD j 0 := by simp [List.getD_eq_getElem?_getD, List.getElem?_set_ne e]
      rw [e2]
      congr 1
      by_cases hj : j ∈ S
      · rw [if_pos hj, if_pos (List.mem_cons_of_mem _ hj)]
      · rw [if_neg hj, if_neg (fun h => by rcases List.mem_cons.1 h with h | h; exact e h.symm; exact hj h)]
theorem Good.perm {n : Nat} {o o' : List Br} {l : List Nat} (h : Good n o l) (hp : o.Perm o') : Good n o' l where
  part := ((hp.flatMap_right _).symm.trans h.part)
  len := h.len
  wt := fun b hb => h.wt b (hp.mem_iff.2 hb)
  ne := fun b hb => h.ne b (hp.mem_iff.2 hb)
  low := fun b hb => h.low b (hp.mem_iff.2 hb)
theorem Good.join {n : Nat} {a b : Br} {r : List Br} {l : List Nat} (h : Good n (a :: b :: r) l) : Good n (joinB a b :: r) (bump l (joinB a b).2) ∧ (joinB a b).2.Nodup ∧ (∀ i ∈ (joinB a b).2, i < n) ∧ (∀ x ∈ r, ∀ i ∈ x.2, i ∉ (joinB a b).2) := by
  have hpart := h.part
  have hnd : ((a :: b :: r).flatMap fun b => b.2).Nodup := hpart.nodup_iff.2 List.nodup_range
  have e0 : ((a :: b :: r).flatMap fun b => b.2) = (joinB a b).2 ++ (r.flatMap fun b => b.2) := by simp [joinB]
  rw [e0] at hnd hpart
  obtain ⟨hn1, hn2, hn3⟩ := List.nodup_append.1 hnd
  have hlt : ∀ i ∈ (joinB a b).2, i < n := fun i hi => List.mem_range.1 (hpart.mem_iff.1 (List.mem_append_left _ hi))
  have hdis : ∀ x ∈ r, ∀ i ∈ x.2, i ∉ (joinB a b).2 := fun x hx i hi hj => hn3 i hj i (List.mem_flatMap.2 ⟨x, hx, hi⟩) rfl
  have hget := fun j => bump_get (joinB a b).2 l j hn1 (fun i hi => by rw [h.len]; exact hlt i hi)
  have ha := h.ne a (by simp)
  have hb := h.ne b (by simp)
  have hal : 0 < a.2.length := List.length_pos_iff.2 ha
  have hbl : 0 < b.2.length := List.length_pos_iff.2 hb
  refine ⟨⟨by rw [List.flatMap_cons]; exact hpart, by rw [bump_len]; exact h.len, fun x hx => ?_, fun x hx => ?_, fun x hx i hi => ?_⟩, hn1, hlt, hdis⟩
  · rcases List.mem_cons.1 hx with rfl | hx
    · have h1 := h.wt a (by simp)
      have h2 := h.wt b (by simp)
      simp only [joinB, List.length_append]; omega
    · exact h.wt x (by simp [hx])
  · rcases List.mem_cons.1 hx with rfl | hx
    · simp [joinB, ha]
    · exact h.ne x (by simp [hx])
  · rcases List.mem_cons.1 hx with rfl | hx
    · rw [hget, if_pos hi]
      rw [show (joinB a b).2 = a.2 ++ b.2 from rfl, List.length_append]
      rcases List.mem_append.1 (show i ∈ a.2 ++ b.2 from hi) with hi | hi
      · have := h.low a (by simp) i hi; omega
      · have := h.low b (by simp) i hi; omega
    · rw [hget, if_neg (hdis x hx i hi)]
      exact h.low x (by simp [hx]) i hi
theorem Good.step {n : Nat} {o : List Br} {l : List Nat} (h : Good n o l) (h2 : 2 ≤ o.length) : Good n (stepO o) (bump l (bothB o).2) := by
  obtain ⟨a, b, r, -, e1, e2, hp, -, -⟩ := sortB_cases h2
  rw [e1, e2]
  exact (h.perm hp).join.1.perm (List.perm_append_comm (l₁ := [joinB a b]) (l₂ := r))
theorem Good.size {n : Nat} {o : List Br} {l : List Nat} (h : Good n o l) : o.length ≤ n := by
  have h1 : (o.flatMap fun b => b.2).length = n := by rw [h.part.length_eq, List.length_range]
  have h2 : ∀ o : List Br, (∀ b ∈ o, b.2 ≠ []) → o.length ≤ (o.flatMap fun b => b.2).length := by
    intro o
    induction o with
    | nil => intro _; exact Nat.zero_le _
    | cons b o ih =>
      intro hne
      have h3 := ih fun x hx => hne x (List.mem_cons_of_mem _ hx)
      have h4 : 0 < b.2.length := List.length_pos_iff.2 (hne b (List.mem_cons_self ..))
      simp only [List.flatMap_cons, List.length_append, List.length_cons]
      omega
  have := h2 o h.ne
  omega
/-- The start is good. -/
theorem Good.start {ws : List Int} (hw : ∀ i : Int, 0 ≤ i → i < (ws.length : Int) → 0 ≤ rd ws i ∧ rd ws i ≤ 1000) : Good ws.length (startB ws) (firstL ws.length) := by
  have hm : ∀ b ∈ startB ws, ∃ i, i < ws.length ∧ b = ((rd ws (i : Int)).toNat, [i]) := fun b hb => by
    obtain ⟨i, hi, rfl⟩ := List.mem_map.1 hb
    exact ⟨i, List.mem_range.1 hi, rfl⟩
  refine ⟨?_, ?_, fun b hb => ?_, fun b hb => ?_, fun b hb i hi => ?_⟩
  · have : ((startB ws).flatMap fun b => b.2) = List.range ws.length := by
      unfold startB
      rw [List.flatMap_map]
      generalize List.range ws.length = L
      induction L with
      | nil => rfl
      | cons x L ih => rw [List.flatMap_cons, ih]; rfl
    rw [this]
  · unfold firstL; split
    · rename_i h; rw [h]; rfl
    · simp
  · obtain ⟨i, hi, rfl⟩ := hm b hb
    have := hw i (by omega) (by omega)
    show (rd ws (i : Int)).toNat ≤ 1000 * 1
    omega
  · obtain ⟨i, hi, rfl⟩ := hm b hb
    simp
  · obtain ⟨j, hj, rfl⟩ := hm b hb
    obtain rfl := List.mem_singleton.1 hi
    show (firstL ws.length).getD i 0 ≤ 1
    unfold firstL; split
    · rename_i h
      have : i = 0 := by omega
      subst this
      exact Nat.le_refl _
    · rw [List.getD_eq_getElem?_getD, List.getElem?_replicate]; split <;> simp
/-! A row of branches, and the library's stable sort of it. -/
abbrev BrV := Nat × Value
def brV (es : List BrV) (i : Nat) : BrV := es.getD i (0, .slice none 0 0)
def cellsBr : List BrV → List Value
  | [] => []
  | e :: es => .int .i64 (e.1 : Int) :: e.2 :: cellsBr es
def encBr (es : List BrV) (x : Nat) : List Value := [.int .i64 ((brV es (x % es.length)).1 : Int), (brV es (x % es.length)).2]
def permBr (es : List BrV) (d : List Nat) : List BrV := d.map fun x => brV es (x % es.length)
def wtsV (es : List BrV) : List Int := es.map fun e => (e.1 : Int)
theorem wtsV_len (es : List BrV) : (wtsV es).length = es.length := by unfold wtsV; rw [List.length_map]
theorem wtsV_rd (es : List BrV) (i : Nat) (h : i < es.length) : rd (wtsV es) (i : Int) = ((brV es i).1 : Int) := by
  unfold rd wtsV brV
  rw [Int.toNat_natCast, List.getD_eq_getElem?_getD, List.getElem?_map, List.getD_eq_getElem?_getD, List.getElem?_eq_getElem h]; rfl
theorem cellsBr_len : ∀ es, (cellsBr es).length = es.length * 2
  | [] => rfl
  | e :: es => by unfold cellsBr; rw [List.length_cons, List.length_cons, cellsBr_len es, List.length_cons]; omega
theorem cellsBr_one : ∀ (es : List BrV) (i : Nat) (h : i < es.length), (cellsBr es)[i * 2]? = some (.int .i64 (es[i].1 : Int)) ∧ (cellsBr es)[i * 2 + 1]? = some es[i].2
  | [], i, h => by simp at h
  | e :: es, 0, _ => ⟨rfl, rfl⟩
  | e :: es, i + 1, h => by
    have := cellsBr_one es i (by simpa using h)
    unfold cellsBr
    rw [show (i + 1) * 2 = i * 2 + 1 + 1 by omega, show i * 2 + 1 + 1 + 1 = i * 2 + 1 + 1 + 1 by omega]
    simpa using this
theorem cellsBr_app : ∀ a b, cellsBr (a ++ b) = cellsBr a ++ cellsBr b
  | [], _ => rfl
  | e :: a, b => by simp [cellsBr, cellsBr_app a b]
theorem cellsBr_cell : ∀ (es : List BrV), (∀ e ∈ es, e.2.oneCell' = true) → ∀ u ∈ cellsBr es, u.oneCell' = true
  | [], _, u, h => by cases h
  | e :: es, hc, u, h => by
    unfold cellsBr at h
    rcases List.mem_cons.1 h with rfl | h
    · rfl
    · rcases List.mem_cons.1 h with rfl | h
      · exact hc e (List.mem_cons_self ..)
      · exact cellsBr_cell es (fun x hx => hc x (List.mem_cons_of_mem _ hx)) u h
theorem permBr_len (es : List BrV) (d : List Nat) : (permBr es d).length = d.length := by unfold permBr; rw [List.length_map]
theorem permBr_range (es : List BrV) : permBr es (List.range es.length) = es := by
  unfold permBr
  apply List.ext_getElem
  · simp
  · intro i h1 h2
    simp only [List.getElem_map, List.getElem_range]
    rw [Nat.mod_eq_of_lt h2]
    unfold brV
    rw [List.getD_eq_getElem?_getD, List.getElem?_eq_getElem h2]; rfl
theorem flat_br (es : List BrV) (d : Array Nat) : (Go.Sort.flatK (encBr es) 2 d).toList = cellsBr (permBr es d.toList) := by
  apply List.ext_getElem?
  intro t
  by_cases ht : t < d.size * 2
  · have hsz : t < (Go.Sort.flatK (encBr es) 2 d).size := by rw [Go.Sort.size_flatK]; exact ht
    have h1 := Go.Sort.get_flatK (encBr es) 2 d t ht
    rw [Array.getElem?_toList, Array.getElem?_eq_getElem hsz]
    rw [getElem!_pos (Go.Sort.flatK (encBr es) 2 d) t hsz] at h1
    rw [h1]
    have hd : t / 2 < d.size := by omega
    have hp : t / 2 < (permBr es d.toList).length := by rw [permBr_len, Array.length_toList]; exact hd
    obtain ⟨c1, c2⟩ := cellsBr_one (permBr es d.toList) (t / 2) hp
    have he : (permBr es d.toList)[t / 2] = brV es (d[t / 2] % es.length) := by simp [permBr]
    rw [he] at c1 c2
    rw [getElem!_pos d (t / 2) hd]
    rcases (by omega : t % 2 = 0 ∨ t % 2 = 1) with h | h
    · rw [h]
      rw [show t / 2 * 2 = t by omega] at c1
      rw [c1]; rfl
    · rw [h]
      rw [show t / 2 * 2 + 1 = t by omega] at c2
      rw [c2]; rfl
  · rw [List.getElem?_eq_none (by rw [Array.length_toList, Go.Sort.size_flatK]; omega), List.getElem?_eq_none (by rw [cellsBr_len, permBr_len, Array.length_toList]; omega)]
/-- A row of branches, at a place in its block. -/
def OpenAt (w : World) (g off cap : Nat) (cs : List Value) : Prop :=
  ∃ cur, w.heap[g]? = some (.cells cur 97 (0, 0)) ∧ off + cap * 2 ≤ cur.size ∧ cs.length ≤ cap * 2 ∧ cap ≤ maxLen ∧ ∀ j, j < cs.length → cur[off + j]? = cs[j]?
theorem OpenAt.lt {w : World} {g off cap : Nat} {cs : List Value} (h : OpenAt w g off cap cs) : g < w.heap.size := by
  obtain ⟨cur, hb, -⟩ := h
  exact (Array.getElem?_eq_some_iff.1 hb).1
theorem OpenAt.cell {w : World} {g off cap : Nat} {cs : List Value} (h : OpenAt w g off cap cs) {j : Nat} {u : Value} (hu : cs[j]? = some u) : w.cell? ⟨g, off + j, none⟩ = some u ∧ w.frozen? ⟨g, off + j, none⟩ = false := by
  obtain ⟨cur, hb, -, -, -, hc⟩ := h
  have hj := (List.getElem?_eq_some_iff.1 hu).1
  exact ⟨by rw [cell_of_row _ _ _ _ _ _ hb, hc j hj]; exact hu, by simp [World.frozen?, hb]⟩
theorem OpenAt.kept {w w' : World} {g off cap : Nat} {cs : List Value} {row : Option Nat} (h : OpenAt w g off cap cs) (hg : w.grownBy w' row) (hne : some g ≠ row) : OpenAt w' g off cap cs := by
  obtain ⟨cur, hb, r⟩ := h
  exact ⟨cur, by rw [hg.block g (Array.getElem?_eq_some_iff.1 hb).1 hne]; exact hb, r⟩
theorem OpenAt.below {w w' : World} {g off cap n : Nat} {cs : List Value} (h : OpenAt w g off cap cs) (hb : Below n w w') (hn : g < n) : OpenAt w' g off cap cs := by
  obtain ⟨cur, hc, r⟩ := h
  exact ⟨cur, (hb.block g hn).trans hc, r⟩
theorem brcmp_calls (a b : Int) (va vb : Value) (W : World) : Calls Try.prog 90 #[.agg #[.int .i64 a, va], .agg #[.int .i64 b, vb]] W fun e w' => e = .returned (.int .i64 (Lib.compareInt a b)) ∧ ∃ q os', w' = Go.Sort.grow (W.drewN q) os' := by
  have h := heap_alloc_new W (.cells #[.int .i64 a, va] 97)
  have h1 : ((W.alloc (.cells #[.int .i64 a, va] 97)).alloc (.cells #[.int .i64 b, vb] 97)).heap[W.heap.size]? = some (.cells #[.int .i64 a, va] 97 (0, 0)) := (Below.heap_alloc _ _ _ (by simp)).trans h
  have h2 := heap_alloc_new (W.alloc (.cells #[.int .i64 a, va] 97)) (.cells #[.int .i64 b, vb] 97)
  rw [World.size_alloc] at h2
  have c1 : ((W.alloc (.cells #[.int .i64 a, va] 97)).alloc (.cells #[.int .i64 b, vb] 97)).cell? ⟨W.heap.size, 0, none⟩ = some (.int .i64 a) := by rw [cell_of_row _ _ 0 _ _ _ h1]; rfl
  have c2 : ((W.alloc (.cells #[.int .i64 a, va] 97)).alloc (.cells #[.int .i64 b, vb] 97)).cell? ⟨W.heap.size + 1, 0, none⟩ = some (.int .i64 b) := by rw [cell_of_row _ _ 0 _ _ _ h2]; rfl
  clear h h1 h2
  go_enter Try.func90, Try.ntmps90
  go_wp2_with (first | (go_at_call 73; go_must (with_reducible refine (Try.cmp_Compare_int _ _ _).mono ?_); rintro _ _ ⟨rfl, rfl⟩))
  first | go_end0 | go_returns | go_ret
  exact ⟨rfl, 0, #[.cells #[.int .i64 a, va] 97, .cells #[.int .i64 b, vb] 97], rfl⟩
theorem holds_br {w : World} {g off cap : Nat} {es : List BrV} (h : OpenAt w g off cap (cellsBr es)) : Go.Sort.HoldsK (encBr es) 2 w g off (List.range es.length).toArray := by
  intro j hj
  have hf := flat_br es (List.range es.length).toArray
  rw [show (List.range es.length).toArray.toList = List.range es.length from rfl, permBr_range] at hf
  have hu : (cellsBr es)[j]? = some ((Go.Sort.flatK (encBr es) 2 (List.range es.length).toArray)[j]!) := by
    rw [← hf, Array.getElem?_toList, Array.getElem?_eq_getElem hj, getElem!_pos _ j hj]
  exact h.cell hu
theorem sorted_br {w : World} {g off cap : Nat} {es : List BrV} (h : OpenAt w g off cap (cellsBr es)) (d : Array Nat) (hd : d.size = es.length) (n : Nat) (os : Array Obj) :
    OpenAt (Go.Proofs.sortWorldK (encBr es) 2 w g off n d os) g off cap (cellsBr (permBr es d.toList)) ∧ w.grownBy (Go.Proofs.sortWorldK (encBr es) 2 w g off n d os) (some g) := by
  obtain ⟨cur, hb, hs, hl, hm, hc⟩ := h
  have hg : g < w.heap.size := (Array.getElem?_eq_some_iff.1 hb).1
  have hfs : (Go.Sort.flatK (encBr es) 2 d).size = es.length * 2 := by rw [Go.Sort.size_flatK, hd]
  unfold Go.Proofs.sortWorldK Go.Sort.putRowK
  have hlen : (cellsBr (permBr es d.toList)).length = es.length * 2 := by rw [cellsBr_len, permBr_len, Array.length_toList, hd]
  rw [cellsBr_len] at hl hc
  refine ⟨⟨Go.Sort.putCells id off (Go.Sort.flatK (encBr es) 2 d) cur, ?_, by simp [Go.Sort.putCells]; exact hs, by rw [hlen]; exact hl, hm, fun j hj => ?_⟩, ⟨rfl, rfl, rfl, by simp, fun k hk hne => ?_⟩⟩
  · rw [Go.Sort.heap_grow_old _ _ (by simpa using hg)]
    simp [Go.Sort.putRow, Go.Sort.mapBlock, Go.Sort.ahead, Array.getElem?_modify, hb, Go.Sort.onCells]
  · rw [hlen] at hj
    rw [← flat_br, Array.getElem?_toList]
    have h1 : off + j < cur.size := by omega
    have h2 : j < (Go.Sort.flatK (encBr es) 2 d).size := by omega
    simp [Go.Sort.putCells, h1]
    rw [if_pos (by omega), Array.getElem?_eq_getElem h2, getElem!_pos _ j h2]
  · rw [Go.Sort.heap_grow_old _ _ (by simpa using hk)]
    have : g ≠ k := fun e => hne (by rw [e])
    simp [Go.Sort.putRow, Go.Sort.mapBlock, Go.Sort.ahead, Array.getElem?_modify, this]
def sortV (es : List BrV) : List BrV := permBr es (ordN (wtsV es)).toList
theorem sortV_len (es : List BrV) : (sortV es).length = es.length := by unfold sortV; rw [permBr_len, Array.length_toList, ordN_size, wtsV_len]
set_option maxHeartbeats 3200000 in
set_option maxRecDepth 100000 in
/-- The library's stable sort of at most 12 branches. -/
theorem brsort_calls (g off cap : Nat) (es : List BrV) (w : World) (ho : OpenAt w g off cap (cellsBr es)) (hl : 0 < es.length) (h12 : es.length ≤ 12) (h1 : ∀ e ∈ es, e.2.oneCell' = true) :
    Calls Try.prog 89 #[.slice (some ⟨g, off, none⟩) es.length cap, .func (.func 90) #[] #[]] w fun e w' => e = .returned (.tuple #[]) ∧ OpenAt w' g off cap (cellsBr (sortV es)) ∧ w.grownBy w' (some g) := by
  have hsz : (List.range es.length).toArray.size = es.length := by simp
  have hcmp : CmpLays Try.prog 90 #[] (encBr es) 2 (cfN (wtsV es)) g off (List.range es.length).toArray.size w := by
    intro m os dk hs x y
    have hm : ∀ z : Nat, z % (wtsV es).length < es.length := fun z => by rw [wtsV_len]; exact Nat.mod_lt _ hl
    have hc := brcmp_calls ((brV es (x % es.length)).1 : Int) ((brV es (y % es.length)).1 : Int) (brV es (x % es.length)).2 (brV es (y % es.length)).2 (Go.Proofs.sortWorldK (encBr es) 2 w g off m dk os)
    rw [← wtsV_rd es _ (by have := hm x; rwa [wtsV_len] at this), ← wtsV_rd es _ (by have := hm y; rwa [wtsV_len] at this)] at hc
    rw [show cfN (wtsV es) x y = Lib.compareInt (rd (wtsV es) ((x % es.length : Nat) : Int)) (rd (wtsV es) ((y % es.length : Nat) : Int)) by unfold cfN; rw [wtsV_len]]
    have e1 : encBr es x = [.int .i64 (rd (wtsV es) ((x % es.length : Nat) : Int)), (brV es (x % es.length)).2] := by unfold encBr; rw [wtsV_rd es _ (by have := hm x; rwa [wtsV_len] at this)]
    have e2 : encBr es y = [.int .i64 (rd (wtsV es) ((y % es.length : Nat) : Int)), (brV es (y % es.length)).2] := by unfold encBr; rw [wtsV_rd es _ (by have := hm y; rwa [wtsV_len] at this)]
    rw [e1, e2]
    exact hc
  have hone : ∀ x, ∀ v ∈ encBr es x, v.oneCell' = true := by
    intro x v hv
    have hx : x % es.length < es.length := Nat.mod_lt _ hl
    unfold encBr at hv
    rcases List.mem_cons.1 hv with rfl | hv
    · rfl
    · obtain rfl := List.mem_singleton.1 hv
      unfold brV
      rw [List.getD_eq_getElem?_getD, List.getElem?_eq_getElem hx]
      exact h1 _ (List.getElem_mem _)
  have hins0 := AnyQ.insertionSortCmpFunc Try.laysIns 2 Try.isAgg97 Try.sizeOf97 (encBr es) (fun _ => rfl) hone (cfN (wtsV es)) 90 #[] g off cap 0 es.length (List.range es.length).toArray w (enters_of Try.func90 (by kernel_rfl) rfl) hcmp (holds_br ho) ho.lt (Nat.zero_le _) (by simp) (by simp; omega)
  rw [hsz] at hins0
  have hins : Calls Try.prog 118 #[.slice (some ⟨g, off, none⟩) es.length cap, .int .i64 0, .int .i64 es.length, .func (.func 90) #[] #[]] w fun e w' => e = .returned (.tuple #[]) ∧ OpenAt w' g off cap (cellsBr (sortV es)) ∧ w.grownBy w' (some g) := by
    refine Calls.mono (show Calls Try.prog 118 _ _ _ from hins0) ?_
    rintro e w' ⟨rfl, n, os, rfl⟩
    have hd : Go.Sort.insertionSort (ltOf (cfN (wtsV es))) (List.range es.length).toArray 0 es.length = ordN (wtsV es) := by unfold ordN; rw [wtsV_len]
    rw [hd]
    exact ⟨rfl, sorted_br ho _ (by rw [ordN_size, wtsV_len]) n os⟩
  clear hins0 hcmp hone
  have hstab : Calls Try.prog 110 #[.slice (some ⟨g, off, none⟩) es.length cap, .int .i64 es.length, .func (.func 90) #[] #[]] w fun e w' => e = .returned (.tuple #[]) ∧ OpenAt w' g off cap (cellsBr (sortV es)) ∧ w.grownBy w' (some g) := by
    have d1 : decide ((20 : Int) ≤ (es.length : Int)) = false := decide_eq_false (by omega)
    have d2 : decide ((20 : Int) < (es.length : Int)) = false := decide_eq_false (by omega)
    clear ho
    go_enter Try.func110, Try.ntmps110
    go_wp2
    refine wp_loop_rounds 1 ?_
    rw [rounds_succ]
    go_wp2_with (first | (go_at_call 118; go_must (with_reducible refine hins.mono ?_); rintro _ w1 ⟨rfl, ho1, hg1⟩))
    refine wp_loop_rounds 1 ?_
    rw [rounds_succ]
    go_wp2
    go_end0
    exact ⟨rfl, ho1, hg1⟩
  clear ho hins
  go_enter Try.func89, Try.ntmps89
  go_wp2_with (first | (go_at_call 110; go_must (with_reducible refine hstab.mono ?_); rintro _ w1 ⟨rfl, ho1, hg1⟩))
  go_end0
  exact ⟨rfl, ho1, hg1⟩
end Go.Proofs.Ytpkafcoflgbnaaa.Q
/- slices.Concat of two lists of numbers. For short ones. -/
namespace Go.Proofs.Ytpkafcoflgbnaaa.Q
open Go.RowKit Go.Proofs.YtpkafcoflgbnaaaW.PrintWords Go.Proofs.YtpkafcoflgbnaaaW.PrintLast Go.Proofs.YtpkafcoflgbnaaaW.PrintMore Go.Shelf
set_option linter.unusedVariables false
set_option linter.unusedSimpArgs false
/-! slices.Concat of two lists of numbers. -/
def numsV (S : List Nat) : List Value := S.map fun i : Nat => Value.int .i64 (i : Int)
/-- A list of numbers that lies in a block of its own, from a block on. -/
def SigAt (W : World) (base : Nat) (v : Value) (S : List Nat) : Prop :=
  ∃ b c cur, v = .slice (some ⟨b, 0, none⟩) S.length c ∧ base ≤ b ∧ W.heap[b]? = some (.cells cur 3 (0, 0)) ∧ (∀ j u, (numsV S)[j]? = some u → W.cell? ⟨b, j, none⟩ = some u) ∧ S.length ≤ c ∧ c ≤ maxLen ∧ cur.size = c * 1 ∧ cur.toList.take (S.length * 1) = numsV S
theorem numsV_len (S : List Nat) : (numsV S).length = S.length := by unfold numsV; rw [List.length_map]
theorem numsV_app (S T : List Nat) : numsV (S ++ T) = numsV S ++ numsV T := by unfold numsV; rw [List.map_append]
theorem numsV_one (S : List Nat) : ∀ u ∈ numsV S, u.oneCell' = true := by
  intro u hu
  obtain ⟨i, -, rfl⟩ := List.mem_map.1 hu
  rfl
theorem numsV_get (S : List Nat) (j : Nat) (h : j < S.length) : (numsV S)[j]? = some (.int .i64 (S.getD j 0 : Nat)) := by
  unfold numsV
  rw [List.getElem?_map, List.getElem?_eq_getElem h, List.getD_eq_getElem?_getD, List.getElem?_eq_getElem h]; rfl
theorem SigAt.keep {W W' : World} {base : Nat} {v : Value} {S : List Nat} (h : SigAt W base v S) (hk : ∀ b, base ≤ b → (∃ cur, W.heap[b]? = some (.cells cur 3 (0, 0))) → W'.heap[b]? = W.heap[b]?) : SigAt W' base v S := by
  obtain ⟨b, c, cur, rfl, hb, hh, hj, hx⟩ := h
  have he := hk b hb ⟨cur, hh⟩
  exact ⟨b, c, cur, rfl, hb, he.trans hh, fun j u hu => (World.cell?_of_block he).trans (hj j u hu), hx⟩
theorem SigAt.below {W W' : World} {base : Nat} {v : Value} {S : List Nat} (h : SigAt W base v S) (hb : Below W.heap.size W W') : SigAt W' base v S :=
  h.keep fun b _ ⟨_, hh⟩ => hb.block b (Array.getElem?_eq_some_iff.1 hh).1
theorem SigAt.grown {W W' : World} {base : Nat} {v : Value} {S : List Nat} {row : Option Nat} (h : SigAt W base v S) (hg : W.grownBy W' row) (hr : ∀ k, row = some k → k < base ∨ ∃ cur, W.heap[k]? = some (.cells cur 97 (0, 0))) : SigAt W' base v S :=
  h.keep fun b hb ⟨cur, hh⟩ => hg.block b (Array.getElem?_eq_some_iff.1 hh).1 fun e => by
    rcases hr b e.symm with h1 | ⟨cur', h1⟩
    · omega
    · rw [hh] at h1; injection h1 with h1; injection h1 with _ h1; exact absurd h1 (by decide)
theorem SigAt.oneCell {W : World} {base : Nat} {v : Value} {S : List Nat} (h : SigAt W base v S) : v.oneCell' = true := by
  obtain ⟨b, c, cur, rfl, -⟩ := h
  rfl
theorem SigAt.owns {W : World} {base : Nat} {v : Value} {S : List Nat} (h : SigAt W base v S) : W.ownsRow base 3 1 v S.length (numsV S) := by
  obtain ⟨b, c, cur, rfl, hb, hh, -, h1, h2, h3, h4⟩ := h
  exact ⟨by rw [numsV_len, Nat.mul_one], .inr ⟨b, c, cur, rfl, hb, hh, h1, h2, h3, h4⟩⟩
theorem grow_calls (n : Nat) (h0 : 0 < n) (h1 : n ≤ 1000) (w : World) : Calls Try.prog 111 #[.slice none 0 0, .int .i64 n] w fun e w' =>
    ∃ cap, e = .returned (.slice (some ⟨w.heap.size, 0, none⟩) 0 cap) ∧ n ≤ cap ∧ w'.ownsRow w.heap.size 3 1 (.slice (some ⟨w.heap.size, 0, none⟩) 0 cap) 0 [] ∧ w.grownBy w' none := by
  obtain ⟨i3, hi3, hz30, hz31, hz32⟩ := info_parts (show (Try.prog.info? 3).map (fun i => (i.zero, i.size, i.bytes)) = some (some (.int .i64 0), 1, 8) by kernel_rfl)
  have h := Any8.slices_Grow_grow Try.growI i3 (.int .i64 0) hi3 hz30 (by rw [hz31]; decide) none 0 0 n [] w (Nat.le_refl _) (by omega) (by rw [hz32]; omega) (by omega) (by simp) (fun _ => rfl) (by intro a e; cases e)
  refine Calls.mono (show Calls Try.prog 111 _ _ _ from h) ?_
  rintro e w' ⟨rfl, rfl⟩
  have hge := grownCap_ge w (0 + n) 0 3
  have hle := grownCap_le_maxLen w (0 + n) 0 3 (by unfold maxLen; omega)
  refine ⟨_, rfl, by show n ≤ grownCap w (0 + n) 0 3; omega, ?_, ⟨rfl, rfl, rfl, by simp, fun k hk _ => heap_alloc_old w.drew _ hk⟩⟩
  have := World.ownsRow_made (base := w.heap.size) (size := 1) (e := 3) w.drew (([] : List Value).toArray ++ Builtin.zeroCells (Value.int IntKind.i64 0).cells (0 + n - 0) ++ Builtin.zeroCells (Value.int IntKind.i64 0).cells (grownCap w (0 + n) 0 3 - (0 + n))) (grownCap w (0 + n) 0 3) (Nat.le_refl _) hle (by
    simp only [Array.size_append, List.size_toArray, size_zeroCells, List.length_nil]
    show 0 + (0 + n - 0) * 1 + (grownCap w (0 + n) 0 3 - (0 + n)) * 1 = grownCap w (0 + n) 0 3 * 1
    omega)
  exact this
set_option maxHeartbeats 3200000 in
set_option maxRecDepth 100000 in
theorem concat_calls (W : World) (cb : Nat) (S T : List Nat) (v1 v2 : Value) (hc1 : W.cell? ⟨cb, 0, none⟩ = some v1) (hc2 : W.cell? ⟨cb, 1, none⟩ = some v2) (base : Nat) (hS : SigAt W base v1 S) (hT : SigAt W base v2 T) (h0 : 0 < S.length) (hlen : S.length + T.length ≤ 100) :
    Calls Try.prog 91 #[.slice (some ⟨cb, 0, none⟩) 2 2] W fun e w' => ∃ v, e = .returned v ∧ w'.ownsRow W.heap.size 3 1 v (S ++ T).length (numsV (S ++ T)) ∧ W.grownBy w' none := by
  obtain ⟨i3, hi3, hz30, hz31, hz32⟩ := info_parts (show (Try.prog.info? 3).map (fun i => (i.zero, i.size, i.bytes)) = some (some (.int .i64 0), 1, 8) by kernel_rfl)
  obtain ⟨b1, c1, _, rfl, -, -, hj1, -⟩ := hS
  obtain ⟨b2, c2, _, rfl, -, -, hj2, -⟩ := hT
  have hcb : cb < W.heap.size := World.block_lt_of_cell? _ _ hc1
  obtain ⟨n1, hn1⟩ : ∃ n, S.length = n := ⟨_, rfl⟩
  obtain ⟨n2, hn2⟩ : ∃ n, T.length = n := ⟨_, rfl⟩
  have hg := grow_calls (n1 + n2) (by omega) (by omega) W
  rw [Int.natCast_add] at hg
  have HJ1 := Lib.hid hj1
  have HJ2 := Lib.hid hj2
  have HN := Lib.hid (And.intro hn1 hn2)
  rw [hn1] at hc1 h0 hlen
  rw [hn2] at hc2 hlen
  clear hj1 hj2 hn1 hn2
  rw [show (S ++ T).length = n1 + n2 by rw [List.length_append, HN.out.1, HN.out.2]]
  have e0 : decide (((0 : Nat) : Int) < 2) = true := rfl
  have e1 : decide (((1 : Nat) : Int) < 2) = true := rfl
  have e2 : decide (((2 : Nat) : Int) < 2) = false := rfl
  have s0 : decide (((0 : Nat) : Int) + (n1 : Int) < 0) = false := decide_eq_false (by omega)
  have s1 : decide ((n1 : Int) < 0) = false := decide_eq_false (by omega)
  have s2 : decide ((n1 : Int) + (n2 : Int) < 0) = false := decide_eq_false (by omega)
  go_enter Try.func91, Try.ntmps91
  go_wp2
  refine wp_loop_rounds 3 ?_
  rw [rounds_succ]
  go_wp2
  rw [rounds_succ]
  go_wp2
  rw [rounds_succ]
  go_wp2_with (first | (go_at_call 111; go_must (with_reducible refine hg.mono ?_); rintro _ w1 ⟨cap, rfl, hcap, ho1, hg1⟩))
  have hc11 := hg1.cell hc1 (by simp)
  have hc21 := hg1.cell hc2 (by simp)
  clear hg
  refine wp_loop_rounds 3 ?_
  rw [rounds_succ]
  go_wp2_with (first | (at_builtin; refine wpList_append_fits _ rfl _ _ 35 rfl W.heap.size 3 i3 1 Try.underlying35 hi3 hz31 W.heap.size 0 cap [] rfl ho1 ⟨b1, 0, none⟩ n1 c1 (numsV S) rfl (by rw [numsV_len, HN.out.1]; omega) (fun j u hu => by rw [Addr.add_lit, Nat.zero_add]; exact hg1.cell (HJ1.out j u hu) (by simp)) (numsV_one S) (by omega) ?_; intro w2 ho2 hg2))
  have hg12 : W.grownBy w2 none := ⟨hg2.os.trans hg1.os, hg2.tape.trans hg1.tape, hg2.output.trans hg1.output, Nat.le_trans hg1.size hg2.size, fun k hk _ => (hg2.block k (Nat.lt_of_lt_of_le hk hg1.size) (by intro e; injection e with e; omega)).trans (hg1.block k hk (by simp))⟩
  have hc12 := hg12.cell hc1 (by simp)
  have hc22 := hg12.cell hc2 (by simp)
  simp only [Nat.zero_add, List.nil_append] at ho2
  rw [rounds_succ]
  go_wp2_with (first | (at_builtin; refine wpList_append_fits _ rfl _ _ 35 rfl W.heap.size 3 i3 1 Try.underlying35 hi3 hz31 W.heap.size n1 cap (numsV S) rfl ho2 ⟨b2, 0, none⟩ n2 c2 (numsV T) rfl (by rw [numsV_len, HN.out.2]; omega) (fun j u hu => by rw [Addr.add_lit, Nat.zero_add]; exact hg12.cell (HJ2.out j u hu) (by simp)) (numsV_one T) (by omega) ?_; intro w3 ho3 hg3))
  have hg13 : W.grownBy w3 none := ⟨hg3.os.trans hg12.os, hg3.tape.trans hg12.tape, hg3.output.trans hg12.output, Nat.le_trans hg12.size hg3.size, fun k hk _ => (hg3.block k (Nat.lt_of_lt_of_le hk hg12.size) (by intro e; injection e with e; omega)).trans (hg12.block k hk (by simp))⟩
  rw [rounds_succ]
  go_wp2
  first | go_ret | go_returns | go_end0
  exact ⟨_, rfl, by rw [numsV_app]; exact ho3, hg13⟩
end Go.Proofs.Ytpkafcoflgbnaaa.Q
