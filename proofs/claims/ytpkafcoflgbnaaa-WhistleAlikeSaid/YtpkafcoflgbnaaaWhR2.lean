/- Alike, part 2. For all codes. -/
import Derived.Test.YtpkafcoflgbnaaaWLast
import Derived.Test.YtpkafcoflgbnaaaWMore
import Derived.Test.YtpkafcoflgbnaaaProg
import Derived.Test.YtpkafcoflgbnaaaShelf
import Derived.OwnWalk
import Derived.Handy
import Derived.Deep.DeepMust
import Derived.Lib.Hide
import Derived.Outline
import Derived.IntWalk
import Derived.Deep.RegionWith
import Derived.RangeFuncBox
import Derived.RangeFuncNested
import Derived.Maps.Own
import Derived.Maps.AppendAt
import Derived.Maps.Views
import Derived.StringKeys
import Derived.Laws.EntriesVeiled
import Derived.Lib.OwnBridge
import Derived.Deep.DeepCutAuto
import Derived.Deep.RegionHeld3
import Derived.StillTailTactics
import Derived.Deep.QuietTactic
import Derived.BigQuiet
import Derived.Test.YtpkafcoflgbnaaaWhR1
namespace Go.Proofs.Ytpkafcoflgbnaaa.Q
open Go.RowKit Go.Proofs.YtpkafcoflgbnaaaW.PrintWords Go.Proofs.YtpkafcoflgbnaaaW.PrintLast Go.Proofs.YtpkafcoflgbnaaaW.PrintMore Go.Shelf Go.Maps
set_option linter.unusedVariables false
set_option linter.unusedSimpArgs false
/-! Alike, plainly: pairs with what is left of the longer one; and how they lie in memory. -/
abbrev PQ := List Nat × List Nat × ByteArray
def restsQ (qs : List PQ) : List ByteArray := qs.map fun q => q.2.2
def addQ (qs : List PQ) (q : PQ) : List PQ := if Lib.containsS (restsQ qs) q.2.2 = true then qs else qs ++ [q]
def qAt (qs : List PQ) (i : Nat) : PQ := qs.getD i ([], [], ByteArray.empty)
def sig (C : List ByteArray) (n : Nat) : ByteArray := C.getD n ByteArray.empty
def oneQ1 (p : PQ) (n : Nat) (s : ByteArray) (qs : List PQ) : List PQ := if headB s p.2.2 = true then addQ qs (p.2.1, p.1 ++ [n], restB s p.2.2) else qs
def oneQ2 (p : PQ) (n : Nat) (s : ByteArray) (qs : List PQ) : List PQ := if headB p.2.2 s = true then addQ qs (p.1 ++ [n], p.2.1, restB p.2.2 s) else qs
def oneQ (p : PQ) (n : Nat) (s : ByteArray) (qs : List PQ) : List PQ := oneQ2 p n s (oneQ1 p n s qs)
def folI (C : List ByteArray) (p : PQ) : Nat → Nat → List PQ → Option Nat × List PQ
  | 0, _, qs => (none, qs)
  | d + 1, n, qs => if (sig C n).toList = p.2.2.toList then (some n, qs) else folI C p d (n + 1) (oneQ p n (sig C n) qs)
def followF (C : List ByteArray) : Nat → Nat → List PQ → Option (Option (List Nat × List Nat))
  | 0, _, _ => none
  | k + 1, i, qs => if i = qs.length then some none else if i < qs.length ∧ qs.length ≤ 5000 ∧ (qAt qs i).1.length ≤ 5000 ∧ (qAt qs i).2.1.length ≤ 5000 then
      (match (folI C (qAt qs i) C.length 0 qs).1 with
       | some n => some (some ((qAt qs i).1 ++ [n], (qAt qs i).2.1))
       | none => followF C k (i + 1) (folI C (qAt qs i) C.length 0 qs).2)
    else none
def startI (C : List ByteArray) (i : Nat) : Nat → List PQ → List PQ
  | 0, qs => qs
  | n + 1, qs => if (headB (sig C n) (sig C i) && decide (i ≠ n)) = true then addQ (startI C i n qs) ([i], [n], restB (sig C n) (sig C i)) else startI C i n qs
def startO (C : List ByteArray) : Nat → List PQ
  | 0 => []
  | i + 1 => startI C i C.length (startO C i)
theorem addQ_le (qs : List PQ) (q : PQ) : (addQ qs q).length ≤ qs.length + 1 := by
  unfold addQ; split
  · omega
  · simp
theorem oneQ1_le (p : PQ) (n : Nat) (s : ByteArray) (qs : List PQ) : (oneQ1 p n s qs).length ≤ qs.length + 1 := by
  unfold oneQ1; split
  · exact addQ_le _ _
  · omega
theorem oneQ_le (p : PQ) (n : Nat) (s : ByteArray) (qs : List PQ) : (oneQ p n s qs).length ≤ qs.length + 2 := by
  have h1 := oneQ1_le p n s qs
  unfold oneQ oneQ2; split
  · have := addQ_le (oneQ1 p n s qs) (p.1 ++ [n], p.2.1, restB p.2.2 s); omega
  · omega
theorem startI_le (C : List ByteArray) (i : Nat) : ∀ n qs, (startI C i n qs).length ≤ qs.length + n
  | 0, qs => Nat.le_refl _
  | n + 1, qs => by
    have h := startI_le C i n qs
    unfold startI; split
    · have := addQ_le (startI C i n qs) ([i], [n], restB (sig C n) (sig C i)); omega
    · omega
theorem startO_le (C : List ByteArray) : ∀ i, (startO C i).length ≤ i * C.length
  | 0 => Nat.zero_le _
  | i + 1 => by
    have h := startO_le C i
    have h2 := startI_le C i C.length (startO C i)
    rw [Nat.add_mul]
    show (startI C i C.length (startO C i)).length ≤ _
    omega
theorem restB_le (y x : ByteArray) : (restB y x).size ≤ y.size := by
  unfold restB Lib.trimPrefix
  split
  · show (List.drop _ _).toArray.size ≤ y.data.size
    simp
  · show y.data.toList.toArray.size ≤ y.data.size
    simp
def RestOk (qs : List PQ) : Prop := ∀ q ∈ qs, q.2.2.size ≤ 1000
theorem RestOk.add {qs : List PQ} (h : RestOk qs) {q : PQ} (hq : q.2.2.size ≤ 1000) : RestOk (addQ qs q) := by
  unfold addQ; split
  · exact h
  · intro x hx
    rcases List.mem_append.1 hx with hx | hx
    · exact h x hx
    · obtain rfl := List.mem_singleton.1 hx; exact hq
/-- Pairs of lists, as they lie in memory. -/
def Prs (W : World) (base : Nat) (ps : List PV) (qs : List PQ) : Prop :=
  ps.length = qs.length ∧ ∀ (i : Nat) (h : i < ps.length), ps[i].2.2 = (qAt qs i).2.2 ∧ SigAt W base ps[i].1 (qAt qs i).1 ∧ SigAt W base ps[i].2.1 (qAt qs i).2.1
theorem Prs.rests {W : World} {base : Nat} {ps : List PV} {qs : List PQ} (h : Prs W base ps qs) : restsP ps = restsQ qs := by
  unfold restsP restsQ
  apply List.ext_getElem
  · simp [h.1]
  · intro i h1 h2
    have hi : i < ps.length := by simpa using h1
    have hq : i < qs.length := by simpa using h2
    simp only [List.getElem_map]
    rw [(h.2 i hi).1]
    unfold qAt
    rw [List.getD_eq_getElem?_getD, List.getElem?_eq_getElem hq]; rfl
theorem Prs.keep {W W' : World} {base : Nat} {ps : List PV} {qs : List PQ} (h : Prs W base ps qs) (hk : ∀ v S, SigAt W base v S → SigAt W' base v S) : Prs W' base ps qs :=
  ⟨h.1, fun i hi => ⟨(h.2 i hi).1, hk _ _ (h.2 i hi).2.1, hk _ _ (h.2 i hi).2.2⟩⟩
theorem Prs.add {W : World} {base : Nat} {ps : List PV} {qs : List PQ} (h : Prs W base ps qs) {v1 v2 : Value} {S T : List Nat} {r : ByteArray} (h1 : SigAt W base v1 S) (h2 : SigAt W base v2 T) : Prs W base (addPV ps (v1, v2, r)) (addQ qs (S, T, r)) := by
  unfold addPV addQ
  rw [h.rests]
  split
  · exact h
  · refine ⟨by simp [h.1], fun i hi => ?_⟩
    rw [List.length_append, List.length_singleton] at hi
    by_cases hlt : i < ps.length
    · have hq : i < qs.length := by rw [← h.1]; exact hlt
      have e : qAt (qs ++ [(S, T, r)]) i = qAt qs i := by unfold qAt; rw [List.getD_eq_getElem?_getD, List.getD_eq_getElem?_getD, List.getElem?_append_left hq]
      rw [List.getElem_append_left hlt, e]
      exact h.2 i hlt
    · obtain rfl : i = ps.length := by omega
      have e : qAt (qs ++ [(S, T, r)]) ps.length = (S, T, r) := by unfold qAt; rw [h.1, List.getD_eq_getElem?_getD, List.getElem?_append_right (Nat.le_refl _)]; simp
      rw [e]
      simp only [List.getElem_append_right (Nat.le_refl _), Nat.sub_self, List.getElem_cons_zero]
      exact ⟨trivial, h1, h2⟩
/-- The state of the search, in lists. -/
def ASt (W : World) (bo bs mb base pb : Nat) (qs : List PQ) : Prop := ∃ ps, AlAt W bo bs mb base pb ps ∧ Prs W base ps qs
theorem ASt.later {W W' : World} {bo bs mb base pb : Nat} {qs : List PQ} (h : ASt W bo bs mb base pb qs) (hb : Below W.heap.size W W') : ASt W' bo bs mb base pb qs := by
  obtain ⟨ps, h1, h2⟩ := h
  exact ⟨ps, h1.later hb, h2.keep fun v S hs => hs.below hb⟩
theorem ASt.fresh {W : World} {bo bs mb base pb : Nat} {qs : List PQ} (h : ASt W bo bs mb base pb qs) (o : Obj) : ASt (W.alloc o) bo bs mb base W.heap.size qs := by
  obtain ⟨ps, h1, h2⟩ := h
  exact ⟨ps, h1.fresh o, h2.keep fun v S hs => hs.below ((Below.refl _ _).alloc (Nat.le_refl _) o)⟩
theorem addst_calls (bo bs mb base pb : Nat) (qs : List PQ) (b1 n1 c1 b2 n2 c2 : Nat) (S T : List Nat) (r : ByteArray) (W : World) (h : ASt W bo bs mb base pb qs) (hpb : pb < W.heap.size) (hbo : base ≤ bo) (hmb : base ≤ mb) (hlen : qs.length ≤ 10000) (hr : r.size ≤ 1000)
    (h1 : SigAt W base (.slice (some ⟨b1, 0, none⟩) n1 c1) S) (h2 : SigAt W base (.slice (some ⟨b2, 0, none⟩) n2 c2) T) :
    Calls Try.prog 78 #[.agg #[.slice (some ⟨b1, 0, none⟩) n1 c1, .slice (some ⟨b2, 0, none⟩) n2 c2, .string r], .pointer (some ⟨bs, 0, none⟩), .pointer (some ⟨bo, 0, none⟩)] W fun e W' =>
      e = .returned (.tuple #[]) ∧ ASt W' bo bs mb base pb (addQ qs (S, T, r)) ∧ KeepT W W' ∧ Below base W W' ∧ (∀ cur fr, W.heap[pb]? = some (Obj.cells cur 85 fr) → W'.heap[pb]? = W.heap[pb]?) := by
  obtain ⟨ps, ha, hp⟩ := h
  refine (aladd_calls bo bs mb base pb ps b1 n1 c1 b2 n2 c2 r W ha hpb hbo hmb (by rw [hp.1]; exact hlen) hr).mono ?_
  rintro e W' ⟨rfl, h3, h4, h5, h6⟩
  exact ⟨rfl, ⟨_, h3, (hp.add h1 h2).keep fun v S hs => h4.sig hs⟩, h4, h5, h6⟩
/-- What lies around the search. -/
structure Env (w W : World) (A0 : Option Addr) (n c0 bo bs cB aB bB adB fB : Nat) : Prop where
  below : Below w.heap.size w W
  code : Boxed W cB 22 (.slice A0 n c0)
  ab : Boxed W aB 35 (.slice none 0 0)
  bb : Boxed W bB 35 (.slice none 0 0)
  add : Boxed W adB 86 (.func (.func 78) #[] #[.pointer (some ⟨bs, 0, none⟩), .pointer (some ⟨bo, 0, none⟩)])
theorem Env.keep {w W W' : World} {A0 : Option Addr} {n c0 bo bs cB aB bB adB fB : Nat} (h : Env w W A0 n c0 bo bs cB aB bB adB fB) (hk : KeepT W W') (hb : Below w.heap.size W W') : Env w W' A0 n c0 bo bs cB aB bB adB fB :=
  ⟨h.below.trans hb, hk.boxed h.code (by decide) (by decide), hk.boxed h.ab (by decide) (by decide), hk.boxed h.bb (by decide) (by decide), hk.boxed h.add (by decide) (by decide)⟩
/-- A list of numbers, cloned and one more behind it. -/
theorem clone_calls (W : World) (base : Nat) (v : Value) (S : List Nat) (b n c : Nat) (hv : v = .slice (some ⟨b, 0, none⟩) n c) (h : SigAt W base v S) (hl : S.length ≤ 100000) :
    Calls Try.prog 81 #[.slice (some ⟨b, 0, none⟩) n c] W fun e w' => ∃ v', e = .returned v' ∧ w'.ownsRow W.heap.size 3 1 v' S.length (numsV S) ∧ Below W.heap.size W w' := by
  obtain ⟨b', c', cur, e, -, -, hj, -⟩ := h
  rw [hv] at e
  cases e
  refine (Try.slices_Clone_int b 0 S.length c (S.map fun n : Nat => (n : Int)) W (by simp) (by omega) (fun j hj2 => ?_)).mono ?_
  · rw [Nat.zero_add]
    rw [List.length_map] at hj2
    rw [hj j _ (numsV_get S j hj2)]
    simp [List.getD_eq_getElem?_getD, hj2]
  · rintro e w' ⟨v', rfl, ho, -, hb⟩
    refine ⟨v', rfl, ?_, hb⟩
    have e1 : ((S.map fun n : Nat => (n : Int)).take S.length).map (Value.int .i64) = numsV S := by
      rw [List.take_of_length_le (by simp), List.map_map]; rfl
    rw [e1] at ho
    exact ho
theorem followF_len (C : List ByteArray) : ∀ (k i : Nat) (qs : List PQ) (r : List Nat × List Nat), followF C k i qs = some (some r) → r.1.length ≤ 5001 ∧ r.2.length ≤ 5000
  | 0, _, _, _, h => by cases h
  | k + 1, i, qs, r, h => by
    unfold followF at h
    split at h
    · cases h
    · split at h
      · rename_i hc
        split at h
        · injection h with h
          injection h with h
          rw [← h]
          simp only [List.length_append, List.length_singleton]
          omega
        · exact followF_len C k (i + 1) _ r h
      · cases h
/-- The same, where the new list is told. -/
theorem clone_calls2 (W : World) (base : Nat) (S : List Nat) (b n c : Nat) (h : SigAt W base (.slice (some ⟨b, 0, none⟩) n c) S) (hl : S.length ≤ 100000) :
    Calls Try.prog 81 #[.slice (some ⟨b, 0, none⟩) n c] W fun e w' => ∃ g m cap, e = .returned (.slice (some ⟨g, 0, none⟩) m cap) ∧ w'.ownsRow W.heap.size 3 1 (.slice (some ⟨g, 0, none⟩) m cap) S.length (numsV S) ∧ Below W.heap.size W w' := by
  obtain ⟨b', c', cur, e, -, -, hj, -⟩ := h
  cases e
  refine (Try.slices_Clone_int b 0 S.length c (S.map fun n : Nat => (n : Int)) W (by simp) (by omega) (fun j hj2 => ?_)).mono ?_
  · rw [Nat.zero_add]
    rw [List.length_map] at hj2
    rw [hj j _ (numsV_get S j hj2)]
    simp [List.getD_eq_getElem?_getD, hj2]
  · rintro e w' ⟨v', rfl, ho, hnn, hb⟩
    have e1 : ((S.map fun n : Nat => (n : Int)).take S.length).map (Value.int .i64) = numsV S := by
      rw [List.take_of_length_le (by simp), List.map_map]; rfl
    rw [e1] at ho
    have ho' := ho
    rcases ho.2 with ⟨e, _⟩ | ⟨g, cap, _, rfl, _⟩
    · exact absurd e hnn
    · exact ⟨g, _, cap, rfl, ho', hb⟩
end Go.Proofs.Ytpkafcoflgbnaaa.Q
