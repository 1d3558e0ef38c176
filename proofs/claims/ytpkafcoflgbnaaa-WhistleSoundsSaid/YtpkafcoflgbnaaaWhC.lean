/- What is left over, plainly; one call of the closure. -/
import Derived.Test.YtpkafcoflgbnaaaWLast
import Derived.Test.YtpkafcoflgbnaaaWMore
import Derived.Test.YtpkafcoflgbnaaaProg
import Derived.Test.YtpkafcoflgbnaaaShelf
import Derived.OwnWalk
import Derived.Handy
import Derived.Deep.DeepMust
import Derived.Lib.Hide
import Derived.Outline
import Derived.IntWalk
import Derived.Deep.RegionWith
import Derived.RangeFuncBox
import Derived.Test.YtpkafcoflgbnaaaWhB
namespace Go.Proofs.Ytpkafcoflgbnaaa.Q
open Go.RowKit Go.Proofs.YtpkafcoflgbnaaaW.PrintWords Go.Proofs.YtpkafcoflgbnaaaW.PrintLast Go.Proofs.YtpkafcoflgbnaaaW.PrintMore 
set_option linter.unusedVariables false
set_option linter.unusedSimpArgs false
/-! ends: what is left over, found row by row. -/
def restB (y x : ByteArray) : ByteArray := ⟨(Lib.trimPrefix y.data.toList x.data.toList).toArray⟩
def headB (y x : ByteArray) : Bool := Lib.hasPrefix y.data.toList x.data.toList
theorem cut_calls (y x : ByteArray) (w : World) : Calls Try.prog 79 #[.string y, .string x] w fun e w' => e = .returned (.tuple #[.string (restB y x), .bool (headB y x)]) ∧ w' = w := Try.strings_CutPrefix y x w
def cutO (o : List ByteArray) (y x : ByteArray) : List ByteArray := addO o (restB y x) (headB y x)
theorem addO_ge (o : List ByteArray) (t : ByteArray) (b : Bool) : o.length ≤ (addO o t b).length := by
  unfold addO; split
  · rw [List.length_append]; omega
  · exact Nat.le_refl _
theorem addO_le (o : List ByteArray) (t : ByteArray) (b : Bool) : (addO o t b).length ≤ o.length + 1 := by
  unfold addO; split
  · rw [List.length_append, List.length_singleton]; omega
  · omega
theorem addO_get (o : List ByteArray) (t : ByteArray) (b : Bool) (i : Nat) (h : i < o.length) : (addO o t b).getD i ByteArray.empty = o.getD i ByteArray.empty := by
  unfold addO; split
  · rw [List.getD_eq_getElem?_getD, List.getD_eq_getElem?_getD, List.getElem?_append_left h]
  · rfl
/-- A row of the first search: the first j signals against x. -/
def inA (C : List ByteArray) (x : ByteArray) : Nat → List ByteArray → List ByteArray
  | 0, o => o
  | j + 1, o => cutO (inA C x j o) (C.getD j ByteArray.empty) x
def outA (C : List ByteArray) : Nat → List ByteArray
  | 0 => []
  | k + 1 => inA C (C.getD k ByteArray.empty) C.length (outA C k)
/-- A row of the second search: what is left over of e and the first j signals. -/
def inB (C : List ByteArray) (e : ByteArray) : Nat → List ByteArray → List ByteArray
  | 0, o => o
  | j + 1, o => cutO (cutO (inB C e j o) e (C.getD j ByteArray.empty)) (C.getD j ByteArray.empty) e
theorem inA_le (C : List ByteArray) (x : ByteArray) : ∀ j o, (inA C x j o).length ≤ o.length + j
  | 0, o => Nat.le_refl _
  | j + 1, o => by have := inA_le C x j o; have := addO_le (inA C x j o) (restB (C.getD j ByteArray.empty) x) (headB (C.getD j ByteArray.empty) x); show (addO _ _ _).length ≤ _; omega
theorem outA_le (C : List ByteArray) : ∀ k, (outA C k).length ≤ k * C.length
  | 0 => Nat.zero_le _
  | k + 1 => by have := outA_le C k; have := inA_le C (C.getD k ByteArray.empty) C.length (outA C k); show (inA _ _ _ _).length ≤ _; rw [Nat.succ_mul]; omega
theorem inB_le (C : List ByteArray) (e : ByteArray) : ∀ j o, (inB C e j o).length ≤ o.length + 2 * j
  | 0, o => Nat.le_refl _
  | j + 1, o => by
    have h0 := inB_le C e j o
    have h1 := addO_le (inB C e j o) (restB e (C.getD j ByteArray.empty)) (headB e (C.getD j ByteArray.empty))
    have h2 := addO_le (cutO (inB C e j o) e (C.getD j ByteArray.empty)) (restB (C.getD j ByteArray.empty) e) (headB (C.getD j ByteArray.empty) e)
    show (addO _ _ _).length ≤ _
    unfold cutO at h2 ⊢
    omega
theorem inB_ge (C : List ByteArray) (e : ByteArray) : ∀ j o, o.length ≤ (inB C e j o).length
  | 0, o => Nat.le_refl _
  | j + 1, o => Nat.le_trans (Nat.le_trans (inB_ge C e j o) (addO_ge _ _ _)) (addO_ge _ _ _)
theorem inB_get (C : List ByteArray) (e : ByteArray) (i : Nat) : ∀ j o, i < o.length → (inB C e j o).getD i ByteArray.empty = o.getD i ByteArray.empty
  | 0, o, _ => rfl
  | j + 1, o, h => by
    have h1 := inB_ge C e j o
    have h2 := addO_ge (inB C e j o) (restB e (C.getD j ByteArray.empty)) (headB e (C.getD j ByteArray.empty))
    exact (addO_get _ _ _ i (Nat.lt_of_lt_of_le h (Nat.le_trans h1 h2))).trans ((addO_get _ _ _ i (Nat.lt_of_lt_of_le h h1)).trans (inB_get C e i j o h))
/-- The second search. -/
def goB (C : List ByteArray) : Nat → List ByteArray → Nat → Option (List ByteArray)
  | 0, _, _ => none
  | f + 1, o, i => if o.length ≤ 100000 then (if i < o.length then goB C f (inB C (o.getD i ByteArray.empty) C.length o) (i + 1) else some o) else none
def sortS (l : List ByteArray) : List ByteArray := ((l.map (·.data.toList)).mergeSort fun x y => decide (x ≤ y)).map fun b => ⟨b.toArray⟩
def endsL (k : Nat) (C : List ByteArray) : Option (List ByteArray) := if C.length ≤ 100 then (goB C k (outA C C.length) 0).map sortS else none
theorem goB_mono (C : List ByteArray) : ∀ f o i r, goB C f o i = some r → goB C (f + 1) o i = some r
  | 0, _, _, _, h => by simp [goB] at h
  | f + 1, o, i, r, h => by
    unfold goB at h ⊢
    split at h
    · rename_i hc
      rw [if_pos hc]
      split at h
      · rename_i hd; rw [if_pos hd]; exact goB_mono C f _ _ r h
      · rename_i hd; rw [if_neg hd]; exact h
    · cases h
/-- What the box and the row say. -/
def EndsAt (w : World) (o : List ByteArray) (W : World) : Prop := ∃ v, Boxed W w.heap.size 22 v ∧ W.ownsRow w.heap.size 9 1 v o.length (o.map Value.string) ∧ Below w.heap.size w W
theorem EndsAt.start (w : World) : EndsAt w [] (w.alloc (.cells #[.slice none 0 0] 22)) := ⟨_, Boxed.new w 22 _, World.ownsRow_nil _ _ _ _, (Below.refl _ _).alloc (Nat.le_refl _) _⟩
/-- One call of the closure. -/
theorem EndsAt.add {w : World} {o : List ByteArray} {W : World} (h : EndsAt w o W) (t : ByteArray) (b : Bool) (hl : o.length ≤ 1000000) :
    Calls Try.prog 97 #[.string t, .bool b, .pointer (some ⟨w.heap.size, 0, none⟩)] W fun e W' => e = .returned (.tuple #[]) ∧ EndsAt w (addO o t b) W' := by
  obtain ⟨v, hb, ho, hB⟩ := h
  refine (add_calls w.heap.size w.heap.size t b o v W hb ho (Nat.le_refl _) hl).mono ?_
  rintro e W' ⟨rfl, v', h1, h2, h3⟩
  exact ⟨rfl, v', h1, h2, hB.trans h3⟩
theorem code_at {w W : World} {A0 : Option Addr} {C : List ByteArray} (hr0 : Kd.C Kd.string w A0 C.length C) (hB : Below w.heap.size w W) (j : Nat) (hj : j < C.length) : ∃ ad, A0 = some ad ∧ W.cell? (ad.add j) = some (.string (C.getD j ByteArray.empty)) := by
  obtain ⟨ad, e, hc⟩ := Kd.at_string (Kd.C_below hr0 hB) (j : Int) (by omega) (by omega)
  rw [Int.toNat_natCast] at hc
  exact ⟨ad, e, hc⟩
end Go.Proofs.Ytpkafcoflgbnaaa.Q
