import Derived.Test.YtpkafcoflgbnaaaQx2
import Derived.Test.YtpkafcoflgbnaaaQx11
import Derived.Test.YtpkafcoflgbnaaaQx17
import Derived.Test.YtpkafcoflgbnaaaQx24
import Derived.Test.YtpkafcoflgbnaaaLibA
namespace Go.Proofs.Ytpkafcoflgbnaaa.Pure
open Go.RowKit Go.Proofs.Ytpkafcoflgbnaaa.Q Go.Proofs.YtpkafcoflgbnaaaW.PrintWords Go.Proofs.YtpkafcoflgbnaaaW.PrintLast
set_option linter.unusedVariables false

/-! Lists of texts: long, the same, what is in them; which texts begin with which. -/

def gt (C : List ByteArray) (i : Nat) : ByteArray := C.getD i ByteArray.empty
theorem rdOf_gt (C : List ByteArray) (i : Nat) : rdOf ByteArray.empty C (i : Int) = gt C i := rdOf_nat _ _ _
theorem drop_gt {C : List ByteArray} {i : Nat} (h : i < C.length) : C.drop i = gt C i :: C.drop (i + 1) := by
  rw [List.drop_eq_getElem_cons h]
  congr 1
  unfold gt
  rw [List.getD_eq_getElem?_getD, List.getElem?_eq_getElem h]; rfl
theorem drop_rd {l : List Int} {i : Nat} (h : i < l.length) : l.drop i = rd l (i : Int) :: l.drop (i + 1) := by
  rw [List.drop_eq_getElem_cons h, rd_nat]
  congr 1
  rw [List.getD_eq_getElem?_getD, List.getElem?_eq_getElem h]; rfl
def bigC : Nat := 1000000000000000000
def longP (C : List ByteArray) : Bool := C.any (fun s => decide (100 < s.size)) || decide (60 < C.length)
theorem long_at (C : List ByteArray) (hC : C.length < bigC) (d : Nat) : ∀ i, i + d = C.length → Ev (fun k => wigeonlaw05_Long.l0 k C (i : Int)) ((C.drop i).any (fun s => decide (100 < s.size)) || decide (60 < C.length)) := by
  unfold bigC at hC
  induction d with
  | zero =>
    intro i hi
    rw [List.drop_eq_nil_of_le (by omega)]
    refine Ev.step (fun k => by rw [wigeonlaw05_Long.l0]) (Ev.ifn (by omega) (Ev.val ?_))
    rw [List.any_nil, Bool.false_or]
    exact decide_eq_decide.2 (by omega)
  | succ d ih =>
    intro i hi
    rw [drop_gt (by omega), List.any_cons]
    refine Ev.step (fun k => by rw [wigeonlaw05_Long.l0, rdOf_gt]) (Ev.ifp (by omega) (Ev.ifp (by omega) ?_))
    by_cases h : 100 < (gt C i).size
    · exact Ev.ifp (by omega) (Ev.val (by rw [decide_eq_true h]; rfl))
    · refine Ev.ifn (by omega) ?_
      rw [decide_eq_false h, Bool.false_or, w64s (by omega)]
      exact ih (i + 1) (by omega)
theorem long_ev (C : List ByteArray) (hC : C.length < bigC) : Ev (fun k => wigeonlaw05_Long.f k C) (longP C) := by
  have := long_at C hC C.length 0 (by omega)
  rw [List.drop_zero] at this
  exact this
theorem longP_false {C : List ByteArray} (h : longP C = false) : C.length ≤ 60 ∧ ∀ s ∈ C, s.size ≤ 100 := by
  unfold longP at h
  rw [Bool.or_eq_false_iff] at h
  refine ⟨by have := h.2; simp at this; omega, fun s hs => ?_⟩
  have := List.any_eq_false.1 h.1 s hs
  simp at this; omega
theorem sameT_at (a b : List ByteArray) (hl : a.length = b.length) (ha : a.length < bigC) (d : Nat) : ∀ i, i + d = a.length → Ev (fun k => wigeonref05_SameTexts.l0 k a b (i : Int)) (decide (a.drop i = b.drop i)) := by
  unfold bigC at ha
  induction d with
  | zero =>
    intro i hi
    rw [List.drop_eq_nil_of_le (by omega), List.drop_eq_nil_of_le (by omega)]
    exact Ev.step (fun k => by rw [wigeonref05_SameTexts.l0]) (Ev.ifn (by omega) (Ev.val (by simp)))
  | succ d ih =>
    intro i hi
    rw [drop_gt (show i < a.length by omega), drop_gt (show i < b.length by omega)]
    refine Ev.step (fun k => by rw [wigeonref05_SameTexts.l0, rdOf_gt, rdOf_gt]) (Ev.ifp (by omega) (Ev.ifp (by omega) (Ev.ifp (by omega) ?_)))
    by_cases h : gt a i = gt b i
    · refine Ev.ifp (str_eq.2 h) ?_
      rw [w64s (by omega)]
      have := ih (i + 1) (by omega)
      rwa [show decide (gt a i :: a.drop (i + 1) = gt b i :: b.drop (i + 1)) = decide (a.drop (i + 1) = b.drop (i + 1)) from decide_eq_decide.2 (by rw [h]; simp)]
    · refine Ev.ifn (fun e => h (str_eq.1 e)) (Ev.val ?_)
      exact (decide_eq_false (by intro e; exact h (List.cons.inj e).1)).symm
theorem sameT_ev (a b : List ByteArray) (ha : a.length < bigC) : Ev (fun k => wigeonref05_SameTexts.f k a b) (decide (a = b)) := by
  unfold wigeonref05_SameTexts.f
  by_cases h : a.length = b.length
  · refine Ev.ifp (by omega) ?_
    have := sameT_at a b h ha a.length 0 (by omega)
    rw [List.drop_zero, List.drop_zero] at this
    exact this
  · exact Ev.ifn (by omega) (Ev.val (decide_eq_false (fun e => h (by rw [e]))).symm)
theorem sameI_at (a b : List Int) (hl : a.length = b.length) (ha : a.length < bigC) (d : Nat) : ∀ i, i + d = a.length → Ev (fun k => wigeonref05_SameInts.l0 k a b (i : Int)) (decide (a.drop i = b.drop i)) := by
  unfold bigC at ha
  induction d with
  | zero =>
    intro i hi
    rw [List.drop_eq_nil_of_le (by omega), List.drop_eq_nil_of_le (by omega)]
    exact Ev.step (fun k => by rw [wigeonref05_SameInts.l0]) (Ev.ifn (by omega) (Ev.val (by simp)))
  | succ d ih =>
    intro i hi
    rw [drop_rd (show i < a.length by omega), drop_rd (show i < b.length by omega)]
    refine Ev.step (fun k => by rw [wigeonref05_SameInts.l0]) (Ev.ifp (by omega) (Ev.ifp (by omega) (Ev.ifp (by omega) ?_)))
    by_cases h : rd a (i : Int) = rd b (i : Int)
    · refine Ev.ifp h ?_
      rw [w64s (by omega)]
      have := ih (i + 1) (by omega)
      rwa [show decide (rd a (i : Int) :: a.drop (i + 1) = rd b (i : Int) :: b.drop (i + 1)) = decide (a.drop (i + 1) = b.drop (i + 1)) from decide_eq_decide.2 (by rw [h]; simp)]
    · refine Ev.ifn h (Ev.val ?_)
      exact (decide_eq_false (by intro e; exact h (List.cons.inj e).1)).symm
theorem sameI_ev (a b : List Int) (ha : a.length < bigC) : Ev (fun k => wigeonref05_SameInts.f k a b) (decide (a = b)) := by
  unfold wigeonref05_SameInts.f
  by_cases h : a.length = b.length
  · refine Ev.ifp (by omega) ?_
    have := sameI_at a b h ha a.length 0 (by omega)
    rw [List.drop_zero, List.drop_zero] at this
    exact this
  · exact Ev.ifn (by omega) (Ev.val (decide_eq_false (fun e => h (by rw [e]))).symm)
theorem inS_iff {l : List ByteArray} {x : ByteArray} : Go.Lib.containsS l x = true ↔ x ∈ l := Go.Lib.containsS_iff l x
theorem inS_eq {l m : List ByteArray} {x y : ByteArray} (h : x ∈ l ↔ y ∈ m) : Go.Lib.containsS l x = Go.Lib.containsS m y := by rw [Bool.eq_iff_iff, inS_iff, inS_iff]; exact h
theorem inS_true {l : List ByteArray} {x : ByteArray} (h : x ∈ l) : Go.Lib.containsS l x = true := inS_iff.2 h
theorem inS_false {l : List ByteArray} {x : ByteArray} (h : x ∉ l) : Go.Lib.containsS l x = false := by rw [Bool.eq_false_iff]; exact fun e => h (inS_iff.1 e)
theorem index_at (l : List ByteArray) (x : ByteArray) (hl : l.length < bigC) (d : Nat) : ∀ i, i + d = l.length → ∃ r, Ev (fun k => slices_Index_string_string.l0 k l x (l.length : Int) (i : Int)) r ∧ (0 ≤ r ↔ x ∈ l.drop i) := by
  unfold bigC at hl
  induction d with
  | zero =>
    intro i hi
    refine ⟨-1, Ev.step (fun k => by rw [slices_Index_string_string.l0]) (Ev.ifn (by omega) (Ev.now _)), ?_⟩
    rw [List.drop_eq_nil_of_le (by omega)]; simp
  | succ d ih =>
    intro i hi
    rw [drop_gt (show i < l.length by omega)]
    by_cases h : x = gt l i
    · refine ⟨(i : Int), Ev.step (fun k => by rw [slices_Index_string_string.l0, rdOf_gt]) (Ev.ifp (by omega) (Ev.ifp (by omega) (Ev.ifp (by omega) (Ev.ifp (str_eq.2 h) (Ev.now _))))), ?_⟩
      simp [h]
    · obtain ⟨r, h1, h2⟩ := ih (i + 1) (by omega)
      refine ⟨r, Ev.step (fun k => by rw [slices_Index_string_string.l0, rdOf_gt]) (Ev.ifp (by omega) (Ev.ifp (by omega) (Ev.ifp (by omega) (Ev.ifn (fun e => h (str_eq.1 e)) (by rw [w64s (by omega)]; exact h1))))), ?_⟩
      rw [h2]; simp [h]
theorem contains_ev (l : List ByteArray) (x : ByteArray) (hl : l.length < bigC) : Ev (fun k => slices_Contains_string_string.f k l x) (Go.Lib.containsS l x) := by
  unfold slices_Contains_string_string.f slices_Index_string_string.f
  obtain ⟨r, h1, h2⟩ := index_at l x hl l.length 0 (by omega)
  rw [List.drop_zero] at h2
  refine Ev.bind h1 (Ev.val ?_)
  rw [Bool.eq_iff_iff, inS_iff, decide_eq_true_eq]
  exact h2
theorem has_at (l : List ByteArray) (x : ByteArray) (hl : l.length < bigC) (d : Nat) : ∀ i, i + d = l.length → Ev (fun k => wigeonref05_has.l0 k l x (i : Int)) (Go.Lib.containsS (l.drop i) x) := by
  unfold bigC at hl
  induction d with
  | zero =>
    intro i hi
    rw [List.drop_eq_nil_of_le (by omega)]
    exact Ev.step (fun k => by rw [wigeonref05_has.l0]) (Ev.ifn (by omega) (Ev.val (inS_false (by simp)).symm))
  | succ d ih =>
    intro i hi
    rw [drop_gt (show i < l.length by omega)]
    refine Ev.step (fun k => by rw [wigeonref05_has.l0, rdOf_gt]) (Ev.ifp (by omega) (Ev.ifp (by omega) ?_))
    by_cases h : gt l i = x
    · exact Ev.ifp (str_eq.2 h) (Ev.val (inS_true (by rw [h]; simp)).symm)
    · refine Ev.ifn (fun e => h (str_eq.1 e)) ?_
      rw [w64s (by omega)]
      have := ih (i + 1) (by omega)
      rwa [inS_eq (l := gt l i :: l.drop (i + 1)) (m := l.drop (i + 1)) (x := x) (y := x) (by rw [List.mem_cons]; exact ⟨fun e => e.resolve_left (fun e => h e.symm), .inr⟩)]
theorem has_ev (l : List ByteArray) (x : ByteArray) (hl : l.length < bigC) : Ev (fun k => wigeonref05_has.f k l x) (Go.Lib.containsS l x) := by
  have := has_at l x hl l.length 0 (by omega)
  rw [List.drop_zero] at this
  exact this
theorem head_raw (a b : ByteArray) : headB a b = (decide (b.size ≤ a.size) && ((a.extract 0 b.size).toList == b.toList)) := (Go.Lib.hasPrefix_raw a b).symm
theorem begins_eq (a b : ByteArray) : wigeonref05_begins.f a b = some (headB a b) := by
  unfold wigeonref05_begins.f
  rw [head_raw]
  by_cases h : b.size ≤ a.size
  · rw [if_pos (by omega), if_pos (by omega), if_pos (by omega), decide_eq_true h, Bool.true_and, Int.toNat_natCast]
  · rw [if_neg (by omega), decide_eq_false h, Bool.false_and]
theorem hasPrefix_eq (a b : ByteArray) : strings_HasPrefix.f a b = some (headB a b) := by
  unfold strings_HasPrefix.f stringslite_HasPrefix.f
  rw [head_raw]
  by_cases h : b.size ≤ a.size
  · rw [if_pos (by omega), if_pos (by omega), if_pos (by omega), decide_eq_true h, Bool.true_and, Int.toNat_natCast]; rfl
  · rw [if_neg (by omega), decide_eq_false h, Bool.false_and]; rfl
end Go.Proofs.Ytpkafcoflgbnaaa.Pure
