-- What the plain law TopSignals needs, out of the Libs of this seat.
import Derived.Test.YtpkafcoflgbnaaaQx2
import Derived.Test.YtpkafcoflgbnaaaQx10
import Derived.Test.YtpkafcoflgbnaaaQx11
import Derived.Test.YtpkafcoflgbnaaaQx15
import Derived.Test.YtpkafcoflgbnaaaQx17
import Derived.Test.YtpkafcoflgbnaaaQx22
import Derived.Test.YtpkafcoflgbnaaaQx24
import Derived.Test.YtpkafcoflgbnaaaQx26
import Derived.Test.YtpkafcoflgbnaaaQx28
import Derived.Test.YtpkafcoflgbnaaaQx29
import Derived.Test.YtpkafcoflgbnaaaQx31
import Derived.Test.YtpkafcoflgbnaaaQx35
import Derived.Test.YtpkafcoflgbnaaaQx37
import Derived.Test.YtpkafcoflgbnaaaQx38
import Derived.Test.YtpkafcoflgbnaaaWh1
import Derived.Test.YtpkafcoflgbnaaaWh4
import Derived.Sort.LotA
import Derived.Sort.Walk0
import Derived.Test.YtpkafcoflgbnaaaLibMc
import Derived.Test.YtpkafcoflgbnaaaWh5
import Derived.Test.YtpkafcoflgbnaaaWh6
import Derived.Test.YtpkafcoflgbnaaaWhP2
import Derived.Test.YtpkafcoflgbnaaaWhR2
namespace Go.Proofs.Ytpkafcoflgbnaaa.Pure
open Go.RowKit Go.Proofs.Ytpkafcoflgbnaaa.Q Go.Proofs.YtpkafcoflgbnaaaW.PrintWords Go.Proofs.YtpkafcoflgbnaaaW.PrintLast
open Go.RowKit Go.Proofs.Ytpkafcoflgbnaaa.Q Go.Proofs.YtpkafcoflgbnaaaW.PrintWords Go.Proofs.YtpkafcoflgbnaaaW.PrintLast Go.Proofs.YtpkafcoflgbnaaaW.PrintMore
set_option linter.unusedVariables false


/-! Rounds; texts and lists; which codes and messages are valid. -/

theorem Ev.ifp {α : Type} {c : Prop} [Decidable c] {f g : Nat → Option α} {r : α} (h : c) (k : Ev f r) : Ev (fun n => if c then f n else g n) r := by
  obtain ⟨K, k⟩ := k
  exact ⟨K, fun n hn => by show (if c then f n else g n) = some r; rw [if_pos h]; exact k n hn⟩
theorem Ev.ifn {α : Type} {c : Prop} [Decidable c] {f g : Nat → Option α} {r : α} (h : ¬ c) (k : Ev g r) : Ev (fun n => if c then f n else g n) r := by
  obtain ⟨K, k⟩ := k
  exact ⟨K, fun n hn => by show (if c then f n else g n) = some r; rw [if_neg h]; exact k n hn⟩
theorem Ev.some_bind {α β : Type} {f : Nat → α → Option β} {a : α} {r : β} (k : Ev (fun n => f n a) r) : Ev (fun n => (some a).bind (f n)) r := k
theorem Ev.bindc {α β : Type} {g : Option α} {f : Nat → α → Option β} {a : α} {r : β} (h : g = some a) (k : Ev (fun n => f n a) r) : Ev (fun n => g.bind (f n)) r := by
  subst h
  exact k
theorem Ev.val {α : Type} {a r : α} (h : a = r) : Ev (fun _ => some a) r := by
  subst h
  exact Ev.now _
theorem w64 {a : Int} (h0 : -9223372036854775808 ≤ a) (h1 : a < 9223372036854775808) : wrap64 a = a := by unfold wrap64; omega
theorem w64s {i : Nat} (h : i < 1000000000000000000) : wrap64 ((i : Int) + 1) = ((i + 1 : Nat) : Int) := by rw [w64 (by omega) (by omega)]; omega
theorem rdOf_nat {α : Type} (d : α) (C : List α) (i : Nat) : rdOf d C (i : Int) = C.getD i d := by unfold rdOf; rw [Int.toNat_natCast]
theorem rd_nat (l : List Int) (i : Nat) : rd l (i : Int) = l.getD i 0 := by unfold rd; rw [Int.toNat_natCast]
theorem str_eq {a b : ByteArray} : a.toList = b.toList ↔ a = b := by
  rw [ByteArray.toList_eq, ByteArray.toList_eq]
  constructor
  · intro h
    cases a; cases b
    simp only [Array.toList_inj] at h
    rw [h]
  · intro h; rw [h]
theorem getD_mem {α : Type} {C : List α} {i : Nat} {d : α} (h : i < C.length) : C.getD i d ∈ C := by
  rw [List.getD_eq_getElem?_getD, List.getElem?_eq_getElem h]; exact List.getElem_mem h
theorem mem_getD {α : Type} {C : List α} {x d : α} (h : x ∈ C) : ∃ i, i < C.length ∧ C.getD i d = x := by
  obtain ⟨i, hi, rfl⟩ := List.mem_iff_getElem.1 h
  exact ⟨i, hi, by rw [List.getD_eq_getElem?_getD, List.getElem?_eq_getElem hi]; rfl⟩

/-! Lists of texts: long, the same, what is in them; which texts begin with which. -/

def gt (C : List ByteArray) (i : Nat) : ByteArray := C.getD i ByteArray.empty
theorem rdOf_gt (C : List ByteArray) (i : Nat) : rdOf ByteArray.empty C (i : Int) = gt C i := rdOf_nat _ _ _
theorem drop_gt {C : List ByteArray} {i : Nat} (h : i < C.length) : C.drop i = gt C i :: C.drop (i + 1) := by
  rw [List.drop_eq_getElem_cons h]
  congr 1
  unfold gt
  rw [List.getD_eq_getElem?_getD, List.getElem?_eq_getElem h]; rfl
theorem drop_rd {l : List Int} {i : Nat} (h : i < l.length) : l.drop i = rd l (i : Int) :: l.drop (i + 1) := by
  rw [List.drop_eq_getElem_cons h, rd_nat]
  congr 1
  rw [List.getD_eq_getElem?_getD, List.getElem?_eq_getElem h]; rfl
def bigC : Nat := 1000000000000000000
def longP (C : List ByteArray) : Bool := C.any (fun s => decide (100 < s.size)) || decide (60 < C.length)
theorem long_at (C : List ByteArray) (hC : C.length < bigC) (d : Nat) : ∀ i, i + d = C.length → Ev (fun k => wigeonlaw05_Long.l0 k C (i : Int)) ((C.drop i).any (fun s => decide (100 < s.size)) || decide (60 < C.length)) := by
  unfold bigC at hC
  induction d with
  | zero =>
    intro i hi
    rw [List.drop_eq_nil_of_le (by omega)]
    refine Ev.step (fun k => by rw [wigeonlaw05_Long.l0]) (Ev.ifn (by omega) (Ev.val ?_))
    rw [List.any_nil, Bool.false_or]
    exact decide_eq_decide.2 (by omega)
  | succ d ih =>
    intro i hi
    rw [drop_gt (by omega), List.any_cons]
    refine Ev.step (fun k => by rw [wigeonlaw05_Long.l0, rdOf_gt]) (Ev.ifp (by omega) (Ev.ifp (by omega) ?_))
    by_cases h : 100 < (gt C i).size
    · exact Ev.ifp (by omega) (Ev.val (by rw [decide_eq_true h]; rfl))
    · refine Ev.ifn (by omega) ?_
      rw [decide_eq_false h, Bool.false_or, w64s (by omega)]
      exact ih (i + 1) (by omega)
theorem long_ev (C : List ByteArray) (hC : C.length < bigC) : Ev (fun k => wigeonlaw05_Long.f k C) (longP C) := by
  have := long_at C hC C.length 0 (by omega)
  rw [List.drop_zero] at this
  exact this
theorem sameI_at (a b : List Int) (hl : a.length = b.length) (ha : a.length < bigC) (d : Nat) : ∀ i, i + d = a.length → Ev (fun k => wigeonref05_SameInts.l0 k a b (i : Int)) (decide (a.drop i = b.drop i)) := by
  unfold bigC at ha
  induction d with
  | zero =>
    intro i hi
    rw [List.drop_eq_nil_of_le (by omega), List.drop_eq_nil_of_le (by omega)]
    exact Ev.step (fun k => by rw [wigeonref05_SameInts.l0]) (Ev.ifn (by omega) (Ev.val (by simp)))
  | succ d ih =>
    intro i hi
    rw [drop_rd (show i < a.length by omega), drop_rd (show i < b.length by omega)]
    refine Ev.step (fun k => by rw [wigeonref05_SameInts.l0]) (Ev.ifp (by omega) (Ev.ifp (by omega) (Ev.ifp (by omega) ?_)))
    by_cases h : rd a (i : Int) = rd b (i : Int)
    · refine Ev.ifp h ?_
      rw [w64s (by omega)]
      have := ih (i + 1) (by omega)
      rwa [show decide (rd a (i : Int) :: a.drop (i + 1) = rd b (i : Int) :: b.drop (i + 1)) = decide (a.drop (i + 1) = b.drop (i + 1)) from decide_eq_decide.2 (by rw [h]; simp)]
    · refine Ev.ifn h (Ev.val ?_)
      exact (decide_eq_false (by intro e; exact h (List.cons.inj e).1)).symm
theorem sameI_ev (a b : List Int) (ha : a.length < bigC) : Ev (fun k => wigeonref05_SameInts.f k a b) (decide (a = b)) := by
  unfold wigeonref05_SameInts.f
  by_cases h : a.length = b.length
  · refine Ev.ifp (by omega) ?_
    have := sameI_at a b h ha a.length 0 (by omega)
    rw [List.drop_zero, List.drop_zero] at this
    exact this
  · exact Ev.ifn (by omega) (Ev.val (decide_eq_false (fun e => h (by rw [e]))).symm)
theorem inS_iff {l : List ByteArray} {x : ByteArray} : Go.Lib.containsS l x = true ↔ x ∈ l := Go.Lib.containsS_iff l x
theorem inS_eq {l m : List ByteArray} {x y : ByteArray} (h : x ∈ l ↔ y ∈ m) : Go.Lib.containsS l x = Go.Lib.containsS m y := by rw [Bool.eq_iff_iff, inS_iff, inS_iff]; exact h
theorem inS_true {l : List ByteArray} {x : ByteArray} (h : x ∈ l) : Go.Lib.containsS l x = true := inS_iff.2 h
theorem inS_false {l : List ByteArray} {x : ByteArray} (h : x ∉ l) : Go.Lib.containsS l x = false := by rw [Bool.eq_false_iff]; exact fun e => h (inS_iff.1 e)
theorem index_at (l : List ByteArray) (x : ByteArray) (hl : l.length < bigC) (d : Nat) : ∀ i, i + d = l.length → ∃ r, Ev (fun k => slices_Index_string_string.l0 k l x (l.length : Int) (i : Int)) r ∧ (0 ≤ r ↔ x ∈ l.drop i) := by
  unfold bigC at hl
  induction d with
  | zero =>
    intro i hi
    refine ⟨-1, Ev.step (fun k => by rw [slices_Index_string_string.l0]) (Ev.ifn (by omega) (Ev.now _)), ?_⟩
    rw [List.drop_eq_nil_of_le (by omega)]; simp
  | succ d ih =>
    intro i hi
    rw [drop_gt (show i < l.length by omega)]
    by_cases h : x = gt l i
    · refine ⟨(i : Int), Ev.step (fun k => by rw [slices_Index_string_string.l0, rdOf_gt]) (Ev.ifp (by omega) (Ev.ifp (by omega) (Ev.ifp (by omega) (Ev.ifp (str_eq.2 h) (Ev.now _))))), ?_⟩
      simp [h]
    · obtain ⟨r, h1, h2⟩ := ih (i + 1) (by omega)
      refine ⟨r, Ev.step (fun k => by rw [slices_Index_string_string.l0, rdOf_gt]) (Ev.ifp (by omega) (Ev.ifp (by omega) (Ev.ifp (by omega) (Ev.ifn (fun e => h (str_eq.1 e)) (by rw [w64s (by omega)]; exact h1))))), ?_⟩
      rw [h2]; simp [h]
theorem contains_ev (l : List ByteArray) (x : ByteArray) (hl : l.length < bigC) : Ev (fun k => slices_Contains_string_string.f k l x) (Go.Lib.containsS l x) := by
  unfold slices_Contains_string_string.f slices_Index_string_string.f
  obtain ⟨r, h1, h2⟩ := index_at l x hl l.length 0 (by omega)
  rw [List.drop_zero] at h2
  refine Ev.bind h1 (Ev.val ?_)
  rw [Bool.eq_iff_iff, inS_iff, decide_eq_true_eq]
  exact h2
theorem head_raw (a b : ByteArray) : headB a b = (decide (b.size ≤ a.size) && ((a.extract 0 b.size).toList == b.toList)) := (Go.Lib.hasPrefix_raw a b).symm
theorem begins_eq (a b : ByteArray) : wigeonref05_begins.f a b = some (headB a b) := by
  unfold wigeonref05_begins.f
  rw [head_raw]
  by_cases h : b.size ≤ a.size
  · rw [if_pos (by omega), if_pos (by omega), if_pos (by omega), decide_eq_true h, Bool.true_and, Int.toNat_natCast]
  · rw [if_neg (by omega), decide_eq_false h, Bool.false_and]
theorem hasPrefix_eq (a b : ByteArray) : strings_HasPrefix.f a b = some (headB a b) := by
  unfold strings_HasPrefix.f stringslite_HasPrefix.f
  rw [head_raw]
  by_cases h : b.size ≤ a.size
  · rw [if_pos (by omega), if_pos (by omega), if_pos (by omega), decide_eq_true h, Bool.true_and, Int.toNat_natCast]; rfl
  · rw [if_neg (by omega), decide_eq_false h, Bool.false_and]; rfl

/-! What the document gives; which codes are valid, by the program and by the reference. -/

theorem mem_sortS {o : List ByteArray} {x : ByteArray} : x ∈ sortS o ↔ x ∈ o := by
  unfold sortS
  rw [List.mem_map]
  constructor
  · rintro ⟨b, hb, rfl⟩
    rw [List.mem_mergeSort, List.mem_map] at hb
    obtain ⟨y, hy, rfl⟩ := hb
    exact hy
  · intro h
    exact ⟨x.data.toList, by rw [List.mem_mergeSort, List.mem_map]; exact ⟨x, h, rfl⟩, rfl⟩
/-! Notes. -/
def noteB (b : UInt8) : Bool := b == 46 || b == 45
theorem noteB_iff {b : UInt8} : noteB b = true ↔ b = 46 ∨ b = 45 := by unfold noteB; simp
theorem bt_nat {s : ByteArray} {i : Nat} (h : i < s.data.toList.length) : bt s (i : Int) = ((s.data.toList[i].toNat : Nat) : Int) := by
  have h2 : i < s.size := by rwa [Array.length_toList] at h
  exact w_bt_of h2
theorem noteW_byte (b : UInt8) : noteW ((b.toNat : Nat) : Int) = noteB b := by
  rw [Bool.eq_iff_iff, noteB_iff]
  unfold noteW
  rw [Bool.or_eq_true, decide_eq_true_eq, decide_eq_true_eq]
  constructor
  · rintro (h | h)
    · exact .inl (UInt8.toNat_inj.1 (by show b.toNat = 46; omega))
    · exact .inr (UInt8.toNat_inj.1 (by show b.toNat = 45; omega))
  · rintro (rfl | rfl)
    · exact .inl rfl
    · exact .inr rfl
theorem notesP_list (s : ByteArray) : notesP s = s.data.toList.all noteB := by
  unfold notesP
  rw [Bool.eq_iff_iff, List.all_eq_true, List.all_eq_true]
  constructor
  · intro h b hb
    obtain ⟨i, hi, rfl⟩ := List.mem_iff_getElem.1 hb
    have := h i (List.mem_range.2 (by rwa [Array.length_toList] at hi))
    rwa [bt_nat hi, noteW_byte] at this
  · intro h i hi
    have hi := List.mem_range.1 hi
    have hi2 : i < s.data.toList.length := by rwa [Array.length_toList]
    rw [bt_nat hi2, noteW_byte]
    exact h _ (List.getElem_mem hi2)
theorem notes_eq {s : ByteArray} (h : s.size ≤ 140737488351232) : whistle_notes.f s = some (notesP s) := by unfold whistle_notes.f; rw [if_pos (by omega)]
theorem isNotes_at (s : ByteArray) (hs : s.size < bigC) (d : Nat) : ∀ i, i + d = s.size → Ev (fun k => wigeonref05_isNotes.l0 k s (i : Int)) ((s.data.toList.drop i).all noteB) := by
  unfold bigC at hs
  have hlen : s.data.toList.length = s.size := Array.length_toList
  induction d with
  | zero =>
    intro i hi
    rw [List.drop_eq_nil_of_le (by omega)]
    exact Ev.step (fun k => by rw [wigeonref05_isNotes.l0]) (Ev.ifn (by omega) (Ev.val (by rfl)))
  | succ d ih =>
    intro i hi
    have h2 : i < s.data.toList.length := by omega
    rw [List.drop_eq_getElem_cons h2, List.all_cons]
    refine Ev.step (fun k => by rw [wigeonref05_isNotes.l0]) (Ev.ifp (by omega) (Ev.ifp (by omega) ?_))
    rw [bt_nat h2]
    have hn := noteW_byte s.data.toList[i]
    generalize s.data.toList[i] = b at *
    unfold noteW at hn
    by_cases h : ((b.toNat : Nat) : Int) = 46
    · refine Ev.ifp h ?_
      rw [decide_eq_true h] at hn
      rw [← hn, Bool.true_or, Bool.true_and, w64s (by omega)]
      exact ih (i + 1) (by omega)
    · refine Ev.ifn h ?_
      rw [decide_eq_false h, Bool.false_or] at hn
      by_cases h5 : ((b.toNat : Nat) : Int) = 45
      · refine Ev.ifp h5 ?_
        rw [decide_eq_true h5] at hn
        rw [← hn, Bool.true_and, w64s (by omega)]
        exact ih (i + 1) (by omega)
      · refine Ev.ifn h5 (Ev.val ?_)
        rw [decide_eq_false h5] at hn
        rw [← hn, Bool.false_and]
theorem isNotes_ev (s : ByteArray) (hs : s.size < bigC) : Ev (fun k => wigeonref05_isNotes.f k s) (notesP s) := by
  have := isNotes_at s hs s.size 0 (by omega)
  rw [List.drop_zero, ← notesP_list] at this
  exact this
/-! Validate. -/
def okS (s : ByteArray) : Bool := decide (1 ≤ s.size) && decide (s.size ≤ 12) && notesP s
def valAt (C : List ByteArray) : Nat → Nat → Int
  | 0, _ => 0
  | d + 1, i => if okS (gt C i) = false then 1 else if Go.Lib.containsS (C.take i) (gt C i) = true then 5 else valAt C d (i + 1)
def valP (C : List ByteArray) : Int := if C.length < 1 ∨ 12 < C.length then 3 else valAt C C.length 0
def Sized (C : List ByteArray) : Prop := ∀ s ∈ C, s.size ≤ 140737488351232
theorem Sized.gt {C : List ByteArray} (h : Sized C) (i : Nat) : (gt C i).size ≤ 140737488351232 := by
  by_cases hi : i < C.length
  · exact h _ (getD_mem hi)
  · unfold Pure.gt
    rw [List.getD_eq_getElem?_getD, List.getElem?_eq_none (by omega)]
    decide
theorem val_at (C : List ByteArray) (hC : C.length ≤ 12) (hS : Sized C) (d : Nat) : ∀ i, i + d = C.length → Ev (fun k => whistle_Validate.l0 k C C (C.length : Int) (i : Int)) (valAt C d i) := by
  induction d with
  | zero =>
    intro i hi
    exact Ev.step (fun k => by rw [whistle_Validate.l0]) (Ev.ifn (by omega) (Ev.val (by rfl)))
  | succ d ih =>
    intro i hi
    have hs := hS.gt i
    have hj1 : ∀ v : ByteArray, Ev (fun k => whistle_Validate.j2 k C (i : Int) v C (C.length : Int) (i : Int) true) 1 := fun v => Ev.step (fun k => by rw [whistle_Validate.j2]) (Ev.ifp rfl (Ev.now _))
    unfold valAt
    refine Ev.step (fun k => by rw [whistle_Validate.l0, rdOf_gt]) (Ev.ifp (by omega) (Ev.ifp (by omega) (Ev.ifp (by omega) ?_)))
    by_cases h1 : 1 ≤ (gt C i).size
    · refine Ev.ifn (by omega) ?_
      by_cases h2 : (gt C i).size ≤ 12
      · refine Ev.ifn (by omega) (Ev.bindc (notes_eq hs) ?_)
        have hok : okS (gt C i) = notesP (gt C i) := by unfold okS; rw [decide_eq_true h1, decide_eq_true h2]; rfl
        rw [hok]
        cases hn : notesP (gt C i)
        · rw [if_pos rfl]; exact hj1 _
        · rw [if_neg (by decide)]
          refine Ev.step (fun k => by rw [whistle_Validate.j2]) (Ev.ifn (by decide) (Ev.ifp (by omega) (Ev.ifp (by omega) ?_)))
          rw [Int.toNat_natCast]
          refine Ev.bind (contains_ev (C.take i) (gt C i) (by rw [List.length_take]; unfold bigC; omega)) ?_
          by_cases hc : Go.Lib.containsS (C.take i) (gt C i) = true
          · rw [if_pos hc]
            exact Ev.ifp hc (Ev.now _)
          · rw [if_neg hc]
            refine Ev.ifn hc ?_
            rw [w64s (by omega)]
            exact ih (i + 1) (by omega)
      · refine Ev.ifp (by omega) ?_
        rw [if_pos (by unfold okS; rw [decide_eq_false h2, Bool.and_false, Bool.false_and])]
        exact hj1 _
    · refine Ev.ifp (by omega) ?_
      rw [if_pos (by unfold okS; rw [decide_eq_false h1, Bool.false_and, Bool.false_and])]
      exact hj1 _
theorem val_ev (C : List ByteArray) (hS : Sized C) : Ev (fun k => whistle_Validate.f k C) (valP C) := by
  unfold whistle_Validate.f valP
  have hj : Ev (fun k => whistle_Validate.j0 k C true) 3 := Ev.step (fun k => by rw [whistle_Validate.j0]) (Ev.ifp rfl (Ev.now _))
  by_cases h1 : C.length < 1
  · rw [if_pos (.inl h1)]
    exact Ev.ifp (by omega) hj
  · refine Ev.ifn (by omega) ?_
    by_cases h2 : 12 < C.length
    · rw [if_pos (.inr h2), decide_eq_true (show (C.length : Int) > 12 by omega)]
      exact hj
    · rw [if_neg (by omega), decide_eq_false (show ¬ (C.length : Int) > 12 by omega)]
      have h0 : Ev (fun k => whistle_Validate.l0 k C C (C.length : Int) 0) (valAt C C.length 0) := val_at C (by omega) hS C.length 0 (by omega)
      exact Ev.step (fun k => by rw [whistle_Validate.j0]) (Ev.ifn (by decide) h0)
theorem rval_in (C : List ByteArray) (hC : C.length ≤ 12) (i : Nat) (hi : i < C.length) (r0 : Int) (hr : Ev (fun k => wigeonref05_Validate.l0 k C ((i + 1 : Nat) : Int)) r0) (d : Nat) : ∀ j, j + d = i → Ev (fun k => wigeonref05_Validate.l1 k C (i : Int) (j : Int)) (if Go.Lib.containsS ((C.take i).drop j) (gt C i) = true then 5 else r0) := by
  induction d with
  | zero =>
    intro j hj
    rw [List.drop_eq_nil_of_le (by rw [List.length_take]; omega), inS_false (by simp), if_neg (by decide)]
    refine Ev.step (fun k => by rw [wigeonref05_Validate.l1]) (Ev.ifn (by omega) ?_)
    rw [w64s (by omega)]
    exact hr
  | succ d ih =>
    intro j hj
    have hg : gt (C.take i) j = gt C j := by
      unfold gt
      rw [List.getD_eq_getElem?_getD, List.getD_eq_getElem?_getD, List.getElem?_take_of_lt (by omega)]
    rw [drop_gt (show j < (C.take i).length by rw [List.length_take]; omega), hg]
    refine Ev.step (fun k => by rw [wigeonref05_Validate.l1, rdOf_gt, rdOf_gt]) (Ev.ifp (by omega) (Ev.ifp (by omega) (Ev.ifp (by omega) (Ev.ifp (by omega) (Ev.ifp (by omega) ?_)))))
    by_cases h : gt C j = gt C i
    · rw [inS_true (by rw [h]; simp), if_pos rfl]
      exact Ev.ifp (str_eq.2 h) (Ev.now _)
    · refine Ev.ifn (fun e => h (str_eq.1 e)) ?_
      rw [w64s (by omega)]
      have := ih (j + 1) (by omega)
      rwa [inS_eq (l := gt C j :: (C.take i).drop (j + 1)) (m := (C.take i).drop (j + 1)) (x := gt C i) (y := gt C i) (by rw [List.mem_cons]; exact ⟨fun e => e.resolve_left (fun e => h e.symm), .inr⟩)]
theorem rval_at (C : List ByteArray) (hC : C.length ≤ 12) (hS : Sized C) (d : Nat) : ∀ i, i + d = C.length → Ev (fun k => wigeonref05_Validate.l0 k C (i : Int)) (valAt C d i) := by
  induction d with
  | zero =>
    intro i hi
    exact Ev.step (fun k => by rw [wigeonref05_Validate.l0]) (Ev.ifn (by omega) (Ev.val (by rfl)))
  | succ d ih =>
    intro i hi
    have hs := hS.gt i
    have hj1 : Ev (fun k => wigeonref05_Validate.j2 k C (i : Int) true) 1 := Ev.step (fun k => by rw [wigeonref05_Validate.j2]) (Ev.ifp rfl (Ev.now _))
    unfold valAt
    refine Ev.step (fun k => by rw [wigeonref05_Validate.l0, rdOf_gt]) (Ev.ifp (by omega) (Ev.ifp (by omega) ?_))
    by_cases h1 : 1 ≤ (gt C i).size
    · refine Ev.ifn (by omega) ?_
      by_cases h2 : (gt C i).size ≤ 12
      · refine Ev.ifn (by omega) (Ev.bind (isNotes_ev _ (by unfold bigC; omega)) ?_)
        have hok : okS (gt C i) = notesP (gt C i) := by unfold okS; rw [decide_eq_true h1, decide_eq_true h2]; rfl
        rw [hok]
        cases hn : notesP (gt C i)
        · rw [if_pos rfl]; exact hj1
        · rw [if_neg (by decide)]
          refine Ev.step (fun k => by rw [wigeonref05_Validate.j2]) (Ev.ifn (by decide) ?_)
          have h0 : Ev (fun k => wigeonref05_Validate.l1 k C (i : Int) 0) (if Go.Lib.containsS ((C.take i).drop 0) (gt C i) = true then 5 else valAt C d (i + 1)) := rval_in C hC i (by omega) _ (ih (i + 1) (by omega)) i 0 (by omega)
          rwa [List.drop_zero] at h0
      · refine Ev.ifp (by omega) ?_
        rw [if_pos (by unfold okS; rw [decide_eq_false h2, Bool.and_false, Bool.false_and])]
        exact hj1
    · refine Ev.ifp (by omega) ?_
      rw [if_pos (by unfold okS; rw [decide_eq_false h1, Bool.false_and, Bool.false_and])]
      exact hj1
theorem rval_ev (C : List ByteArray) (hS : Sized C) : Ev (fun k => wigeonref05_Validate.f k C) (valP C) := by
  unfold wigeonref05_Validate.f valP
  have hj : Ev (fun k => wigeonref05_Validate.j0 k C true) 3 := Ev.step (fun k => by rw [wigeonref05_Validate.j0]) (Ev.ifp rfl (Ev.now _))
  by_cases h1 : C.length < 1
  · rw [if_pos (.inl h1)]
    exact Ev.ifp (by omega) hj
  · refine Ev.ifn (by omega) ?_
    by_cases h2 : 12 < C.length
    · rw [if_pos (.inr h2), decide_eq_true (show (C.length : Int) > 12 by omega)]
      exact hj
    · rw [if_neg (by omega), decide_eq_false (show ¬ (C.length : Int) > 12 by omega)]
      have h0 : Ev (fun k => wigeonref05_Validate.l0 k C 0) (valAt C C.length 0) := rval_at C (by omega) hS C.length 0 (by omega)
      exact Ev.step (fun k => by rw [wigeonref05_Validate.j0]) (Ev.ifn (by decide) h0)
/-- A valid code. -/
structure Valid (C : List ByteArray) : Prop where
  pos : 1 ≤ C.length
  few : C.length ≤ 12
  size1 : ∀ s ∈ C, 1 ≤ s.size
  size12 : ∀ s ∈ C, s.size ≤ 12
  notes : ∀ s ∈ C, notesP s = true
  nodup : C.Nodup
theorem okS_iff {s : ByteArray} : okS s = true ↔ 1 ≤ s.size ∧ s.size ≤ 12 ∧ notesP s = true := by
  unfold okS
  rw [Bool.and_eq_true, Bool.and_eq_true, decide_eq_true_eq, decide_eq_true_eq]
  exact and_assoc
theorem valAt_zero (C : List ByteArray) (d : Nat) : ∀ i, i + d = C.length → (valAt C d i = 0 ↔ (∀ j, i ≤ j → j < C.length → okS (gt C j) = true ∧ gt C j ∉ C.take j)) := by
  induction d with
  | zero => intro i hi; exact ⟨fun _ j h1 h2 => by omega, fun _ => rfl⟩
  | succ d ih =>
    intro i hi
    unfold valAt
    by_cases h1 : okS (gt C i) = false
    · rw [if_pos h1]
      exact ⟨fun h => by omega, fun h => by have := (h i (Nat.le_refl _) (by omega)).1; rw [h1] at this; cases this⟩
    · rw [if_neg h1]
      by_cases h2 : Go.Lib.containsS (C.take i) (gt C i) = true
      · rw [if_pos h2]
        exact ⟨fun h => by omega, fun h => absurd (inS_iff.1 h2) (h i (Nat.le_refl _) (by omega)).2⟩
      · rw [if_neg h2, ih (i + 1) (by omega)]
        constructor
        · intro h j h3 h4
          by_cases e : j = i
          · subst e
            exact ⟨by simpa using h1, fun hm => h2 (inS_iff.2 hm)⟩
          · exact h j (by omega) h4
        · intro h j h3 h4; exact h j (by omega) h4
theorem nodup_take {C : List ByteArray} : C.Nodup ↔ ∀ j, j < C.length → gt C j ∉ C.take j := by
  constructor
  · intro h j hj hm
    obtain ⟨i, hi, e⟩ := List.mem_iff_getElem.1 hm
    rw [List.length_take] at hi
    rw [List.getElem_take] at e
    have hij : i < j := by omega
    have e2 : gt C j = C[j] := by unfold gt; rw [List.getD_eq_getElem?_getD, List.getElem?_eq_getElem hj]; rfl
    rw [e2] at e
    have := (List.getElem_inj h).1 e
    omega
  · intro h
    rw [List.nodup_iff_pairwise_ne, List.pairwise_iff_getElem]
    intro i j hi hj hij e
    refine h j hj ?_
    have e2 : gt C j = C[j] := by unfold gt; rw [List.getD_eq_getElem?_getD, List.getElem?_eq_getElem hj]; rfl
    rw [e2, ← e]
    exact List.mem_iff_getElem.2 ⟨i, by rw [List.length_take]; omega, by rw [List.getElem_take]⟩
theorem valP_zero {C : List ByteArray} : valP C = 0 ↔ Valid C := by
  unfold valP
  by_cases h : C.length < 1 ∨ 12 < C.length
  · rw [if_pos h]
    exact ⟨fun e => by omega, fun v => by have := v.pos; have := v.few; omega⟩
  · rw [if_neg h, valAt_zero C C.length 0 (by omega)]
    constructor
    · intro h2
      have hm : ∀ s ∈ C, okS s = true := fun s hs => by
        obtain ⟨i, hi, rfl⟩ := mem_getD (d := ByteArray.empty) hs
        exact (h2 i (Nat.zero_le _) hi).1
      exact ⟨by omega, by omega, fun s hs => (okS_iff.1 (hm s hs)).1, fun s hs => (okS_iff.1 (hm s hs)).2.1, fun s hs => (okS_iff.1 (hm s hs)).2.2, nodup_take.2 fun j hj => (h2 j (Nat.zero_le _) hj).2⟩
    · intro v j _ hj
      have hm := getD_mem (d := ByteArray.empty) hj
      exact ⟨okS_iff.2 ⟨v.size1 _ hm, v.size12 _ hm, v.notes _ hm⟩, nodup_take.1 v.nodup j hj⟩

/-! The bytes of a text. -/

def bs (s : ByteArray) : List UInt8 := s.data.toList
theorem bs_inj {a b : ByteArray} (h : bs a = bs b) : a = b := by
  rw [← str_eq, ByteArray.toList_eq, ByteArray.toList_eq]; exact h
theorem bs_mk (l : List UInt8) : bs ⟨l.toArray⟩ = l := by unfold bs; simp
theorem bs_len (s : ByteArray) : (bs s).length = s.size := Array.length_toList
theorem headB_iff {y x : ByteArray} : headB y x = true ↔ ∃ t, bs y = bs x ++ t := by
  unfold headB Lib.hasPrefix
  rw [List.isPrefixOf_iff_prefix]
  exact ⟨fun ⟨t, h⟩ => ⟨t, h.symm⟩, fun ⟨t, h⟩ => ⟨t, h.symm⟩⟩
theorem toList_bs (s : ByteArray) : s.toList = bs s := ByteArray.toList_eq s
theorem gt_mem {C : List ByteArray} {i : Nat} (h : i < C.length) : gt C i ∈ C := getD_mem h
theorem mem_gt {C : List ByteArray} {x : ByteArray} (h : x ∈ C) : ∃ i, i < C.length ∧ gt C i = x := mem_getD h
theorem bs_ext (s : ByteArray) (i j : Nat) : bs (s.extract i j) = ((bs s).take j).drop i := by
  unfold bs
  rw [ByteArray.data_extract, Array.toList_extract, List.extract_eq_take_drop, List.drop_take]

/-! What is left over: the program's and the reference's searches find just that. -/

/-- s is left over of y behind x. -/
def Cut (y x s : ByteArray) : Prop := bs y = bs x ++ bs s ∧ bs s ≠ []
theorem restB_of {y x : ByteArray} {t : List UInt8} (h : bs y = bs x ++ t) : bs (restB y x) = t := by
  have hh := headB_iff.2 ⟨t, h⟩
  unfold restB
  rw [bs_mk]
  unfold Lib.trimPrefix
  unfold headB at hh
  rw [hh, if_pos rfl]
  show (bs y).drop (bs x).length = t
  rw [h, List.drop_left]
theorem addB_iff {o : List ByteArray} {t : ByteArray} {b : Bool} : addB o t b = true ↔ b = true ∧ bs t ≠ [] ∧ t ∉ o := by
  unfold addB
  rw [Bool.and_eq_true, Bool.and_eq_true, toList_bs, Bool.not_eq_true', Bool.not_eq_true', List.isEmpty_eq_false_iff, Bool.eq_false_iff]
  constructor
  · rintro ⟨⟨h1, h2⟩, h3⟩; exact ⟨h1, h2, fun h => h3 (inS_iff.2 h)⟩
  · rintro ⟨h1, h2, h3⟩; exact ⟨⟨h1, h2⟩, fun h => h3 (inS_iff.1 h)⟩
theorem mem_addO {o : List ByteArray} {t s : ByteArray} {b : Bool} : s ∈ addO o t b ↔ s ∈ o ∨ (b = true ∧ bs t ≠ [] ∧ s = t) := by
  unfold addO
  by_cases h : addB o t b = true
  · rw [if_pos h, List.mem_append, List.mem_singleton]
    have h2 := addB_iff.1 h
    exact ⟨fun e => e.imp id (fun e => ⟨h2.1, h2.2.1, e⟩), fun e => e.imp id (fun e => e.2.2)⟩
  · rw [if_neg h]
    refine ⟨.inl, fun e => e.elim id ?_⟩
    rintro ⟨h1, h2, rfl⟩
    apply Classical.byContradiction
    intro hn
    exact h (addB_iff.2 ⟨h1, h2, hn⟩)
theorem addO_nodup {o : List ByteArray} {t : ByteArray} {b : Bool} (h : o.Nodup) : (addO o t b).Nodup := by
  unfold addO
  by_cases hb : addB o t b = true
  · rw [if_pos hb]
    have h2 := (addB_iff.1 hb).2.2
    refine List.nodup_append.2 ⟨h, by simp, fun a ha c hc e => ?_⟩
    rw [List.mem_singleton] at hc
    subst hc; subst e; exact h2 ha
  · rw [if_neg hb]; exact h
theorem mem_cutO {o : List ByteArray} {y x s : ByteArray} : s ∈ cutO o y x ↔ s ∈ o ∨ Cut y x s := by
  unfold cutO
  rw [mem_addO]
  constructor
  · rintro (h | ⟨h1, h2, rfl⟩)
    · exact .inl h
    · obtain ⟨t, ht⟩ := headB_iff.1 h1
      refine .inr ⟨?_, h2⟩
      rw [restB_of ht]; exact ht
  · rintro (h | ⟨h1, h2⟩)
    · exact .inl h
    · have := restB_of h1
      exact .inr ⟨headB_iff.2 ⟨_, h1⟩, by rw [this]; exact h2, bs_inj this.symm⟩
theorem cutO_nodup {o : List ByteArray} {y x : ByteArray} (h : o.Nodup) : (cutO o y x).Nodup := addO_nodup h
theorem mem_inA {C : List ByteArray} {x s : ByteArray} {o : List ByteArray} : ∀ {j}, s ∈ inA C x j o ↔ s ∈ o ∨ ∃ i, i < j ∧ Cut (gt C i) x s
  | 0 => ⟨.inl, fun h => h.elim id fun ⟨i, h, _⟩ => by omega⟩
  | j + 1 => by
    show s ∈ cutO (inA C x j o) (gt C j) x ↔ _
    rw [mem_cutO, mem_inA]
    constructor
    · rintro ((h | ⟨i, hi, h⟩) | h)
      · exact .inl h
      · exact .inr ⟨i, by omega, h⟩
      · exact .inr ⟨j, by omega, h⟩
    · rintro (h | ⟨i, hi, h⟩)
      · exact .inl (.inl h)
      · by_cases e : i = j
        · subst e; exact .inr h
        · exact .inl (.inr ⟨i, by omega, h⟩)
theorem inA_nodup {C : List ByteArray} {x : ByteArray} {o : List ByteArray} (h : o.Nodup) : ∀ j, (inA C x j o).Nodup
  | 0 => h
  | j + 1 => cutO_nodup (inA_nodup h j)
theorem mem_outA {C : List ByteArray} {s : ByteArray} : ∀ {k}, s ∈ outA C k ↔ ∃ i, i < k ∧ ∃ j, j < C.length ∧ Cut (gt C j) (gt C i) s
  | 0 => ⟨fun h => by simp [outA] at h, fun ⟨i, h, _⟩ => by omega⟩
  | k + 1 => by
    show s ∈ inA C (gt C k) C.length (outA C k) ↔ _
    rw [mem_inA, mem_outA]
    constructor
    · rintro (⟨i, hi, h⟩ | ⟨j, hj, h⟩)
      · exact ⟨i, by omega, h⟩
      · exact ⟨k, by omega, j, hj, h⟩
    · rintro ⟨i, hi, j, hj, h⟩
      by_cases e : i = k
      · subst e; exact .inr ⟨j, hj, h⟩
      · exact .inl ⟨i, by omega, j, hj, h⟩
theorem outA_nodup {C : List ByteArray} : ∀ k, (outA C k).Nodup
  | 0 => List.nodup_nil
  | k + 1 => inA_nodup (outA_nodup k) _
theorem mem_inB {C : List ByteArray} {e s : ByteArray} {o : List ByteArray} : ∀ {j}, s ∈ inB C e j o ↔ s ∈ o ∨ ∃ i, i < j ∧ (Cut e (gt C i) s ∨ Cut (gt C i) e s)
  | 0 => ⟨.inl, fun h => h.elim id fun ⟨i, h, _⟩ => by omega⟩
  | j + 1 => by
    show s ∈ cutO (cutO (inB C e j o) e (gt C j)) (gt C j) e ↔ _
    rw [mem_cutO, mem_cutO, mem_inB]
    constructor
    · rintro (((h | ⟨i, hi, h⟩) | h) | h)
      · exact .inl h
      · exact .inr ⟨i, by omega, h⟩
      · exact .inr ⟨j, by omega, .inl h⟩
      · exact .inr ⟨j, by omega, .inr h⟩
    · rintro (h | ⟨i, hi, h⟩)
      · exact .inl (.inl (.inl h))
      · by_cases e : i = j
        · subst e
          rcases h with h | h
          · exact .inl (.inr h)
          · exact .inr h
        · exact .inl (.inl (.inr ⟨i, by omega, h⟩))
theorem inB_nodup {C : List ByteArray} {e : ByteArray} {o : List ByteArray} (h : o.Nodup) : ∀ j, (inB C e j o).Nodup
  | 0 => h
  | j + 1 => cutO_nodup (cutO_nodup (inB_nodup h j))
/-! Words. -/
def wds (C : List ByteArray) : List (List UInt8) := C.map bs
theorem mem_wds {C : List ByteArray} {x : List UInt8} : x ∈ wds C ↔ ∃ s, s ∈ C ∧ bs s = x := List.mem_map
def LeftS (C : List ByteArray) (s : ByteArray) : Prop := Left (wds C) (bs s)
theorem LeftS.base {C : List ByteArray} {x y s : ByteArray} (hx : x ∈ C) (hy : y ∈ C) (h : Cut y x s) : LeftS C s := Left.base (mem_wds.2 ⟨x, hx, rfl⟩) (mem_wds.2 ⟨y, hy, rfl⟩) h.1 h.2
theorem LeftS.on {C : List ByteArray} {e x s : ByteArray} (he : LeftS C e) (hx : x ∈ C) (h : Cut e x s ∨ Cut x e s) : LeftS C s := by
  rcases h with h | h
  · exact Left.cut he (mem_wds.2 ⟨x, hx, rfl⟩) h.1 h.2
  · exact Left.rest he (mem_wds.2 ⟨x, hx, rfl⟩) h.1 h.2
/-- A list from which nothing more is left over has all. -/
theorem closed_has {C E : List ByteArray} (h1 : ∀ x ∈ C, ∀ y ∈ C, ∀ s, Cut y x s → s ∈ E) (h2 : ∀ e ∈ E, ∀ x ∈ C, ∀ s, (Cut e x s ∨ Cut x e s) → s ∈ E) {s : ByteArray} (h : LeftS C s) : s ∈ E := by
  have key : ∀ t, Left (wds C) t → (⟨t.toArray⟩ : ByteArray) ∈ E := by
    intro t ht
    induction ht with
    | base hx hy e hne =>
      obtain ⟨x, hx2, rfl⟩ := mem_wds.1 hx
      obtain ⟨y, hy2, rfl⟩ := mem_wds.1 hy
      exact h1 x hx2 y hy2 _ ⟨by rw [bs_mk]; exact e, by rw [bs_mk]; exact hne⟩
    | cut he hx e hne ih =>
      obtain ⟨x, hx2, rfl⟩ := mem_wds.1 hx
      exact h2 _ ih x hx2 _ (.inl ⟨by rw [bs_mk, bs_mk]; exact e, by rw [bs_mk]; exact hne⟩)
    | rest he hx e hne ih =>
      obtain ⟨x, hx2, rfl⟩ := mem_wds.1 hx
      exact h2 _ ih x hx2 _ (.inr ⟨by rw [bs_mk, bs_mk]; exact e, by rw [bs_mk]; exact hne⟩)
  have := key _ h
  rwa [show (⟨(bs s).toArray⟩ : ByteArray) = s from bs_inj (bs_mk _)] at this
/-- What can be left over is an end of a signal. -/
def tails (C : List ByteArray) : List ByteArray := C.flatMap fun s => (List.range (s.size + 1)).map fun i => ⟨((bs s).drop i).toArray⟩
theorem left_tail {C : List ByteArray} {s : ByteArray} (h : LeftS C s) : s ∈ tails C := by
  have key : ∀ t, Left (wds C) t → ∃ x ∈ C, ∃ a, bs x = a ++ t := by
    intro t ht
    induction ht with
    | base hx hy e _ =>
      obtain ⟨y, hy2, rfl⟩ := mem_wds.1 hy
      exact ⟨y, hy2, _, e⟩
    | cut he hx e _ ih =>
      obtain ⟨z, hz, a, ha⟩ := ih
      exact ⟨z, hz, _, by rw [ha, e, ← List.append_assoc]⟩
    | rest he hx e _ ih =>
      obtain ⟨x, hx2, rfl⟩ := mem_wds.1 hx
      exact ⟨x, hx2, _, e⟩
  obtain ⟨x, hx, a, ha⟩ := key _ h
  unfold tails
  rw [List.mem_flatMap]
  refine ⟨x, hx, ?_⟩
  rw [List.mem_map]
  refine ⟨a.length, List.mem_range.2 ?_, ?_⟩
  · have := congrArg List.length ha
    rw [List.length_append, bs_len] at this; omega
  · rw [ha, List.drop_left]
    exact bs_inj (bs_mk _)
theorem nodup_len {α : Type} {l : List α} : ∀ {m : List α}, l.Nodup → (∀ x ∈ l, x ∈ m) → l.length ≤ m.length := by
  induction l with
  | nil => intro m _ _; exact Nat.zero_le _
  | cons a l ih =>
    intro m h hm
    obtain ⟨p, q, e⟩ := List.append_of_mem (hm a (List.mem_cons_self ..))
    have h2 := List.nodup_cons.1 h
    have := ih (m := p ++ q) h2.2 (fun x hx => by
      have := hm x (List.mem_cons_of_mem _ hx)
      rw [e, List.mem_append, List.mem_cons] at this
      rw [List.mem_append]
      rcases this with h | h | h
      · exact .inl h
      · subst h; exact absurd hx h2.1
      · exact .inr h)
    rw [e, List.length_append, List.length_cons]
    rw [List.length_append] at this
    rw [List.length_cons]; omega
theorem tails_len (C : List ByteArray) (h : ∀ s ∈ C, s.size ≤ 12) : (tails C).length ≤ 13 * C.length := by
  unfold tails
  induction C with
  | nil => exact Nat.zero_le _
  | cons a C ih =>
    have h1 := h a (List.mem_cons_self ..)
    have h2 := ih (fun s hs => h s (List.mem_cons_of_mem _ hs))
    rw [List.flatMap_cons, List.length_append, List.length_map, List.length_range, List.length_cons]
    omega
/-- How a search stands. -/
structure Found (C : List ByteArray) (o : List ByteArray) (i : Nat) : Prop where
  nodup : o.Nodup
  left : ∀ s ∈ o, LeftS C s
  base : ∀ x ∈ C, ∀ y ∈ C, ∀ s, Cut y x s → s ∈ o
  done : ∀ j, j < i → ∀ x ∈ C, ∀ s, (Cut (gt o j) x s ∨ Cut x (gt o j) s) → s ∈ o
  le : i ≤ o.length
theorem Found.len {C o : List ByteArray} {i : Nat} (h : Found C o i) (v : Valid C) : o.length ≤ 156 := by
  have h1 := nodup_len h.nodup (fun s hs => left_tail (h.left s hs))
  have h2 := tails_len C v.size12
  have := v.few
  omega
theorem Found.all {C o : List ByteArray} (h : Found C o o.length) {s : ByteArray} : s ∈ o ↔ LeftS C s := by
  refine ⟨h.left s, fun hs => closed_has h.base (fun e he x hx s h2 => ?_) hs⟩
  obtain ⟨j, hj, rfl⟩ := mem_getD (d := ByteArray.empty) he
  exact h.done j hj x hx s h2
/-- One row of the search more. -/
theorem Found.next {C o o' : List ByteArray} {i : Nat} (h : Found C o i) (hi : i < o.length) (hn : o'.Nodup) (hm : ∀ s, s ∈ o' ↔ s ∈ o ∨ ∃ x, x ∈ C ∧ (Cut (gt o i) x s ∨ Cut x (gt o i) s)) (hg : ∀ j, j < o.length → gt o' j = gt o j) (hl : o.length ≤ o'.length) : Found C o' (i + 1) where
  nodup := hn
  left := fun s hs => by
    rcases (hm s).1 hs with h1 | ⟨x, hx, h1⟩
    · exact h.left s h1
    · exact (h.left _ (gt_mem hi)).on hx h1
  base := fun x hx y hy s hc => (hm s).2 (.inl (h.base x hx y hy s hc))
  done := fun j hj x hx s hc => by
    by_cases e : j = i
    · subst e
      rw [hg j hi] at hc
      exact (hm s).2 (.inr ⟨x, hx, hc⟩)
    · rw [hg j (by omega)] at hc
      exact (hm s).2 (.inl (h.done j (by omega) x hx s hc))
  le := by omega
theorem goB_found {C : List ByteArray} (v : Valid C) : ∀ (f : Nat) (o : List ByteArray) (i : Nat), Found C o i → 157 ≤ f + i → ∃ r, goB C f o i = some r ∧ Found C r r.length := by
  intro f
  induction f with
  | zero =>
    intro o i h hf
    have := h.len v
    have := h.le
    omega
  | succ f ih =>
    intro o i h hf
    have hl := h.len v
    unfold goB
    rw [if_pos (by omega)]
    by_cases hi : i < o.length
    · rw [if_pos hi]
      have hge := inB_ge C (gt o i) C.length o
      refine ih _ (i + 1) (h.next hi (inB_nodup h.nodup _) (fun s => ?_) (fun j hj => inB_get C (gt o i) j C.length o hj) hge) (by omega)
      show s ∈ inB C (gt o i) C.length o ↔ _
      rw [mem_inB]
      constructor
      · rintro (h1 | ⟨j, hj, h1⟩)
        · exact .inl h1
        · exact .inr ⟨gt C j, gt_mem hj, h1⟩
      · rintro (h1 | ⟨x, hx, h1⟩)
        · exact .inl h1
        · obtain ⟨j, hj, rfl⟩ := mem_gt hx
          exact .inr ⟨j, hj, h1⟩
    · rw [if_neg hi]
      have := h.le
      obtain rfl : i = o.length := by omega
      exact ⟨o, rfl, h⟩
theorem outA_found {C : List ByteArray} : Found C (outA C C.length) 0 where
  nodup := outA_nodup _
  left := fun s hs => by
    obtain ⟨i, hi, j, hj, h⟩ := mem_outA.1 hs
    exact LeftS.base (gt_mem hi) (gt_mem hj) h
  base := fun x hx y hy s h => by
    obtain ⟨i, hi, rfl⟩ := mem_gt hx
    obtain ⟨j, hj, rfl⟩ := mem_gt hy
    exact mem_outA.2 ⟨i, hi, j, hj, h⟩
  done := fun j hj => by omega
  le := Nat.zero_le _
/-- The program's ends. -/
theorem ends_ev {C : List ByteArray} (v : Valid C) : ∃ E, Ev (fun k => whistle_ends.f k C) (sortS E) ∧ E.Nodup ∧ (∀ s, s ∈ E ↔ LeftS C s) ∧ E.length ≤ 156 := by
  obtain ⟨E, h1, h2⟩ := goB_found v 157 _ 0 outA_found (by omega)
  refine ⟨E, Ev.of (k := 157) (fun k => whistle_ends.mono C k) ?_, h2.nodup, fun s => h2.all, h2.len v⟩
  unfold whistle_ends.f endsL
  rw [if_pos (by have := v.few; omega), h1]; rfl
/-- A code is safe if no signal can be left over. -/
def Safe (C : List ByteArray) : Prop := ¬ ∃ s, s ∈ C ∧ LeftS C s
noncomputable def safeB (C : List ByteArray) : Bool := @decide (Safe C) (Classical.propDecidable _)
theorem safeB_iff {C : List ByteArray} : safeB C = true ↔ Safe C := by unfold safeB; exact @decide_eq_true_iff _ (Classical.propDecidable _)
noncomputable def safeP (C : List ByteArray) : Bool × Int := if valP C = 0 then (safeB C, 0) else (false, valP C)
theorem safe_ev {C : List ByteArray} (hS : Sized C) : Ev (fun k => whistle_IsSafe.f k C) (safeP C) := by
  unfold whistle_IsSafe.f safeP
  refine Ev.bind (val_ev C hS) ?_
  by_cases h : valP C = 0
  · rw [if_pos (show valP C = 0 from h)]
    refine Ev.ifp h ?_
    obtain ⟨E, ⟨K, hK⟩, n1, m1, l1⟩ := ends_ev (valP_zero.1 h)
    refine ⟨K, fun k hk => ?_⟩
    have hE : endsL k C = some (sortS E) := hK k hk
    show (endsL k C).map _ = _
    rw [hE]
    show some (!(C.any (Go.Lib.containsS (sortS E))), (0 : Int)) = _
    congr 2
    rw [Bool.eq_iff_iff, safeB_iff, Bool.not_eq_true', Bool.eq_false_iff]
    unfold Safe
    refine not_congr ?_
    rw [List.any_eq_true]
    exact ⟨fun ⟨s, h1, h2⟩ => ⟨s, h1, (m1 s).1 (mem_sortS.1 (inS_iff.1 h2))⟩, fun ⟨s, h1, h2⟩ => ⟨s, h1, inS_iff.2 (mem_sortS.2 ((m1 s).2 h2))⟩⟩
  · rw [if_neg (show ¬ valP C = 0 from h)]
    exact Ev.ifn h (Ev.now _)
theorem wds_ne {C : List ByteArray} (v : Valid C) : ∀ x ∈ wds C, x ≠ [] := fun x hx e => by
  obtain ⟨s, hs, rfl⟩ := mem_wds.1 hx
  have h1 := v.size1 s hs
  have := bs_len s
  rw [e] at this
  simp at this; omega
theorem safe_iff {C : List ByteArray} (v : Valid C) : Safe C ↔ ¬ Amb (wds C) := by
  unfold Safe
  rw [amb_iff_left (wds_ne v)]
  refine not_congr ⟨fun ⟨s, h1, h2⟩ => ⟨bs s, mem_wds.2 ⟨s, h1, rfl⟩, h2⟩, fun ⟨x, h1, h2⟩ => ?_⟩
  obtain ⟨s, hs, rfl⟩ := mem_wds.1 h1
  exact ⟨s, hs, h2⟩

/-! Messages, and how they sound. -/

def inC (C : List ByteArray) (n : Int) : Bool := decide (0 ≤ n) && decide (n < (C.length : Int))
def msgP (C : List ByteArray) (m : List Int) : Int := if 400 < m.length then 3 else if m.all (inC C) = true then 0 else 4
theorem inC_iff {C : List ByteArray} {n : Int} : inC C n = true ↔ 0 ≤ n ∧ n < (C.length : Int) := by unfold inC; rw [Bool.and_eq_true, decide_eq_true_eq, decide_eq_true_eq]
theorem isMsg_at (C : List ByteArray) (m : List Int) (hm : m.length < bigC) (d : Nat) : ∀ i, i + d = m.length → Ev (fun k => whistle_isMessage.l0 k C m (m.length : Int) (i : Int)) (if (m.drop i).all (inC C) = true then 0 else 4) := by
  unfold bigC at hm
  induction d with
  | zero =>
    intro i hi
    rw [List.drop_eq_nil_of_le (by omega)]
    exact Ev.step (fun k => by rw [whistle_isMessage.l0]) (Ev.ifn (by omega) (Ev.val (by rfl)))
  | succ d ih =>
    intro i hi
    rw [drop_rd (show i < m.length by omega), List.all_cons]
    refine Ev.step (fun k => by rw [whistle_isMessage.l0]) (Ev.ifp (by omega) (Ev.ifp (by omega) (Ev.ifp (by omega) ?_)))
    by_cases h : inC C (rd m (i : Int)) = true
    · obtain ⟨h0, h1⟩ := inC_iff.1 h
      rw [h, Bool.true_and]
      refine Ev.ifn (by omega) (Ev.ifn (by omega) ?_)
      rw [w64s (by omega)]
      exact ih (i + 1) (by omega)
    · have h' : ¬ (0 ≤ rd m (i : Int) ∧ rd m (i : Int) < (C.length : Int)) := fun e => h (inC_iff.2 e)
      rw [Bool.eq_false_iff.2 h, Bool.false_and, if_neg (by decide)]
      by_cases h0 : rd m (i : Int) < 0
      · exact Ev.ifp h0 (Ev.now _)
      · exact Ev.ifn h0 (Ev.ifp (by omega) (Ev.now _))
theorem isMsg_ev (C : List ByteArray) (m : List Int) (hm : m.length < bigC) : Ev (fun k => whistle_isMessage.f k C m) (msgP C m) := by
  unfold whistle_isMessage.f msgP
  by_cases h : 400 < m.length
  · rw [if_pos h]; exact Ev.ifp (by omega) (Ev.now _)
  · rw [if_neg h]
    refine Ev.ifn (by omega) ?_
    have h0 : Ev (fun k => whistle_isMessage.l0 k C m (m.length : Int) 0) (if (m.drop 0).all (inC C) = true then 0 else 4) := isMsg_at C m hm m.length 0 (by omega)
    rwa [List.drop_zero] at h0
def msg2P (C : List ByteArray) (a b : List Int) : Int := if 400 < a.length then 3 else if 400 < b.length then 3 else if a.all (inC C) = true then (if b.all (inC C) = true then 0 else 4) else 4
theorem msgP_zero {C : List ByteArray} {m : List Int} (h : msgP C m = 0) : m.length ≤ 400 ∧ m.all (inC C) = true := by
  unfold msgP at h
  split at h
  · omega
  · split at h
    · rename_i h1 h2; exact ⟨by omega, h2⟩
    · omega
theorem Valid.rdS {C : List ByteArray} (v : Valid C) (n : Int) : (rdS C n).size ≤ 12 := by
  unfold Q.rdS
  by_cases hn : n.toNat < C.length
  · exact v.size12 _ (getD_mem hn)
  · rw [List.getD_eq_getElem?_getD, List.getElem?_eq_none (by omega)]
    decide
theorem okM_of {C : List ByteArray} {m : List Int} (v : Valid C) (h : msgP C m = 0) : okM C m = true := by
  obtain ⟨h1, h2⟩ := msgP_zero h
  unfold okM
  rw [decide_eq_true h1, Bool.true_and, Bool.and_eq_true]
  refine ⟨h2, ?_⟩
  rw [List.all_eq_true]
  intro s hs
  exact decide_eq_true (v.size12 s hs)
/-- Sound, both. -/
def sndP (C : List ByteArray) (m : List Int) : ByteArray × Int := if valP C ≠ 0 then (⟨#[]⟩, valP C) else if msgP C m ≠ 0 then (⟨#[]⟩, msgP C m) else (soundB C m, 0)
theorem sound_ev (C : List ByteArray) (m : List Int) (hS : Sized C) (hm : m.length < bigC) : Ev (fun k => whistle_Sound.f k C m) (sndP C m) := by
  unfold whistle_Sound.f sndP
  refine Ev.bind (val_ev C hS) ?_
  by_cases h : valP C = 0
  · rw [if_neg (show ¬ (valP C ≠ 0) by simpa using h)]
    refine Ev.ifp h (Ev.bind (isMsg_ev C m hm) ?_)
    by_cases h2 : msgP C m = 0
    · rw [if_neg (show ¬ (msgP C m ≠ 0) by simpa using h2)]
      refine Ev.ifp h2 (Ev.bindc ?_ (Ev.now _))
      unfold whistle_sound.f
      rw [if_pos (okM_of (valP_zero.1 h) h2)]
    · rw [if_pos (show msgP C m ≠ 0 from h2)]; exact Ev.ifn h2 (Ev.now _)
  · rw [if_pos (show valP C ≠ 0 from h)]; exact Ev.ifn h (Ev.now _)
def mws (C : List ByteArray) (m : List Int) : List (List UInt8) := m.map fun n => bs (rdS C n)
theorem sndK_take (C : List ByteArray) (m : List Int) : ∀ k, k ≤ m.length → sndK C m k = (mws C (m.take k)).flatten
  | 0, _ => by simp [sndK, mws]
  | k + 1, h => by
    show sndK C m k ++ _ = _
    rw [sndK_take C m k (by omega)]
    have e : m.take (k + 1) = m.take k ++ [rd m (k : Int)] := by
      rw [List.take_succ_eq_append_getElem (by omega), rd_nat, List.getD_eq_getElem?_getD, List.getElem?_eq_getElem (by omega)]; rfl
    unfold mws
    rw [e, List.map_append, List.flatten_append]
    simp [bs]
theorem sound_words (C : List ByteArray) (m : List Int) : bs (soundB C m) = (mws C m).flatten := by
  unfold soundB
  rw [bs_mk, sndK_take C m m.length (Nat.le_refl _), List.take_length]
theorem rdS_in {C : List ByteArray} {n : Int} (h0 : 0 ≤ n) (h1 : n < (C.length : Int)) : ∃ h : n.toNat < C.length, rdS C n = C[n.toNat] := by
  have h : n.toNat < C.length := by omega
  refine ⟨h, ?_⟩
  unfold Q.rdS
  rw [List.getD_eq_getElem?_getD, List.getElem?_eq_getElem h]; rfl

/-! Messages as words: two messages that are not the same are not the same words. -/

theorem msg_words {C : List ByteArray} {m : List Int} (h : m.all (inC C) = true) : Msg (wds C) (mws C m) := fun x hx => by
  obtain ⟨n, hn, rfl⟩ := List.mem_map.1 hx
  obtain ⟨h0, h1⟩ := inC_iff.1 (List.all_eq_true.1 h n hn)
  obtain ⟨hl, e⟩ := rdS_in h0 h1
  exact mem_wds.2 ⟨_, by rw [e]; exact List.getElem_mem hl, rfl⟩
theorem mws_inj {C : List ByteArray} (hn : C.Nodup) : ∀ {a b : List Int}, a.all (inC C) = true → b.all (inC C) = true → mws C a = mws C b → a = b
  | [], [], _, _, _ => rfl
  | [], y :: b, _, _, h => by simp [mws] at h
  | x :: a, [], _, _, h => by simp [mws] at h
  | x :: a, y :: b, ha, hb, h => by
    rw [List.all_cons, Bool.and_eq_true] at ha hb
    unfold mws at h
    rw [List.map_cons, List.map_cons] at h
    obtain ⟨h1, h2⟩ := List.cons.inj h
    have ih := mws_inj hn ha.2 hb.2 h2
    obtain ⟨x0, x1⟩ := inC_iff.1 ha.1
    obtain ⟨y0, y1⟩ := inC_iff.1 hb.1
    obtain ⟨lx, ex⟩ := rdS_in x0 x1
    obtain ⟨ly, ey⟩ := rdS_in y0 y1
    have h3 := bs_inj h1
    rw [ex, ey] at h3
    have := (List.getElem_inj hn).1 h3
    rw [ih, show x = y by omega]
def chkP (C : List ByteArray) (a b : List Int) : Int := if valP C ≠ 0 then valP C else if msg2P C a b ≠ 0 then msg2P C a b else if a = b then 7 else if soundB C a = soundB C b then 0 else 7
theorem msg2_cases (C : List ByteArray) (a b : List Int) : (400 < a.length ∧ msg2P C a b = 3) ∨ (a.length ≤ 400 ∧ 400 < b.length ∧ msg2P C a b = 3) ∨ (a.length ≤ 400 ∧ b.length ≤ 400 ∧ ((msgP C a ≠ 0 ∧ msg2P C a b = msgP C a) ∨ (msgP C a = 0 ∧ msg2P C a b = msgP C b))) := by
  unfold msg2P msgP
  by_cases h1 : 400 < a.length
  · exact .inl ⟨h1, by rw [if_pos h1]⟩
  · by_cases h2 : 400 < b.length
    · exact .inr (.inl ⟨by omega, h2, by rw [if_neg h1, if_pos h2]⟩)
    · refine .inr (.inr ⟨by omega, by omega, ?_⟩)
      rw [if_neg h1, if_neg h2, if_neg h1, if_neg h2]
      by_cases h3 : a.all (inC C) = true
      · rw [if_pos h3, if_pos h3]; exact .inr ⟨rfl, rfl⟩
      · rw [if_neg h3, if_neg h3]; exact .inl ⟨by decide, rfl⟩
theorem alike_unsafe {C : List ByteArray} {a b : List Int} (h : chkP C a b = 0) : safeP C = (false, 0) := by
  unfold chkP at h
  by_cases hv : valP C = 0
  · rw [if_neg (show ¬ (valP C ≠ 0) by simpa using hv)] at h
    have v := valP_zero.1 hv
    by_cases hm : msg2P C a b = 0
    · rw [if_neg (show ¬ (msg2P C a b ≠ 0) by simpa using hm)] at h
      have hz : msgP C a = 0 ∧ msgP C b = 0 := by
        rcases msg2_cases C a b with ⟨h1, h2⟩ | ⟨h1, h2, h3⟩ | ⟨h1, h2, ⟨h4, h5⟩ | ⟨h4, h5⟩⟩
        · omega
        · omega
        · rw [h5] at hm; exact absurd hm h4
        · rw [h5] at hm; exact ⟨h4, hm⟩
      obtain ⟨a1, a2⟩ := msgP_zero hz.1
      obtain ⟨b1, b2⟩ := msgP_zero hz.2
      by_cases h7 : a = b
      · rw [if_pos h7] at h; omega
      · rw [if_neg h7] at h
        by_cases h8 : soundB C a = soundB C b
        · unfold safeP
          rw [if_pos hv]
          congr 1
          rw [Bool.eq_false_iff]
          intro hs
          refine (safe_iff v).1 (safeB_iff.1 hs) ⟨_, _, msg_words a2, msg_words b2, fun e => h7 (mws_inj v.nodup a2 b2 e), ?_⟩
          rw [← sound_words, ← sound_words, h8]
        · rw [if_neg h8] at h; omega
    · rw [if_pos (show msg2P C a b ≠ 0 from hm)] at h; exact absurd h hm
  · rw [if_pos (show valP C ≠ 0 from hv)] at h; exact absurd h hv

/-! The sum of lengths, in lowest terms, by both. -/

/-- n / 2^e in lowest terms. -/
def red : Nat → Nat → Nat × Nat
  | n, 0 => (n, 1)
  | n, e + 1 => if n % 2 = 0 then red (n / 2) e else (n, 2 ^ (e + 1))
def redI (n e : Nat) : Int × Int := (((red n e).1 : Nat), ((red n e).2 : Nat))
theorem red_le (n : Nat) : ∀ e, ((red n e).1 ≤ (red n e).2 ↔ n ≤ 2 ^ e) := by
  intro e
  induction e generalizing n with
  | zero => exact Iff.rfl
  | succ e ih =>
    unfold red
    split
    · rw [ih, Nat.pow_succ]; omega
    · exact Iff.rfl
theorem half_pow (e : Nat) : Int.tdiv ((2 ^ (e + 1) : Nat) : Int) 2 = ((2 ^ e : Nat) : Int) := by
  rw [Nat.pow_succ]
  generalize 2 ^ e = p
  rw [Int.tdiv_eq_ediv_of_nonneg (by omega)]; omega
theorem half_nat (n : Nat) : Int.tdiv (n : Int) 2 = ((n / 2 : Nat) : Int) := by
  rw [Int.tdiv_eq_ediv_of_nonneg (by omega)]; omega
theorem tmod_nat (n : Nat) : Int.tmod (n : Int) 2 = ((n % 2 : Nat) : Int) := by
  rw [Int.tmod_eq_emod_of_nonneg (by omega)]; omega
theorem pow_le12 {e : Nat} (h : e ≤ 12) : 2 ^ e ≤ 4096 := Nat.le_trans (Nat.pow_le_pow_right (by decide) h) (by decide)
theorem red_ev (e : Nat) : ∀ (n : Nat), e ≤ 12 → n < 1000000 → Ev (fun k => whistle_filled.l1 k (n : Int) ((2 ^ e : Nat) : Int)) (redI n e) := by
  induction e with
  | zero =>
    intro n he hn
    refine Ev.step (fun k => by rw [whistle_filled.l1]) ?_
    by_cases h : n % 2 = 0
    · exact Ev.ifp (by rw [tmod_nat]; omega) (Ev.ifn (by decide) (Ev.now _))
    · exact Ev.ifn (by rw [tmod_nat]; omega) (Ev.now _)
  | succ e ih =>
    intro n he hn
    have hp := pow_le12 (show e ≤ 12 by omega)
    have hw1 : wrap64 (Int.tdiv (n : Int) 2) = ((n / 2 : Nat) : Int) := by rw [half_nat, w64 (by omega) (by omega)]
    have hw2 : wrap64 (Int.tdiv ((2 ^ (e + 1) : Nat) : Int) 2) = ((2 ^ e : Nat) : Int) := by rw [half_pow]; generalize 2 ^ e = p at *; exact w64 (by omega) (by omega)
    refine Ev.step (fun k => by rw [whistle_filled.l1, hw1, hw2]) ?_
    by_cases h : n % 2 = 0
    · refine Ev.ifp (by rw [tmod_nat]; omega) (Ev.ifp (by rw [tmod_nat, Nat.pow_succ, Nat.mul_mod_left]; rfl) ?_)
      have := ih (n / 2) (by omega) (by omega)
      rwa [show redI n (e + 1) = redI (n / 2) e by unfold redI; conv => lhs; unfold red; rw [if_pos h]]
    · refine Ev.ifn (by rw [tmod_nat]; omega) (Ev.val ?_)
      unfold redI red
      rw [if_neg h]
/-- The sum of 2^12 / 2^length. -/
def fillN (l : List Int) : Nat := (l.map fun x => 2 ^ (12 - x.toNat)).sum
def LenOk (l : List Int) : Prop := l.length ≤ 12 ∧ ∀ x ∈ l, 1 ≤ x ∧ x ≤ 12
theorem fillN_cons (x : Int) (l : List Int) : fillN (x :: l) = 2 ^ (12 - x.toNat) + fillN l := by unfold fillN; rw [List.map_cons, List.sum_cons]
theorem fillN_le {l : List Int} (h : ∀ x ∈ l, 1 ≤ x ∧ x ≤ 12) : fillN l ≤ 4096 * l.length := by
  induction l with
  | nil => exact Nat.le_refl _
  | cons x l ih =>
    have := ih (fun y hy => h y (List.mem_cons_of_mem _ hy))
    have := pow_le12 (show 12 - x.toNat ≤ 12 by omega)
    rw [fillN_cons, List.length_cons]; omega
theorem pow_split {a : Nat} (h : a ≤ 12) : 4096 / 2 ^ a = 2 ^ (12 - a) := by
  have : 4096 = 2 ^ (12 - a) * 2 ^ a := by rw [← Nat.pow_add, show 12 - a + a = 12 by omega]
  rw [this, Nat.mul_div_cancel _ (Nat.pow_pos (by decide))]
theorem shr_4096 {x : Int} (h1 : 1 ≤ x) (h2 : x ≤ 12) : shr .i64 4096 x = ((2 ^ (12 - x.toNat) : Nat) : Int) := by
  unfold shr
  rw [show min x.toNat IntKind.i64.bits = x.toNat from Nat.min_eq_left (by show x.toNat ≤ 64; omega), ← pow_split (show x.toNat ≤ 12 by omega), Int.natCast_ediv, Int.natCast_pow]
  rfl
theorem filled_at {l : List Int} (hl : LenOk l) (d : Nat) : ∀ (i s : Nat), i + d = l.length → s + fillN (l.drop i) ≤ 49152 → Ev (fun k => whistle_filled.l0 k (s : Int) 4096 l (l.length : Int) (i : Int)) (redI (s + fillN (l.drop i)) 12) := by
  have hlen := hl.1
  induction d with
  | zero =>
    intro i s hi hs
    rw [List.drop_eq_nil_of_le (by omega), show fillN [] = 0 from rfl, Nat.add_zero] at hs ⊢
    have h12 : Ev (fun k => whistle_filled.l1 k (s : Int) 4096) (redI s 12) := red_ev 12 s (by decide) (by omega)
    exact Ev.step (fun k => by rw [whistle_filled.l0]) (Ev.ifn (by omega) h12)
  | succ d ih =>
    intro i s hi hs
    rw [drop_rd (show i < l.length by omega), fillN_cons] at hs ⊢
    obtain ⟨h1, h2⟩ := hl.2 (rd l (i : Int)) (by rw [rd_nat]; exact getD_mem (by omega))
    have hp := pow_le12 (show 12 - (rd l (i : Int)).toNat ≤ 12 by omega)
    have hsh := shr_4096 h1 h2
    generalize 2 ^ (12 - (rd l (i : Int)).toNat) = p at *
    refine Ev.step (fun k => by rw [whistle_filled.l0, hsh]) (Ev.ifp (by omega) (Ev.ifp (by omega) (Ev.ifp (by omega) (Ev.ifp (by omega) ?_))))
    rw [w64s (by omega), w64 (by omega) (by omega), ← Int.natCast_add, ← Nat.add_assoc]
    exact ih (i + 1) _ (by omega) (by omega)
theorem filled_ev {l : List Int} (hl : LenOk l) : Ev (fun k => whistle_filled.f k l) (redI (fillN l) 12) := by
  have h1 := fillN_le hl.2
  have hlen := hl.1
  have h0 : Ev (fun k => whistle_filled.l0 k 0 4096 l (l.length : Int) 0) (redI (0 + fillN (l.drop 0)) 12) := filled_at hl l.length 0 0 (by omega) (by rw [List.drop_zero]; omega)
  rwa [List.drop_zero, Nat.zero_add] at h0
/-- The lengths of a code. -/
def lensC (C : List ByteArray) : List Int := C.map fun s => (s.size : Int)
theorem lensC_ok {C : List ByteArray} (v : Valid C) : LenOk (lensC C) := by
  refine ⟨by unfold lensC; rw [List.length_map]; exact v.few, fun x hx => ?_⟩
  obtain ⟨s, hs, rfl⟩ := List.mem_map.1 hx
  have := v.size1 s hs
  have := v.size12 s hs
  omega
theorem lensC_snoc (C : List ByteArray) (i : Nat) (hi : i < C.length) : lensC (C.take i) ++ [((gt C i).size : Int)] = lensC (C.take (i + 1)) := by
  unfold lensC
  rw [List.take_succ_eq_append_getElem hi, List.map_append]
  congr 1
  unfold gt
  rw [List.getD_eq_getElem?_getD, List.getElem?_eq_getElem hi]; rfl
theorem lensC_len (C : List ByteArray) (i : Nat) (h : i ≤ C.length) : (lensC (C.take i)).length = i := by unfold lensC; rw [List.length_map, List.length_take]; omega
theorem lengths_at {C : List ByteArray} (hC : C.length < 1000000) (d : Nat) : ∀ i, i + d = C.length → Ev (fun k => whistle_lengths.l0 k (lensC (C.take i)) C (C.length : Int) (i : Int)) (lensC C) := by
  induction d with
  | zero =>
    intro i hi
    refine Ev.step (fun k => by rw [whistle_lengths.l0]) (Ev.ifn (by omega) (Ev.val ?_))
    rw [List.take_of_length_le (by omega)]
  | succ d ih =>
    intro i hi
    refine Ev.step (fun k => by rw [whistle_lengths.l0, rdOf_gt]) (Ev.ifp (by omega) (Ev.ifp (by omega) (Ev.ifp (by omega) (Ev.ifp (by rw [lensC_len C i (by omega)]; omega) ?_))))
    rw [lensC_snoc C i (by omega), w64s (by omega)]
    exact ih (i + 1) (by omega)
theorem lengths_ev {C : List ByteArray} (hC : C.length < 1000000) : Ev (fun k => whistle_lengths.f k C) (lensC C) := lengths_at hC C.length 0 (by omega)
/-- Kraft, both. -/
def kraftP (C : List ByteArray) : Int × Int × Int := if valP C = 0 then ((redI (fillN (lensC C)) 12).1, (redI (fillN (lensC C)) 12).2, 0) else (0, 0, valP C)
theorem kraft_ev {C : List ByteArray} (hS : Sized C) : Ev (fun k => whistle_Kraft.f k C) (kraftP C) := by
  unfold whistle_Kraft.f kraftP
  refine Ev.bind (val_ev C hS) ?_
  by_cases h : valP C = 0
  · rw [if_pos (show valP C = 0 from h)]
    have v := valP_zero.1 h
    have := v.few
    exact Ev.ifp h (Ev.bind (lengths_ev (by omega)) (Ev.bind (filled_ev (lensC_ok v)) (Ev.now _)))
  · rw [if_neg (show ¬ valP C = 0 from h)]; exact Ev.ifn h (Ev.now _)
/-! No signal begins with another one, by both. -/
def preI (C : List ByteArray) (i j d : Nat) : Bool := (List.range' j d).all fun t => i == t || !headB (gt C i) (gt C t)
def preO (C : List ByteArray) (i d : Nat) : Bool := (List.range' i d).all fun t => preI C t 0 C.length
def preB (C : List ByteArray) : Bool := preO C 0 C.length
theorem preB_iff {C : List ByteArray} : preB C = true ↔ ∀ i j, i < C.length → j < C.length → i ≠ j → headB (gt C i) (gt C j) = false := by
  unfold preB preO preI
  rw [List.all_eq_true]
  constructor
  · intro h i j hi hj hij
    have h1 := h i (by rw [List.mem_range'_1]; omega)
    rw [List.all_eq_true] at h1
    have h2 := h1 j (by rw [List.mem_range'_1]; omega)
    rw [show (i == j) = false from beq_eq_false_iff_ne.2 hij, Bool.false_or, Bool.not_eq_true'] at h2
    exact h2
  · intro h i hi
    rw [List.all_eq_true]
    intro j hj
    rw [List.mem_range'_1] at hi hj
    by_cases e : i = j
    · rw [show (i == j) = true from beq_iff_eq.2 e, Bool.true_or]
    · rw [h i j (by omega) (by omega) e]; simp
def noteOf (b : UInt8) : Bool := b == 45
def byteOf (b : Bool) : UInt8 := if b then 45 else 46
theorem byte_note {b : UInt8} (h : noteB b = true) : byteOf (noteOf b) = b := by
  rcases noteB_iff.1 h with rfl | rfl <;> rfl
theorem byteOf_inj {a b : Bool} (h : byteOf a = byteOf b) : a = b := by
  cases a <;> cases b <;> first | rfl | (exfalso; revert h; decide)
def wdsB (C : List ByteArray) : List (List Bool) := (wds C).map (List.map noteOf)
theorem wds_back {C : List ByteArray} (v : Valid C) {x : List UInt8} (hx : x ∈ wds C) : (x.map noteOf).map byteOf = x := by
  obtain ⟨s, hs, rfl⟩ := mem_wds.1 hx
  have h := v.notes s hs
  rw [notesP_list, List.all_eq_true] at h
  rw [List.map_map]
  conv => rhs; rw [← List.map_id (bs s)]
  exact List.map_congr_left fun b hb => byte_note (h b hb)
theorem map_byteOf_inj : ∀ {a b : List Bool}, a.map byteOf = b.map byteOf → a = b
  | [], [], _ => rfl
  | [], _ :: _, h => by simp at h
  | _ :: _, [], h => by simp at h
  | x :: a, y :: b, h => by
    rw [List.map_cons, List.map_cons] at h
    obtain ⟨h1, h2⟩ := List.cons.inj h
    rw [byteOf_inj h1, map_byteOf_inj h2]
theorem map2_byteOf_inj : ∀ {a b : List (List Bool)}, a.map (List.map byteOf) = b.map (List.map byteOf) → a = b
  | [], [], _ => rfl
  | [], _ :: _, h => by simp at h
  | _ :: _, [], h => by simp at h
  | x :: a, y :: b, h => by
    rw [List.map_cons, List.map_cons] at h
    obtain ⟨h1, h2⟩ := List.cons.inj h
    rw [map_byteOf_inj h1, map2_byteOf_inj h2]
theorem flat_map_map (f : Bool → UInt8) (a : List (List Bool)) : (a.map (List.map f)).flatten = a.flatten.map f := by
  induction a with
  | nil => rfl
  | cons x a ih => rw [List.map_cons, List.flatten_cons, List.flatten_cons, List.map_append, ih]
theorem amb_bool {C : List ByteArray} (v : Valid C) (h : Amb (wdsB C)) : Amb (wds C) := by
  obtain ⟨a, b, ha, hb, hab, hs⟩ := h
  have hm : ∀ {m : List (List Bool)}, Msg (wdsB C) m → Msg (wds C) (m.map (List.map byteOf)) := fun {m} hm x hx => by
    obtain ⟨y, hy, rfl⟩ := List.mem_map.1 hx
    obtain ⟨z, hz, rfl⟩ := List.mem_map.1 (hm y hy)
    rw [wds_back v hz]; exact hz
  exact ⟨_, _, hm ha, hm hb, fun e => hab (map2_byteOf_inj e), by rw [flat_map_map, flat_map_map, hs]⟩
theorem wds_nodup {C : List ByteArray} (h : C.Nodup) : (wds C).Nodup := by
  unfold wds
  rw [List.nodup_iff_pairwise_ne] at h ⊢
  exact List.pairwise_map.2 (h.imp fun hne e => hne (bs_inj e))
theorem wdsB_nodup {C : List ByteArray} (v : Valid C) : (wdsB C).Nodup := by
  have h := wds_nodup v.nodup
  unfold wdsB
  rw [List.nodup_iff_pairwise_ne] at h ⊢
  refine List.pairwise_map.2 (h.imp_of_mem fun {a b} ha hb hne e => hne ?_)
  rw [← wds_back v ha, ← wds_back v hb, e]
theorem shares_fill (C : List ByteArray) : shares 12 (wdsB C) = fillN (lensC C) := by
  unfold shares fillN wdsB wds lensC
  rw [List.map_map, List.map_map, List.map_map]
  congr 1
  apply List.map_congr_left
  intro s _
  show 2 ^ (12 - ((bs s).map noteOf).length) = 2 ^ (12 - ((s.size : Nat) : Int).toNat)
  rw [List.length_map, bs_len, Int.toNat_natCast]
theorem safe_kraft {C : List ByteArray} (v : Valid C) (h : Safe C) : fillN (lensC C) ≤ 2 ^ 12 := by
  rw [← shares_fill]
  refine mcmillan (wdsB_nodup v) (fun e => (safe_iff v).1 h (amb_bool v e)) (fun x hx => ?_)
  obtain ⟨y, hy, rfl⟩ := List.mem_map.1 hx
  obtain ⟨s, hs, rfl⟩ := mem_wds.1 hy
  rw [List.length_map, bs_len]
  exact v.size12 s hs

/-! A code with its signals turned round, by both; it is safe exactly if the code is. -/

theorem bs_rev (s : ByteArray) : bs (revB s) = (bs s).reverse := by unfold revB bs; simp
theorem rev_rev (s : ByteArray) : revB (revB s) = s := bs_inj (by rw [bs_rev, bs_rev, List.reverse_reverse])
theorem rev_size (s : ByteArray) : (revB s).size = s.size := by rw [← bs_len, ← bs_len, bs_rev, List.length_reverse]
theorem backA_take (C : List ByteArray) : ∀ i, i ≤ C.length → backA C i = (C.take i).map revB
  | 0, _ => by rw [List.take_zero]; rfl
  | i + 1, h => by
    rw [List.take_add_one, List.map_append]
    show backA C i ++ [revB (C.getD i ByteArray.empty)] = _
    rw [backA_take C i (by omega), List.getD_eq_getElem?_getD, List.getElem?_eq_getElem (show i < C.length by omega)]
    rfl
def backP (C : List ByteArray) : List ByteArray := C.map revB
theorem backA_all (C : List ByteArray) : backA C C.length = backP C := by rw [backA_take C _ (Nat.le_refl _), List.take_length]; rfl
theorem backP_valid {C : List ByteArray} (v : Valid C) : Valid (backP C) where
  pos := by unfold backP; rw [List.length_map]; exact v.pos
  few := by unfold backP; rw [List.length_map]; exact v.few
  size1 := fun s hs => by obtain ⟨x, hx, rfl⟩ := List.mem_map.1 hs; rw [rev_size]; exact v.size1 x hx
  size12 := fun s hs => by obtain ⟨x, hx, rfl⟩ := List.mem_map.1 hs; rw [rev_size]; exact v.size12 x hx
  notes := fun s hs => by
    obtain ⟨x, hx, rfl⟩ := List.mem_map.1 hs
    have := v.notes x hx
    rw [notesP_list] at this ⊢
    have e : (revB x).data.toList = x.data.toList.reverse := bs_rev x
    rw [e, List.all_reverse]; exact this
  nodup := by
    refine List.nodup_iff_pairwise_ne.2 ((List.pairwise_map).2 ((List.nodup_iff_pairwise_ne.1 v.nodup).imp fun {a b} h e => h ?_))
    rw [← rev_rev a, ← rev_rev b, e]
theorem backP_sized {C : List ByteArray} (h : Sized C) : Sized (backP C) := fun s hs => by
  obtain ⟨x, hx, rfl⟩ := List.mem_map.1 hs; rw [rev_size]; exact h x hx
theorem wds_backP (C : List ByteArray) : wds (backP C) = (wds C).map List.reverse := by
  unfold wds backP
  rw [List.map_map, List.map_map]
  exact List.map_congr_left fun s _ => bs_rev s
theorem back_safe {C : List ByteArray} (v : Valid C) : safeB (backP C) = safeB C := by
  rw [Bool.eq_iff_iff, safeB_iff, safeB_iff, safe_iff v, safe_iff (backP_valid v), wds_backP]
  exact not_congr amb_back
theorem backOK_of {C : List ByteArray} (v : Valid C) : backOK C = true := by
  unfold backOK
  rw [Bool.and_eq_true, List.all_eq_true]
  have := v.few
  exact ⟨decide_eq_true (by omega), fun s hs => decide_eq_true (by have := v.size12 s hs; omega)⟩
def backR (C : List ByteArray) : List ByteArray × Int := if valP C = 0 then (backP C, 0) else ([], valP C)
theorem back_ev {C : List ByteArray} (hS : Sized C) : Ev (fun k => whistle_Back.f k C) (backR C) := by
  unfold whistle_Back.f backR
  refine Ev.bind (val_ev C hS) ?_
  by_cases hv : valP C = 0
  · rw [if_pos hv]
    exact Ev.ifn (by simpa using hv) (Ev.ifp (backOK_of (valP_zero.1 hv)) (Ev.val (by rw [backA_all])))
  · rw [if_neg hv]
    exact Ev.ifp hv (Ev.val rfl)

/-! Insertion sort of places is stable; the order of lengths, by both. -/

theorem inner_same {lt lt' : Nat → Nat → Bool} (h : ∀ x y, y < x → lt x y = lt' x y) : ∀ (k : Nat) (d : Array Nat), k < d.size → (∀ j, j < k → d[j]! < d[k]!) → Go.Sort.insInner lt 0 k d = Go.Sort.insInner lt' 0 k d
  | 0, d, _, _ => rfl
  | k + 1, d, hk, hd => by
    unfold Go.Sort.insInner
    rw [h _ _ (hd k (by omega))]
    split
    · refine inner_same h k _ (by rw [Go.Sort.swp_size]; omega) fun j hj => ?_
      rw [Go.Sort.swp_get d hk (show k < d.size by omega), Go.Sort.swp_get d hk (show k < d.size by omega), if_neg (by omega), if_neg (by omega), if_pos rfl]
      exact hd j (by omega)
    · rfl
theorem inner_keeps {lt : Nat → Nat → Bool} : ∀ (k : Nat) (d : Array Nat), k < d.size → ∀ B, (∀ j, j ≤ k → d[j]! < B) → (Go.Sort.insInner lt 0 k d).size = d.size ∧ (∀ j, j ≤ k → (Go.Sort.insInner lt 0 k d)[j]! < B) ∧ ∀ j, k < j → (Go.Sort.insInner lt 0 k d)[j]! = d[j]!
  | 0, d, _, _, hB => ⟨rfl, hB, fun _ _ => rfl⟩
  | k + 1, d, hk, B, hB => by
    unfold Go.Sort.insInner
    split
    · have g := Go.Sort.swp_get d hk (show k < d.size by omega)
      obtain ⟨h1, h2, h3⟩ := inner_keeps (lt := lt) k (Go.Sort.swp d (k + 1) k) (by rw [Go.Sort.swp_size]; omega) B fun j hj => by
        rw [g]
        by_cases e : j = k
        · rw [if_pos e]; exact hB _ (Nat.le_refl _)
        · rw [if_neg e, if_neg (by omega)]; exact hB j (by omega)
      refine ⟨by rw [h1, Go.Sort.swp_size], fun j hj => ?_, fun j hj => ?_⟩
      · by_cases e : j ≤ k
        · exact h2 j e
        · obtain rfl : j = k + 1 := by omega
          rw [h3 _ (by omega), g, if_neg (by omega), if_pos rfl]
          exact hB k (by omega)
      · rw [h3 j (by omega), g, if_neg (by omega), if_neg (by omega)]
    · exact ⟨rfl, hB, fun _ _ => rfl⟩
theorem outer_same {lt lt' : Nat → Nat → Bool} (h : ∀ x y, y < x → lt x y = lt' x y) (n : Nat) : ∀ (t i : Nat) (d : Array Nat), i + t = n → d.size = n → (∀ j, j < i → d[j]! < i) → (∀ j, i ≤ j → j < n → d[j]! = j) → Go.Sort.insOuter lt 0 n i d = Go.Sort.insOuter lt' 0 n i d
  | 0, i, d, hi, _, _, _ => by
    unfold Go.Sort.insOuter
    rw [if_neg (by omega), if_neg (by omega)]
  | t + 1, i, d, hi, hd, h1, h2 => by
    conv => lhs; unfold Go.Sort.insOuter
    conv => rhs; unfold Go.Sort.insOuter
    have hii := h2 i (Nat.le_refl _) (by omega)
    rw [if_pos (by omega), if_pos (by omega), ← inner_same h i d (by omega) fun j hj => by rw [hii]; exact h1 j hj]
    obtain ⟨k1, k2, k3⟩ := inner_keeps (lt := lt) i d (by omega) (i + 1) fun j hj => by
      by_cases e : j = i
      · rw [e, hii]; omega
      · have := h1 j (by omega); omega
    exact outer_same h n t (i + 1) _ (by omega) (by rw [k1, hd]) (fun j hj => k2 j (by omega)) fun j a b => by rw [k3 j (by omega)]; exact h2 j (by omega) b
theorem range_get (n j : Nat) (h : j < n) : (List.range n).toArray[j]! = j := by
  rw [getElem!_pos _ j (by simpa using h)]; simp
/-- The order of places: by f, and where f is the same by the place. -/
def lexB (f : Nat → Int) (x y : Nat) : Bool := decide (f x < f y ∨ f x = f y ∧ x < y)
def Lex (f : Nat → Int) (x y : Nat) : Prop := f x < f y ∨ f x = f y ∧ x < y
theorem swo_lex (f : Nat → Int) : Go.Sort.SWO (lexB f) where
  irrefl := fun x => by unfold lexB; rw [decide_eq_false_iff_not]; omega
  trans := fun x y z h1 h2 => by unfold lexB at *; rw [decide_eq_true_eq] at *; omega
  ntrans := fun x y z h1 h2 => by unfold lexB at *; rw [decide_eq_false_iff_not] at *; omega
/-- Sorted by f, stably: the one order of the places in which each stands ahead of the next. -/
theorem stable_lex (f : Nat → Int) (n : Nat) (o : List Nat) (hp : o.Perm (List.range n)) (ho : o.Pairwise (Lex f)) :
    (Go.Sort.insertionSort (fun x y => decide (f x < f y)) (List.range n).toArray 0 n).toList = o := by
  have hs : Go.Sort.insertionSort (fun x y => decide (f x < f y)) (List.range n).toArray 0 n = Go.Sort.insertionSort (lexB f) (List.range n).toArray 0 n := by
    unfold Go.Sort.insertionSort
    by_cases h0 : n = 0
    · subst h0
      unfold Go.Sort.insOuter
      rw [if_neg (by omega), if_neg (by omega)]
    · refine outer_same (fun x y hxy => ?_) n (n - 1) (0 + 1) _ (by omega) (by simp) (fun j hj => ?_) fun j _ hj => range_get n j hj
      · unfold lexB
        rw [Bool.eq_iff_iff, decide_eq_true_eq, decide_eq_true_eq]; omega
      · obtain rfl : j = 0 := by omega
        rw [range_get n 0 (by omega)]; omega
  rw [hs]
  obtain ⟨⟨hsz, _, hq⟩, hh⟩ := Go.Sort.insertionSort_holds (swo_lex f) (List.range n).toArray 0 n (Nat.zero_le _) (by simp)
  generalize Go.Sort.insertionSort (lexB f) (List.range n).toArray 0 n = D at *
  have hDl : D.size = n := by rw [hsz]; simp
  have hp2 : D.toList.Perm (List.range n) := by
    have e1 : (D.extract 0 n).toList = D.toList := by rw [← hDl]; simp
    have e2 : ((List.range n).toArray.extract 0 n).toList = List.range n := by simp
    rw [e1, e2] at hq
    exact hq
  refine List.Perm.eq_of_pairwise (le := fun x y => ¬ Lex f y x) (fun a b _ _ h1 h2 => ?_) ?_ ?_ (hp2.trans hp.symm)
  · unfold Lex at *; omega
  · rw [List.pairwise_iff_getElem]
    intro i j hi hj hij
    have hj2 : j < D.size := by simpa using hj
    have := hh i j (Nat.zero_le _) hij (by omega)
    rw [getElem!_pos D i (by omega), getElem!_pos D j hj2] at this
    unfold lexB at this
    rw [decide_eq_false_iff_not] at this
    simpa [Lex] using this
  · exact ho.imp fun {a b} h => by unfold Lex at *; omega
/-- The length at a place. -/
def Ln (l : List Int) (i : Nat) : Nat := (rd l (i : Int)).toNat
def keyN (l : List Int) (x : Nat) : Int := rd l ((x % l.length : Nat) : Int)
def rowO (l : List Int) (n i d : Nat) : List Nat := (List.range' i d).filter fun j => rd l (j : Int) == (n : Int)
def refO (l : List Int) (n d : Nat) : List Nat := (List.range' n d).flatMap fun m => rowO l m 0 l.length
theorem mem_rowO {l : List Int} {n i d x : Nat} : x ∈ rowO l n i d ↔ (i ≤ x ∧ x < i + d) ∧ rd l (x : Int) = (n : Int) := by
  unfold rowO
  rw [List.mem_filter, List.mem_range'_1]; simp
theorem mem_refO {l : List Int} (hl : LenOk l) {x : Nat} : x ∈ refO l 1 12 ↔ x < l.length := by
  unfold refO
  rw [List.mem_flatMap]
  constructor
  · rintro ⟨n, _, hx⟩
    have := (mem_rowO.1 hx).1; omega
  · intro hx
    obtain ⟨h1, h2⟩ := hl.2 (rd l (x : Int)) (by rw [rd_nat]; exact getD_mem hx)
    exact ⟨(rd l (x : Int)).toNat, List.mem_range'_1.2 (by omega), mem_rowO.2 ⟨by omega, by omega⟩⟩
theorem refO_lex (l : List Int) (n d : Nat) : (refO l n d).Pairwise (Lex (keyN l)) := by
  have hk : ∀ x m, x ∈ rowO l m 0 l.length → keyN l x = (m : Int) := fun x m hx => by
    obtain ⟨h1, h2⟩ := mem_rowO.1 hx
    unfold keyN; rw [Nat.mod_eq_of_lt (by omega)]; exact h2
  unfold refO
  rw [List.pairwise_flatMap]
  refine ⟨fun m _ => ?_, ?_⟩
  · refine List.Pairwise.imp_of_mem (R := (· < ·)) (fun {a b} ha hb h => .inr ⟨by rw [hk a m ha, hk b m hb], h⟩) ?_
    exact List.Pairwise.filter _ (List.pairwise_lt_range' 1)
  · refine (List.pairwise_lt_range' 1).imp fun {a b} h x hx y hy => .inl ?_
    rw [hk x a hx, hk y b hy]; omega
theorem refO_nodup (l : List Int) (n d : Nat) : (refO l n d).Nodup := by
  refine List.nodup_iff_pairwise_ne.2 ((refO_lex l n d).imp fun {a b} h e => ?_)
  subst e; unfold Lex at h; omega
theorem refO_perm {l : List Int} (hl : LenOk l) : (refO l 1 12).Perm (List.range l.length) := by
  refine (List.perm_ext_iff_of_nodup (refO_nodup l 1 12) List.nodup_range).2 fun x => ?_
  rw [mem_refO hl, List.mem_range]
theorem ordN_ref {l : List Int} (hl : LenOk l) : (ordN l).toList = refO l 1 12 := by
  have h := stable_lex (keyN l) l.length (refO l 1 12) (refO_perm hl) (refO_lex l 1 12)
  have e : ltOf (cfN l) = fun x y => decide (keyN l x < keyN l y) := by funext x y; exact lt_cfN l x y
  unfold ordN
  rw [e]; exact h
theorem ordL_ref {l : List Int} (hl : LenOk l) : ordL l = (refO l 1 12).map fun x : Nat => (x : Int) := by
  unfold ordL
  rw [ordN_ref hl]
  exact List.map_congr_left fun x hx => by rw [Nat.mod_eq_of_lt ((mem_refO hl).1 hx)]
/-- Signals one after another, in an order of the places. -/
def canon (l : List Int) : List Nat → Nat → List ByteArray → List ByteArray
  | [], _, out => out
  | i :: r, b, out => canon l r (b + 2 ^ (12 - Ln l i)) (out.set i (sigB (b / 2 ^ (12 - Ln l i)) (Ln l i)))
def shareL (l : List Int) (r : List Nat) : Nat := (r.map fun i => 2 ^ (12 - Ln l i)).sum
theorem shareL_cons (l : List Int) (i : Nat) (r : List Nat) : shareL l (i :: r) = 2 ^ (12 - Ln l i) + shareL l r := by unfold shareL; rw [List.map_cons, List.sum_cons]
theorem shareL_append (l : List Int) (r s : List Nat) : shareL l (r ++ s) = shareL l r + shareL l s := by unfold shareL; rw [List.map_append, List.sum_append]
theorem shareL_fill {l : List Int} (hl : LenOk l) : shareL l (refO l 1 12) = fillN l := by
  unfold shareL fillN
  rw [((refO_perm hl).map _).sum_nat]
  congr 1
  refine List.ext_getElem (by simp) fun i h1 h2 => ?_
  have hi : i < l.length := by simpa using h2
  simp only [List.getElem_map, List.getElem_range]
  unfold Ln
  rw [rd_nat, List.getD_eq_getElem?_getD, List.getElem?_eq_getElem hi]; rfl
theorem from_canon {l : List Int} : ∀ (r : List Nat) (num long b : Nat) (out : List ByteArray), (∀ i ∈ r, Ln l i ≤ 12 ∧ long ≤ Ln l i) → r.Pairwise (fun i j => Ln l i ≤ Ln l j) → (num + 1) * 2 ^ (12 - long) = b → b + shareL l r ≤ 4096 →
    fromGo l (r.map fun x : Nat => (x : Int)) false num long out = some (canon l r b out)
  | [], _, _, _, _, _, _, _, _ => rfl
  | i :: r, num, long, b, out, hr, hp, hb, hs => by
    obtain ⟨h12, hlo⟩ := hr i (List.mem_cons_self ..)
    have hpow : 2 ^ (12 - long) = 2 ^ (Ln l i - long) * 2 ^ (12 - Ln l i) := by rw [← Nat.pow_add]; congr 1; omega
    have hpos : 0 < 2 ^ (12 - Ln l i) := Nat.pow_pos (by decide)
    have hq : (num + 1) * 2 ^ (Ln l i - long) * 2 ^ (12 - Ln l i) = b := by rw [Nat.mul_assoc, ← hpow]; exact hb
    have hqb : (num + 1) * 2 ^ (Ln l i - long) ≤ b := by rw [← hq]; exact Nat.le_mul_of_pos_right _ hpos
    have hdiv : b / 2 ^ (12 - Ln l i) = (num + 1) * 2 ^ (Ln l i - long) := by rw [← hq, Nat.mul_div_cancel _ hpos]
    rw [shareL_cons] at hs
    have hrest := from_canon r ((num + 1) * 2 ^ (Ln l i - long)) (Ln l i) (b + 2 ^ (12 - Ln l i)) (out.set i (sigB (b / 2 ^ (12 - Ln l i)) (Ln l i)))
      (fun j hj => ⟨(hr j (List.mem_cons_of_mem _ hj)).1, (List.pairwise_cons.1 hp).1 j hj⟩) (List.pairwise_cons.1 hp).2 (by rw [Nat.add_mul, hq, Nat.one_mul]) (by omega)
    show (if (decide (long ≤ Ln l i) && decide ((num + 1) * 2 ^ (Ln l i - long) < 100000)) = true then fromGo l (r.map fun x : Nat => (x : Int)) false ((num + 1) * 2 ^ (Ln l i - long)) (Ln l i) (out.set ((i : Int)).toNat (sigB ((num + 1) * 2 ^ (Ln l i - long)) (Ln l i))) else none) = _
    rw [if_pos (by rw [Bool.and_eq_true, decide_eq_true_eq, decide_eq_true_eq]; omega), Int.toNat_natCast, ← hdiv, hdiv]
    rw [hdiv] at hrest
    rw [hrest]
    show _ = some (canon l r _ (out.set i (sigB (b / 2 ^ (12 - Ln l i)) (Ln l i))))
    rw [hdiv]
theorem refO_up (l : List Int) : (refO l 1 12).Pairwise (fun i j => Ln l i ≤ Ln l j) := by
  refine List.Pairwise.imp_of_mem (R := Lex (keyN l)) (fun {a b} ha hb h => ?_) (refO_lex l 1 12)
  have hk : ∀ x, x ∈ refO l 1 12 → keyN l x = rd l (x : Int) := fun x hx => by
    obtain ⟨m, _, hx⟩ := List.mem_flatMap.1 hx
    have := (mem_rowO.1 hx).1
    unfold keyN; rw [Nat.mod_eq_of_lt (by omega)]
  unfold Lex at h
  rw [hk a ha, hk b hb] at h
  unfold Ln; omega
def canonP (l : List Int) : List ByteArray := canon l (refO l 1 12) 0 (List.replicate l.length ByteArray.empty)
theorem Ln_ok {l : List Int} (hl : LenOk l) {i : Nat} (hi : i < l.length) : 1 ≤ Ln l i ∧ Ln l i ≤ 12 ∧ ((Ln l i : Nat) : Int) = rd l (i : Int) := by
  obtain ⟨h1, h2⟩ := hl.2 (rd l (i : Int)) (by rw [rd_nat]; exact getD_mem hi)
  unfold Ln; omega
theorem fromL_canon {l : List Int} (hl : LenOk l) (h0 : 0 < l.length) (hf : fillN l ≤ 4096) : fromL l = some (canonP l) := by
  have hs := shareL_fill hl
  have hp := refO_up l
  have hm := @mem_refO l hl
  have hlen := (refO_perm hl).length_eq
  unfold fromL canonP
  rw [ordL_ref hl]
  generalize refO l 1 12 = o at *
  cases o with
  | nil => simp at hlen; omega
  | cons i r =>
    have hi := hm.1 (List.mem_cons_self ..)
    have hr0 : rd ((i :: r).map fun x : Nat => (x : Int)) 0 = (i : Int) := rfl
    rw [hr0]
    rw [shareL_cons] at hs
    have hrest := from_canon r 0 (Ln l i) (0 + 2 ^ (12 - Ln l i)) ((List.replicate l.length ByteArray.empty).set i (sigB (0 / 2 ^ (12 - Ln l i)) (Ln l i)))
      (fun j hj => ⟨(Ln_ok hl (hm.1 (List.mem_cons_of_mem _ hj))).2.1, (List.pairwise_cons.1 hp).1 j hj⟩) (List.pairwise_cons.1 hp).2 (by rw [Nat.zero_add, Nat.one_mul, Nat.zero_add]) (by omega)
    rw [Nat.zero_div] at hrest
    show (if (decide (Ln l i ≤ Ln l i) && decide (0 < 100000)) = true then fromGo l (r.map fun x : Nat => (x : Int)) false 0 (Ln l i) ((List.replicate l.length ByteArray.empty).set ((i : Int)).toNat (sigB 0 (Ln l i))) else none) = _
    rw [if_pos (by simp), Int.toNat_natCast, hrest]
    show _ = some (canon l r _ (List.set _ i (sigB (0 / 2 ^ (12 - Ln l i)) (Ln l i))))
    rw [Nat.zero_div]

/-! The code for lengths: its signals, that none begins with another one, and the reference's way to it. -/

theorem gt_set (out : List ByteArray) (i j : Nat) (s : ByteArray) (h : i < out.length) : gt (out.set i s) j = if i = j then s else gt out j := by
  unfold gt
  rw [List.getD_eq_getElem?_getD, List.getD_eq_getElem?_getD, List.getElem?_set]
  by_cases e : i = j
  · rw [if_pos e, if_pos e, if_pos h]; rfl
  · rw [if_neg e, if_neg e]
theorem canon_len (l : List Int) : ∀ (r : List Nat) (b : Nat) (out : List ByteArray), (canon l r b out).length = out.length
  | [], _, _ => rfl
  | i :: r, b, out => by
    show (canon l r _ (out.set i _)).length = _
    rw [canon_len l r, List.length_set]
theorem canon_other (l : List Int) : ∀ (r : List Nat) (b : Nat) (out : List ByteArray) (j : Nat), (∀ i ∈ r, i < out.length) → j ∉ r → gt (canon l r b out) j = gt out j
  | [], _, _, _, _, _ => rfl
  | i :: r, b, out, j, hr, hj => by
    show gt (canon l r _ (out.set i _)) j = _
    rw [canon_other l r _ _ j (fun x hx => by rw [List.length_set]; exact hr x (List.mem_cons_of_mem _ hx)) (fun e => hj (List.mem_cons_of_mem _ e)), gt_set _ _ _ _ (hr i (List.mem_cons_self ..)), if_neg (fun e => hj (by rw [e]; exact List.mem_cons_self ..))]
/-- The signal at the k-th place of the order: the sum of what stands ahead of it. -/
theorem canon_at (l : List Int) : ∀ (r : List Nat) (b : Nat) (out : List ByteArray), r.Nodup → (∀ i ∈ r, i < out.length) → ∀ (k : Nat) (hk : k < r.length), gt (canon l r b out) r[k] = sigB ((b + shareL l (r.take k)) / 2 ^ (12 - Ln l r[k])) (Ln l r[k])
  | i :: r, b, out, hn, hr, 0, _ => by
    show gt (canon l r _ (out.set i _)) i = _
    rw [canon_other l r _ _ i (fun x hx => by rw [List.length_set]; exact hr x (List.mem_cons_of_mem _ hx)) (List.nodup_cons.1 hn).1, gt_set _ _ _ _ (hr i (List.mem_cons_self ..)), if_pos rfl]
    rfl
  | i :: r, b, out, hn, hr, k + 1, hk => by
    show gt (canon l r _ (out.set i _)) (r[k]'(by simpa using hk)) = sigB ((b + shareL l (i :: r.take k)) / 2 ^ (12 - Ln l (r[k]'(by simpa using hk)))) (Ln l (r[k]'(by simpa using hk)))
    rw [canon_at l r _ _ (List.nodup_cons.1 hn).2 (fun x hx => by rw [List.length_set]; exact hr x (List.mem_cons_of_mem _ hx)) k (by simpa using hk), shareL_cons, Nat.add_assoc]
/-- What the notes of a signal say as a number. -/
def valK (x : List UInt8) : Nat := x.foldl (fun v b => 2 * v + (if b = 45 then 1 else 0)) 0
theorem val_snoc (x : List UInt8) (b : UInt8) : valK (x ++ [b]) = 2 * valK x + (if b = 45 then 1 else 0) := by
  unfold valK; rw [List.foldl_append]; rfl
theorem val_bit (num b : Nat) : (if bitB num b = 45 then 1 else 0) = num / 2 ^ b % 2 := by
  unfold bitB
  by_cases h : num / 2 ^ b % 2 = 1
  · rw [if_pos h, if_pos rfl, h]
  · rw [if_neg h, if_neg (by decide)]; omega
theorem val_sig (num long : Nat) : ∀ k, k ≤ long → valK (sigK num long k) = num / 2 ^ (long - k) % 2 ^ k
  | 0, _ => by rw [Nat.pow_zero, Nat.mod_one]; rfl
  | k + 1, h => by
    show valK (sigK num long k ++ [_]) = _
    rw [val_snoc, val_sig num long k (by omega), val_bit]
    have e1 : num / 2 ^ (long - k) = num / 2 ^ (long - (k + 1)) / 2 := by
      rw [Nat.div_div_eq_div_mul, ← Nat.pow_succ, show (long - (k + 1)).succ = long - k by omega]
    rw [show long - 1 - k = long - (k + 1) by omega, e1]
    generalize num / 2 ^ (long - (k + 1)) = q
    rw [Nat.pow_succ, Nat.mul_comm (2 ^ k) 2, Nat.mod_mul]
    omega
theorem sig_take (num long : Nat) : ∀ (m k : Nat), k ≤ m → (sigK num long m).take k = sigK num long k
  | 0, k, h => by obtain rfl : k = 0 := by omega
                  rfl
  | m + 1, k, h => by
    by_cases e : k = m + 1
    · subst e
      exact List.take_of_length_le (by rw [sigK_len]; exact Nat.le_refl _)
    · show (sigK num long m ++ [_]).take k = _
      rw [List.take_append_of_le_length (by rw [sigK_len]; omega), sig_take num long m k (by omega)]
theorem bs_sig (num long : Nat) : bs (sigB num long) = sigK num long long := bs_mk _
theorem sig_size (num long : Nat) : (sigB num long).size = long := by rw [← bs_len, bs_sig, sigK_len]
theorem sig_notes (num long : Nat) : notesP (sigB num long) = true := by
  rw [notesP_list]
  have : ∀ k, (sigK num long k).all noteB = true := fun k => by
    induction k with
    | zero => rfl
    | succ k ih =>
      show (sigK num long k ++ [_]).all noteB = true
      rw [List.all_append, ih]
      unfold bitB
      split <;> rfl
  have e : (sigB num long).data.toList = sigK num long long := bs_sig num long
  rw [e]; exact this long
/-- If one signal begins another one, so does its number. -/
theorem sig_begins {n1 l1 n2 l2 : Nat} (h1 : n1 < 2 ^ l1) (h2 : n2 < 2 ^ l2) (h : headB (sigB n2 l2) (sigB n1 l1) = true) : l1 ≤ l2 ∧ n2 / 2 ^ (l2 - l1) = n1 := by
  obtain ⟨t, e⟩ := headB_iff.1 h
  rw [bs_sig, bs_sig] at e
  have hlen := congrArg List.length e
  rw [List.length_append, sigK_len, sigK_len] at hlen
  refine ⟨by omega, ?_⟩
  have et := congrArg (List.take l1) e
  rw [sig_take _ _ _ _ (by omega), List.take_append_of_le_length (by rw [sigK_len]; exact Nat.le_refl _), sig_take _ _ _ _ (Nat.le_refl _)] at et
  have ev := congrArg valK et
  rw [val_sig _ _ _ (by omega), val_sig _ _ _ (Nat.le_refl _), Nat.sub_self, Nat.pow_zero, Nat.div_one, Nat.mod_eq_of_lt h1, Nat.mod_eq_of_lt] at ev
  · exact ev
  · rw [Nat.div_lt_iff_lt_mul (Nat.pow_pos (by decide)), ← Nat.pow_add, show l1 + (l2 - l1) = l2 by omega]; exact h2
theorem shareL_take {l : List Int} {o : List Nat} {k m : Nat} (h : k < m) (hm : m ≤ o.length) : shareL l (o.take k) + 2 ^ (12 - Ln l (o[k]'(by omega))) ≤ shareL l (o.take m) := by
  have e : o.take m = o.take (k + 1) ++ (o.take m).drop (k + 1) := by
    conv => lhs; rw [← List.take_append_drop (k + 1) (o.take m)]
    rw [List.take_take, Nat.min_eq_left (by omega)]
  rw [e, shareL_append, List.take_add_one, List.getElem?_eq_getElem (show k < o.length by omega), shareL_append]
  have : shareL l (some (o[k]'(by omega))).toList = 2 ^ (12 - Ln l (o[k]'(by omega))) := by
    show shareL l [_] = _
    rw [shareL_cons]; rfl
  rw [this]; omega
theorem sig_num {S L : Nat} (hL : L ≤ 12) (h : S + 2 ^ (12 - L) ≤ 4096) : S / 2 ^ (12 - L) < 2 ^ L := by
  have hp : 0 < 2 ^ (12 - L) := Nat.pow_pos (by decide)
  rw [Nat.div_lt_iff_lt_mul hp, ← Nat.pow_add, show L + (12 - L) = 12 by omega]
  have : (2 : Nat) ^ 12 = 4096 := rfl
  omega
/-- The order's k-th signal and a later one: neither begins the other one. -/
theorem sig_apart {l : List Int} {o : List Nat} (hL : ∀ i ∈ o, Ln l i ≤ 12) (hup : o.Pairwise fun i j => Ln l i ≤ Ln l j) (hf : shareL l o ≤ 4096) {k m : Nat} (hkm : k < m) (hm : m < o.length) :
    headB (sigB (shareL l (o.take m) / 2 ^ (12 - Ln l o[m])) (Ln l o[m])) (sigB (shareL l (o.take k) / 2 ^ (12 - Ln l (o[k]'(by omega)))) (Ln l (o[k]'(by omega)))) = false ∧
    headB (sigB (shareL l (o.take k) / 2 ^ (12 - Ln l (o[k]'(by omega)))) (Ln l (o[k]'(by omega)))) (sigB (shareL l (o.take m) / 2 ^ (12 - Ln l o[m])) (Ln l o[m])) = false := by
  have h1 := shareL_take (l := l) hkm (show m ≤ o.length by omega)
  have h2 := shareL_take (l := l) (show m < m + 1 by omega) (show m + 1 ≤ o.length by omega)
  have h3 : shareL l (o.take (m + 1)) ≤ shareL l o := by
    conv => rhs; rw [← List.take_append_drop (m + 1) o]
    rw [shareL_append]; omega
  have hLk := hL _ (List.getElem_mem (show k < o.length by omega))
  have hLm := hL _ (List.getElem_mem hm)
  have hle := List.pairwise_iff_getElem.1 hup k m (by omega) hm hkm
  generalize shareL l (o.take (m + 1)) = S3 at *
  generalize shareL l (o.take m) = S2 at *
  generalize shareL l (o.take k) = S1 at *
  generalize Ln l (o[k]'(by omega)) = L1 at *
  generalize Ln l o[m] = L2 at *
  have hp1 : 0 < 2 ^ (12 - L1) := Nat.pow_pos (by decide)
  have n1 := sig_num (S := S1) hLk (by have : 0 < 2 ^ (12 - L2) := Nat.pow_pos (by decide); omega)
  have n2 := sig_num (S := S2) hLm (by omega)
  have key : ∀ (h : L1 ≤ L2), S2 / 2 ^ (12 - L2) / 2 ^ (L2 - L1) ≠ S1 / 2 ^ (12 - L1) := fun h e => by
    rw [Nat.div_div_eq_div_mul, ← Nat.pow_add, show 12 - L2 + (L2 - L1) = 12 - L1 by omega] at e
    have h5 : (S1 + 2 ^ (12 - L1)) / 2 ^ (12 - L1) ≤ S2 / 2 ^ (12 - L1) := Nat.div_le_div_right h1
    rw [Nat.add_div_right _ hp1, e] at h5
    omega
  constructor
  · rw [Bool.eq_false_iff]
    intro e
    exact key hle (sig_begins n1 n2 e).2
  · rw [Bool.eq_false_iff]
    intro e
    obtain ⟨h6, h7⟩ := sig_begins n2 n1 e
    obtain rfl : L1 = L2 := by omega
    rw [Nat.sub_self, Nat.pow_zero, Nat.div_one] at h7
    refine key hle ?_
    rw [Nat.sub_self, Nat.pow_zero, Nat.div_one]; exact h7.symm
theorem canonP_len (l : List Int) : (canonP l).length = l.length := by unfold canonP; rw [canon_len, List.length_replicate]
theorem canonP_at {l : List Int} (hl : LenOk l) {i : Nat} (hi : i < l.length) : ∃ (k : Nat) (hk : k < (refO l 1 12).length), (refO l 1 12)[k] = i ∧ gt (canonP l) i = sigB (shareL l ((refO l 1 12).take k) / 2 ^ (12 - Ln l (refO l 1 12)[k])) (Ln l (refO l 1 12)[k]) := by
  obtain ⟨k, hk, e⟩ := List.mem_iff_getElem.1 ((mem_refO hl).2 hi)
  refine ⟨k, hk, e, ?_⟩
  have := canon_at l (refO l 1 12) 0 (List.replicate l.length ByteArray.empty) (refO_nodup l 1 12) (fun j hj => by rw [List.length_replicate]; exact (mem_refO hl).1 hj) k hk
  rw [Nat.zero_add] at this
  conv => lhs; rw [← e]
  exact this
theorem canonP_size {l : List Int} (hl : LenOk l) {i : Nat} (hi : i < l.length) : (gt (canonP l) i).size = Ln l i := by
  obtain ⟨k, hk, e, h⟩ := canonP_at hl hi
  rw [h, sig_size, e]
theorem canonP_pre {l : List Int} (hl : LenOk l) (hf : fillN l ≤ 4096) : preB (canonP l) = true := by
  refine preB_iff.2 fun i j hi hj hij => ?_
  rw [canonP_len] at hi hj
  obtain ⟨k, hk, e, h⟩ := canonP_at hl hi
  obtain ⟨m, hm, e2, h2⟩ := canonP_at hl hj
  rw [h, h2]
  have hL : ∀ x ∈ refO l 1 12, Ln l x ≤ 12 := fun x hx => (Ln_ok hl ((mem_refO hl).1 hx)).2.1
  have hs : shareL l (refO l 1 12) ≤ 4096 := by rw [shareL_fill hl]; exact hf
  have hne : k ≠ m := fun q => hij (by subst q; rw [← e, ← e2])
  by_cases q : k < m
  · exact (sig_apart hL (refO_up l) hs q hm).2
  · exact (sig_apart hL (refO_up l) hs (show m < k by omega) hk).1
theorem canonP_valid {l : List Int} (hl : LenOk l) (h0 : 0 < l.length) (hf : fillN l ≤ 4096) : Valid (canonP l) := by
  have hm : ∀ s ∈ canonP l, ∃ i, i < l.length ∧ s = gt (canonP l) i := fun s hs => by
    obtain ⟨i, hi, rfl⟩ := mem_gt hs
    rw [canonP_len] at hi
    exact ⟨i, hi, rfl⟩
  refine ⟨by rw [canonP_len]; exact h0, by rw [canonP_len]; exact hl.1, fun s hs => ?_, fun s hs => ?_, fun s hs => ?_, nodup_take.2 fun j hj hin => ?_⟩
  · obtain ⟨i, hi, rfl⟩ := hm s hs
    rw [canonP_size hl hi]; exact (Ln_ok hl hi).1
  · obtain ⟨i, hi, rfl⟩ := hm s hs
    rw [canonP_size hl hi]; exact (Ln_ok hl hi).2.1
  · obtain ⟨i, hi, rfl⟩ := hm s hs
    obtain ⟨k, hk, e, h⟩ := canonP_at hl hi
    rw [h]; exact sig_notes _ _
  · obtain ⟨i, hi, e⟩ := mem_getD (d := ByteArray.empty) hin
    rw [List.length_take] at hi
    have e2 : gt (canonP l) i = gt (canonP l) j := by
      rw [← e]
      unfold gt
      rw [List.getD_eq_getElem?_getD, List.getD_eq_getElem?_getD, List.getElem?_take_of_lt (by omega)]
    have := preB_iff.1 (canonP_pre hl hf) i j (by omega) hj (by omega)
    rw [e2, headB_iff.2 ⟨[], by rw [List.append_nil]⟩] at this
    cases this
theorem canonP_lens {l : List Int} (hl : LenOk l) : lensC (canonP l) = l := by
  unfold lensC
  refine List.ext_getElem (by rw [List.length_map, canonP_len]) fun i h1 h2 => ?_
  rw [List.getElem_map]
  have e : (canonP l)[i]'(by rw [canonP_len]; exact h2) = gt (canonP l) i := by
    unfold gt; rw [List.getD_eq_getElem?_getD, List.getElem?_eq_getElem (by rw [canonP_len]; exact h2)]; rfl
  rw [e, canonP_size hl h2, (Ln_ok hl h2).2.2, rd_nat, List.getD_eq_getElem?_getD, List.getElem?_eq_getElem h2]; rfl

/-! The code for lengths, by both. -/

theorem outW_one {n : Int} : outW 1 12 n = false ↔ 1 ≤ n ∧ n ≤ 12 := by
  unfold outW; simp
def lenB (l : List Int) : Bool := oneTo 1 12 l
theorem lenB_iff {l : List Int} : lenB l = true ↔ 0 < l.length ∧ LenOk l := by
  unfold lenB oneTo LenOk
  rw [Bool.not_eq_true', Bool.or_eq_false_iff, Bool.or_eq_false_iff, decide_eq_false_iff_not, decide_eq_false_iff_not, List.any_eq_false]
  constructor
  · rintro ⟨⟨h1, h2⟩, h3⟩
    exact ⟨by omega, by omega, fun x hx => outW_one.1 (by simpa using h3 x hx)⟩
  · rintro ⟨h1, h2, h3⟩
    exact ⟨⟨by omega, by omega⟩, fun x hx => by simpa using outW_one.2 (h3 x hx)⟩
def fillP (l : List Int) : Int × Int × Int := if lenB l = true then ((redI (fillN l) 12).1, (redI (fillN l) 12).2, 0) else (0, 0, 1)
theorem red_gt {n : Nat} : (redI n 12).1 > (redI n 12).2 ↔ ¬ n ≤ 4096 := by
  have := red_le n 12
  rw [show (2 : Nat) ^ 12 = 4096 from rfl] at this
  unfold redI
  omega
def fromP (l : List Int) : List ByteArray × Int := if lenB l = true then (if fillN l ≤ 4096 then (canonP l, 0) else ([], 8)) else ([], 1)
theorem from_ev (l : List Int) : Ev (fun k => whistle_FromLengths.f k l) (fromP l) := by
  unfold whistle_FromLengths.f fromP
  rw [show oneTo 1 12 l = lenB l from rfl]
  by_cases h : lenB l = true
  · rw [h, if_pos rfl]
    obtain ⟨h0, hl⟩ := lenB_iff.1 h
    refine Ev.ifp rfl (Ev.bind (filled_ev hl) ?_)
    by_cases hf : fillN l ≤ 4096
    · rw [if_pos hf, fromL_canon hl h0 hf]
      exact Ev.ifn (by rw [red_gt]; omega) (Ev.val (by rfl))
    · rw [if_neg hf]
      exact Ev.ifp (red_gt.2 hf) (Ev.val (by rfl))
  · rw [if_neg h]
    exact Ev.ifn h (Ev.val (by rfl))

/-! In how many ways a text can be told apart into signals; both count just that. -/

def wayB (C : List ByteArray) : Nat → List UInt8 → Nat
  | 0, l => if l.isEmpty then 1 else 0
  | k + 1, l => if l.isEmpty then 1 else (C.map fun s => if (bs s).isPrefixOf l then wayB C k (l.drop s.size) else 0).sum
def ways (C : List ByteArray) (l : List UInt8) : Nat := wayB C l.length l
theorem sum_congr {α : Type} {f g : α → Nat} : ∀ {l : List α}, (∀ x ∈ l, f x = g x) → (l.map f).sum = (l.map g).sum
  | [], _ => rfl
  | x :: l, h => by
    rw [List.map_cons, List.map_cons, List.sum_cons, List.sum_cons, h x (List.mem_cons_self ..), sum_congr fun y hy => h y (List.mem_cons_of_mem _ hy)]
theorem sum_le {α : Type} {f g : α → Nat} : ∀ {l : List α}, (∀ x ∈ l, f x ≤ g x) → (l.map f).sum ≤ (l.map g).sum
  | [], _ => Nat.le_refl _
  | x :: l, h => by
    rw [List.map_cons, List.map_cons, List.sum_cons, List.sum_cons]
    exact Nat.add_le_add (h x (List.mem_cons_self ..)) (sum_le fun y hy => h y (List.mem_cons_of_mem _ hy))
theorem sum_filter {α : Type} (p : α → Bool) (f : α → Nat) : ∀ l : List α, (l.map fun x => if p x then f x else 0).sum = ((l.filter p).map f).sum
  | [] => rfl
  | x :: l => by
    rw [List.map_cons, List.sum_cons, sum_filter p f l, List.filter_cons]
    cases p x <;> simp
theorem wayB_same {C : List ByteArray} (hC : ∀ s ∈ C, 1 ≤ s.size) : ∀ (k m : Nat) (l : List UInt8), l.length ≤ k → l.length ≤ m → wayB C k l = wayB C m l
  | k, m, [], _, _ => by cases k <;> cases m <;> rfl
  | k + 1, m + 1, x :: l, h1, h2 => by
    show (C.map _).sum = (C.map _).sum
    refine sum_congr fun s hs => ?_
    have := hC s hs
    rw [wayB_same hC k m ((x :: l).drop s.size) (by rw [List.length_drop]; omega) (by rw [List.length_drop]; omega)]
def term (C : List ByteArray) (l : List UInt8) (s : ByteArray) : Nat := if (bs s).isPrefixOf l then ways C (l.drop s.size) else 0
theorem ways_nil (C : List ByteArray) : ways C [] = 1 := rfl
theorem ways_step {C : List ByteArray} (hC : ∀ s ∈ C, 1 ≤ s.size) {l : List UInt8} (h : l ≠ []) : ways C l = (C.map (term C l)).sum := by
  cases l with
  | nil => exact absurd rfl h
  | cons x l =>
    show (C.map _).sum = _
    refine sum_congr fun s hs => ?_
    have := hC s hs
    unfold term ways
    rw [wayB_same hC l.length ((x :: l).drop s.size).length ((x :: l).drop s.size) (by rw [List.length_drop, List.length_cons]; omega) (Nat.le_refl _)]
theorem pows_lt : ∀ (n : Nat) (J : List Nat), J.Nodup → (∀ j ∈ J, 1 ≤ j ∧ j ≤ n) → (J.map fun j => 2 ^ (n - j)).sum < 2 ^ n
  | 0, J, _, h => by
    cases J with
    | nil => decide
    | cons j J => have := h j (List.mem_cons_self ..); omega
  | n + 1, J, hn, h => by
    have key : ∀ K : List Nat, K.Nodup → (∀ j ∈ K, 1 ≤ j ∧ j ≤ n) → (K.map fun j => 2 ^ (n + 1 - j)).sum + 2 ≤ 2 ^ (n + 1) := fun K h1 h2 => by
      have e : (K.map fun j => 2 ^ (n + 1 - j)).sum = 2 * (K.map fun j => 2 ^ (n - j)).sum := by
        clear h1
        induction K with
        | nil => rfl
        | cons j K ih =>
          have := h2 j (List.mem_cons_self ..)
          rw [List.map_cons, List.map_cons, List.sum_cons, List.sum_cons, ih fun y hy => h2 y (List.mem_cons_of_mem _ hy), Nat.mul_add, show n + 1 - j = (n - j) + 1 by omega, Nat.pow_succ, Nat.mul_comm (2 ^ (n - j)) 2]
      have := pows_lt n K h1 h2
      rw [e, Nat.pow_succ]; omega
    by_cases hm : n + 1 ∈ J
    · have hp := List.perm_cons_erase hm
      rw [(hp.map _).sum_nat, List.map_cons, List.sum_cons, Nat.sub_self, Nat.pow_zero]
      have := key (J.erase (n + 1)) (hn.erase _) fun j hj => by
        have h1 := h j (List.mem_of_mem_erase hj)
        have h2 : j ≠ n + 1 := (hn.mem_erase_iff.1 hj).1
        omega
      omega
    · have := key J hn fun j hj => by
        have h1 := h j hj
        have h2 : j ≠ n + 1 := fun e => hm (e ▸ hj)
        omega
      omega
theorem pref_take {x l : List UInt8} (h : x.isPrefixOf l = true) : x = l.take x.length := by
  obtain ⟨t, rfl⟩ := List.isPrefixOf_iff_prefix.1 h
  rw [List.take_left]
theorem pref_len {x l : List UInt8} (h : x.isPrefixOf l = true) : x.length ≤ l.length := (List.isPrefixOf_iff_prefix.1 h).length_le
theorem terms_le {C : List ByteArray} (v : Valid C) (l : List UInt8) (hl : l ≠ []) (ih : ∀ l' : List UInt8, l'.length < l.length → ways C l' ≤ 2 ^ l'.length) : (C.map (term C l)).sum ≤ 2 ^ l.length := by
  have h1 : (C.map (term C l)).sum ≤ (C.map fun s => if (bs s).isPrefixOf l then 2 ^ (l.length - s.size) else 0).sum := sum_le fun s hs => by
    unfold term
    by_cases h : (bs s).isPrefixOf l = true
    · rw [if_pos h, if_pos h]
      have := v.size1 s hs
      have h2 : 0 < l.length := List.length_pos_iff.2 hl
      have := ih (l.drop s.size) (by rw [List.length_drop]; omega)
      rwa [List.length_drop] at this
    · rw [if_neg h, if_neg h]; exact Nat.le_refl _
  refine Nat.le_trans h1 ?_
  rw [sum_filter (fun s => (bs s).isPrefixOf l) (fun s => 2 ^ (l.length - s.size))]
  have e : ((C.filter fun s => (bs s).isPrefixOf l).map fun s => 2 ^ (l.length - s.size)) = (((C.filter fun s => (bs s).isPrefixOf l).map ByteArray.size).map fun j => 2 ^ (l.length - j)) := by rw [List.map_map]; rfl
  rw [e]
  refine Nat.le_of_lt (pows_lt _ _ ?_ fun j hj => ?_)
  · refine List.nodup_iff_pairwise_ne.2 (List.pairwise_map.2 ?_)
    refine List.Pairwise.imp_of_mem (R := (· ≠ ·)) (fun {a b} ha hb h hs => h ?_) (List.nodup_iff_pairwise_ne.1 (v.nodup.filter _))
    have pa := pref_take (List.mem_filter.1 ha).2
    have pb := pref_take (List.mem_filter.1 hb).2
    rw [bs_len] at pa pb
    exact bs_inj (by rw [pa, pb, hs])
  · obtain ⟨s, hs, rfl⟩ := List.mem_map.1 hj
    have hs2 := List.mem_filter.1 hs
    have := pref_len hs2.2
    rw [bs_len] at this
    exact ⟨v.size1 s hs2.1, this⟩
theorem ways_le {C : List ByteArray} (v : Valid C) : ∀ (n : Nat) (l : List UInt8), l.length = n → ways C l ≤ 2 ^ n := by
  intro n
  induction n using Nat.strongRecOn with
  | _ n ih =>
    intro l hl
    by_cases h : l = []
    · subst h; subst hl; exact Nat.le_refl _
    · rw [ways_step v.size1 h, ← hl]
      exact terms_le v l h fun l' hl' => ih _ (by omega) l' rfl
theorem hd_eq (t s : ByteArray) (p : Nat) : headB (t.extract p t.size) s = (bs s).isPrefixOf ((bs t).drop p) := by
  show (bs s).isPrefixOf (bs (t.extract p t.size)) = _
  rw [bs_ext, List.take_of_length_le (by rw [bs_len]; exact Nat.le_refl _)]
/-- In how many ways the text from p on can be told apart. -/
def wayT (C : List ByteArray) (t : ByteArray) (p : Nat) : Nat := ways C ((bs t).drop p)
def partW (C : List ByteArray) (t : ByteArray) (p i : Nat) : Nat := ((C.take i).map (term C ((bs t).drop p))).sum
theorem partW_all {C : List ByteArray} (v : Valid C) (t : ByteArray) {p : Nat} (hp : p < t.size) : partW C t p C.length = wayT C t p := by
  unfold partW wayT
  rw [List.take_length, ways_step v.size1]
  intro h
  have := congrArg List.length h
  rw [List.length_drop, bs_len, List.length_nil] at this
  omega
theorem partW_succ {C : List ByteArray} (t : ByteArray) (p : Nat) {i : Nat} (hi : i < C.length) : partW C t p (i + 1) = partW C t p i + (if headB (t.extract p t.size) (gt C i) = true then wayT C t (p + (gt C i).size) else 0) := by
  unfold partW
  rw [List.take_add_one, List.getElem?_eq_getElem hi, List.map_append, List.sum_append]
  congr 1
  have e : C[i] = gt C i := by unfold gt; rw [List.getD_eq_getElem?_getD, List.getElem?_eq_getElem hi]; rfl
  show (List.map _ [C[i]]).sum = _
  rw [e, List.map_cons, List.map_nil, List.sum_cons, List.sum_nil, Nat.add_zero, hd_eq]
  unfold term wayT
  rw [List.drop_drop]
theorem wayT_le {C : List ByteArray} (v : Valid C) (t : ByteArray) (ht : t.size ≤ 60) (p : Nat) : wayT C t p ≤ 1152921504606846976 := by
  have := ways_le v _ ((bs t).drop p) rfl
  refine Nat.le_trans this (Nat.le_trans (Nat.pow_le_pow_right (by decide) (show _ ≤ 60 by rw [List.length_drop, bs_len]; omega)) (by decide))
theorem sum_take {α : Type} (f : α → Nat) (C : List α) (i : Nat) : ((C.take i).map f).sum ≤ (C.map f).sum := by
  conv => rhs; rw [← List.take_append_drop i C]
  rw [List.map_append, List.sum_append]; omega
theorem partW_le {C : List ByteArray} (v : Valid C) (t : ByteArray) (ht : t.size ≤ 60) {p : Nat} (hp : p < t.size) (i : Nat) : partW C t p i ≤ 1152921504606846976 := by
  refine Nat.le_trans ?_ (wayT_le v t ht p)
  rw [← partW_all v t hp]
  unfold partW
  rw [List.take_length]
  exact sum_take _ C i
/-- The counts, from i on. -/
def fullW (C : List ByteArray) (t : ByteArray) (i : Nat) : List Int := (List.range (t.size + 1)).map fun j => if j < i then 0 else ((wayT C t j : Nat) : Int)
theorem fullW_len (C : List ByteArray) (t : ByteArray) (i : Nat) : (fullW C t i).length = t.size + 1 := by unfold fullW; simp
theorem fullW_rd (C : List ByteArray) (t : ByteArray) (i j : Nat) (hj : j ≤ t.size) : rd (fullW C t i) (j : Int) = if j < i then 0 else ((wayT C t j : Nat) : Int) := by
  rw [rd_nat]
  unfold fullW
  rw [List.getD_eq_getElem?_getD, List.getElem?_map, List.getElem?_range (by omega)]; rfl
theorem rd_set (L : List Int) (i j : Nat) (x : Int) (h : i < L.length) : rd (L.set i x) (j : Int) = if i = j then x else rd L (j : Int) := by
  rw [rd_nat, rd_nat, List.getD_eq_getElem?_getD, List.getD_eq_getElem?_getD, List.getElem?_set]
  by_cases e : i = j
  · rw [if_pos e, if_pos e, if_pos h]; rfl
  · rw [if_neg e, if_neg e]
theorem fullW_get (C : List ByteArray) (t : ByteArray) (i j : Nat) (h : j < (fullW C t i).length) : (fullW C t i)[j] = if j < i then 0 else ((wayT C t j : Nat) : Int) := by
  have e := fullW_rd C t i j (by rw [fullW_len] at h; omega)
  rw [rd_nat, List.getD_eq_getElem?_getD, List.getElem?_eq_getElem h] at e
  exact e
theorem fullW_set (C : List ByteArray) (t : ByteArray) (i : Nat) (hi : i ≤ t.size) : (fullW C t (i + 1)).set i ((wayT C t i : Nat) : Int) = fullW C t i := by
  refine List.ext_getElem (by rw [List.length_set, fullW_len, fullW_len]) fun j h1 h2 => ?_
  rw [List.getElem_set, fullW_get, fullW_get]
  by_cases e : i = j
  · subst e; rw [if_pos rfl, if_neg (by omega)]
  · rw [if_neg e]
    by_cases h : j < i
    · rw [if_pos (by omega), if_pos h]
    · rw [if_neg (by omega), if_neg h]
theorem fullW_zero (C : List ByteArray) (t : ByteArray) (i : Nat) (hi : i ≤ t.size) : (fullW C t (i + 1)).set i 0 = fullW C t (i + 1) := by
  refine List.ext_getElem (by rw [List.length_set]) fun j h1 h2 => ?_
  rw [List.getElem_set, fullW_get]
  by_cases e : i = j
  · subst e; rw [if_pos rfl, if_pos (by omega)]
  · rw [if_neg e]
theorem hd_fits {t s : ByteArray} {p : Nat} (hp : p ≤ t.size) (h : headB (t.extract p t.size) s = true) : p + s.size ≤ t.size := by
  rw [hd_eq] at h
  have := pref_len h
  rw [List.length_drop, bs_len, bs_len] at this
  omega

/-! Which texts may be heard, and their counts, by both. -/

def textP (C : List ByteArray) (t : ByteArray) : Int := if valP C = 0 then (if 60 < t.size then 3 else if notesP t = true then 0 else 1) else valP C
theorem textP_bad {C : List ByteArray} {t : ByteArray} (hv : valP C ≠ 0) : textP C t = valP C := if_neg hv
theorem textP_long {C : List ByteArray} {t : ByteArray} (hv : valP C = 0) (h : 60 < t.size) : textP C t = 3 := by unfold textP; rw [if_pos hv, if_pos h]
theorem textP_ok {C : List ByteArray} {t : ByteArray} (hv : valP C = 0) (h : ¬ 60 < t.size) (hn : notesP t = true) : textP C t = 0 := by unfold textP; rw [if_pos hv, if_neg h, if_pos hn]
theorem textP_no {C : List ByteArray} {t : ByteArray} (hv : valP C = 0) (h : ¬ 60 < t.size) (hn : ¬ notesP t = true) : textP C t = 1 := by unfold textP; rw [if_pos hv, if_neg h, if_neg hn]
theorem heard_ev {C : List ByteArray} (hS : Sized C) (t : ByteArray) (ht : t.size ≤ 140737488351232) : Ev (fun k => whistle_heard.f k C t) (textP C t) := by
  unfold whistle_heard.f
  refine Ev.bind (val_ev C hS) ?_
  by_cases hv : valP C = 0
  · refine Ev.ifp hv ?_
    by_cases h : 60 < t.size
    · rw [textP_long hv h]
      exact Ev.ifp (show (t.size : Int) > 60 by omega) (Ev.val (by rfl))
    · rw [notes_eq ht]
      refine Ev.ifn (show ¬ (t.size : Int) > 60 by omega) (Ev.some_bind ?_)
      by_cases hn : notesP t = true
      · rw [textP_ok hv h hn]; exact Ev.ifp hn (Ev.val (by rfl))
      · rw [textP_no hv h hn]; exact Ev.ifn hn (Ev.val (by rfl))
  · rw [textP_bad hv]
    exact Ev.ifn hv (Ev.val (by rfl))
theorem rtext_ev {C : List ByteArray} (hS : Sized C) (t : ByteArray) (ht : t.size ≤ 140737488351232) : Ev (fun k => wigeonref05_textOK.f k C t) (textP C t) := by
  unfold wigeonref05_textOK.f
  refine Ev.bind (rval_ev C hS) ?_
  by_cases hv : valP C = 0
  · refine Ev.ifp hv ?_
    by_cases h : 60 < t.size
    · rw [textP_long hv h]
      exact Ev.ifp (show (t.size : Int) > 60 by omega) (Ev.val (by rfl))
    · refine Ev.ifn (show ¬ (t.size : Int) > 60 by omega) (Ev.bind (isNotes_ev t (by unfold bigC; omega)) ?_)
      by_cases hn : notesP t = true
      · rw [textP_ok hv h hn]; exact Ev.ifp hn (Ev.val (by rfl))
      · rw [textP_no hv h hn]; exact Ev.ifn hn (Ev.val (by rfl))
  · rw [textP_bad hv]
    exact Ev.ifn hv (Ev.val (by rfl))
structure TextOk (C : List ByteArray) (t : ByteArray) : Prop where
  valid : Valid C
  few : t.size ≤ 60
  notes : notesP t = true
theorem textP_zero {C : List ByteArray} {t : ByteArray} : textP C t = 0 ↔ TextOk C t := by
  unfold textP
  by_cases hv : valP C = 0
  · rw [if_pos hv]
    by_cases h : 60 < t.size
    · rw [if_pos h]
      exact ⟨fun e => absurd e (by decide), fun x => absurd x.few (by omega)⟩
    · rw [if_neg h]
      by_cases hn : notesP t = true
      · rw [if_pos hn]; exact ⟨fun _ => ⟨valP_zero.1 hv, by omega, hn⟩, fun _ => rfl⟩
      · rw [if_neg hn]; exact ⟨fun e => absurd e (by decide), fun x => absurd x.notes hn⟩
  · rw [if_neg hv]
    exact ⟨fun e => absurd e hv, fun x => absurd (valP_zero.2 x.valid) hv⟩
theorem cell_step {C : List ByteArray} {t : ByteArray} (o : TextOk C t) {i j : Nat} (hi : i < t.size) (hj : j < C.length) (h : headB (t.extract i t.size) (gt C j) = true) :
    ((fullW C t (i + 1)).set i ((partW C t i j : Nat) : Int)).set i (wrap64 (rd ((fullW C t (i + 1)).set i ((partW C t i j : Nat) : Int)) (i : Int) + rd ((fullW C t (i + 1)).set i ((partW C t i j : Nat) : Int)) ((i + (gt C j).size : Nat) : Int))) = (fullW C t (i + 1)).set i ((partW C t i (j + 1) : Nat) : Int) := by
  have h1 := o.valid.size1 _ (gt_mem hj)
  have hf := hd_fits (by omega) h
  have hp := partW_le o.valid t o.few hi j
  have hp1 := partW_le o.valid t o.few hi (j + 1)
  have hs := partW_succ (C := C) t i hj
  rw [if_pos h] at hs
  have hL := fullW_len C t (i + 1)
  rw [rd_set _ _ _ _ (by omega), if_pos rfl, rd_set _ _ _ _ (by omega), if_neg (by omega), fullW_rd _ _ _ _ hf, if_neg (by omega), List.set_set, ← Int.natCast_add, ← hs, w64 (by omega) (by omega)]
theorem count_in {C : List ByteArray} {t : ByteArray} (o : TextOk C t) (i : Nat) (hi : i < t.size) (r : List Int) (hr : Ev (fun k => whistle_counts.l0 k C t (fullW C t i) ((i : Int) - 1)) r) (d : Nat) : ∀ j, j + d = C.length →
    Ev (fun k => whistle_counts.l1 k C t ((fullW C t (i + 1)).set i ((partW C t i j : Nat) : Int)) (i : Int) C (C.length : Int) (j : Int)) r := by
  have hC := o.valid.few
  have ht := o.few
  induction d with
  | zero =>
    intro j hj
    obtain rfl : j = C.length := by omega
    rw [partW_all o.valid t hi, fullW_set C t i (by omega)]
    exact Ev.step (fun k => by rw [whistle_counts.l1, w64 (a := (i : Int) - 1) (by omega) (by omega)]) (Ev.ifn (by omega) hr)
  | succ d ih =>
    intro j hj
    have hw := w64s (show j < 1000000000000000000 by omega)
    have e1 : ((i : Int)).toNat = i := Int.toNat_natCast i
    have hlen : ((fullW C t (i + 1)).set i ((partW C t i j : Nat) : Int)).length = t.size + 1 := by rw [List.length_set, fullW_len]
    refine Ev.step (fun k => by rw [whistle_counts.l1, rdOf_gt, hw, e1, hasPrefix_eq]) (Ev.ifp (by omega) (Ev.ifp (by omega) (Ev.ifp (by omega) (Ev.ifp (by omega) (Ev.ifp (by omega) (Ev.some_bind ?_))))))
    by_cases h : headB (t.extract i t.size) (gt C j) = true
    · have hf := hd_fits (by omega) h
      have hq : wrap64 ((i : Int) + ((gt C j).size : Int)) = ((i + (gt C j).size : Nat) : Int) := by rw [w64 (by omega) (by omega)]; omega
      rw [hq, cell_step o hi (by omega) h]
      refine Ev.ifp h ?_
      refine Ev.ifp (show (i : Int) < (((fullW C t (i + 1)).set i ((partW C t i j : Nat) : Int)).length : Int) by omega) (Ev.ifp (by omega) ?_)
      refine Ev.ifp (show ((i + (gt C j).size : Nat) : Int) < (((fullW C t (i + 1)).set i ((partW C t i j : Nat) : Int)).length : Int) by omega) ?_
      exact ih (j + 1) (by omega)
    · have hs := partW_succ (C := C) t i (show j < C.length by omega)
      rw [if_neg h, Nat.add_zero] at hs
      have := ih (j + 1) (by omega)
      rw [hs] at this
      exact Ev.ifn h this
theorem count_out {C : List ByteArray} {t : ByteArray} (o : TextOk C t) : ∀ i, i ≤ t.size → Ev (fun k => whistle_counts.l0 k C t (fullW C t i) ((i : Int) - 1)) (fullW C t 0)
  | 0, _ => Ev.step (fun k => by rw [whistle_counts.l0]) (Ev.ifn (by omega) (Ev.val (by rfl)))
  | i + 1, hi => by
    have := count_in o i (by omega) _ (count_out o i (by omega)) C.length 0 (by omega)
    have e0 : ((partW C t i 0 : Nat) : Int) = 0 := rfl
    rw [e0, fullW_zero C t i (by omega)] at this
    have e : ((i + 1 : Nat) : Int) - 1 = (i : Int) := by omega
    rw [e]
    refine Ev.step (fun k => by rw [whistle_counts.l0]) (Ev.ifp (show (i : Int) ≥ 0 by omega) ?_)
    exact this
theorem start_full (C : List ByteArray) (t : ByteArray) : (List.replicate (t.size + 1) (0 : Int)).set t.size 1 = fullW C t t.size := by
  refine List.ext_getElem (by rw [List.length_set, List.length_replicate, fullW_len]) fun j h1 h2 => ?_
  rw [List.getElem_set, fullW_get]
  by_cases e : t.size = j
  · subst e
    rw [if_pos rfl, if_neg (by omega)]
    have : wayT C t t.size = 1 := by
      unfold wayT
      rw [List.drop_eq_nil_of_le (by rw [bs_len]; exact Nat.le_refl _), ways_nil]
    rw [this]; rfl
  · have hj : j < t.size + 1 := by rw [fullW_len] at h2; exact h2
    rw [if_neg e, if_pos (by omega), List.getElem_replicate]
theorem counts_ev {C : List ByteArray} {t : ByteArray} (o : TextOk C t) : Ev (fun k => whistle_counts.f k C t) (fullW C t 0) := by
  have ht := o.few
  unfold whistle_counts.f
  have e : wrap64 ((t.size : Int) + 1) = ((t.size + 1 : Nat) : Int) := w64s (by omega)
  have e2 : ((t.size : Int)).toNat = t.size := Int.toNat_natCast _
  rw [e, Int.toNat_natCast, e2]
  refine Ev.ifp (by omega) (Ev.ifp (by omega) (Ev.some_bind (Ev.ifp (by omega) (Ev.ifp (by rw [List.length_replicate]; omega) ?_))))
  rw [start_full C t, w64 (by omega) (by omega)]
  exact count_out o t.size (Nat.le_refl _)
theorem rcount_in {C : List ByteArray} {t : ByteArray} (o : TextOk C t) (i : Nat) (hi : i < t.size) (r : List Int) (hr : Ev (fun k => wigeonref05_heard.l0 k C t (fullW C t i) ((i : Int) - 1)) r) (d : Nat) : ∀ j, j + d = C.length →
    Ev (fun k => wigeonref05_heard.l1 k C t ((fullW C t (i + 1)).set i ((partW C t i j : Nat) : Int)) (i : Int) (j : Int)) r := by
  have hC := o.valid.few
  have ht := o.few
  induction d with
  | zero =>
    intro j hj
    obtain rfl : j = C.length := by omega
    rw [partW_all o.valid t hi, fullW_set C t i (by omega)]
    exact Ev.step (fun k => by rw [wigeonref05_heard.l1, w64 (a := (i : Int) - 1) (by omega) (by omega)]) (Ev.ifn (by omega) hr)
  | succ d ih =>
    intro j hj
    have hw := w64s (show j < 1000000000000000000 by omega)
    have e1 : ((i : Int)).toNat = i := Int.toNat_natCast i
    have hlen : ((fullW C t (i + 1)).set i ((partW C t i j : Nat) : Int)).length = t.size + 1 := by rw [List.length_set, fullW_len]
    refine Ev.step (fun k => by rw [wigeonref05_heard.l1, rdOf_gt, hw, e1, begins_eq]) (Ev.ifp (by omega) (Ev.ifp (by omega) (Ev.ifp (by omega) (Ev.ifp (by omega) (Ev.some_bind ?_)))))
    by_cases h : headB (t.extract i t.size) (gt C j) = true
    · have hf := hd_fits (by omega) h
      have hq : wrap64 ((i : Int) + ((gt C j).size : Int)) = ((i + (gt C j).size : Nat) : Int) := by rw [w64 (by omega) (by omega)]; omega
      rw [hq, cell_step o hi (by omega) h]
      refine Ev.ifp h ?_
      refine Ev.ifp (show (i : Int) < (((fullW C t (i + 1)).set i ((partW C t i j : Nat) : Int)).length : Int) by omega) (Ev.ifp (by omega) ?_)
      refine Ev.ifp (show ((i + (gt C j).size : Nat) : Int) < (((fullW C t (i + 1)).set i ((partW C t i j : Nat) : Int)).length : Int) by omega) ?_
      exact ih (j + 1) (by omega)
    · have hs := partW_succ (C := C) t i (show j < C.length by omega)
      rw [if_neg h, Nat.add_zero] at hs
      have := ih (j + 1) (by omega)
      rw [hs] at this
      exact Ev.ifn h this
theorem rcount_out {C : List ByteArray} {t : ByteArray} (o : TextOk C t) : ∀ i, i ≤ t.size → Ev (fun k => wigeonref05_heard.l0 k C t (fullW C t i) ((i : Int) - 1)) (fullW C t 0)
  | 0, _ => Ev.step (fun k => by rw [wigeonref05_heard.l0]) (Ev.ifn (by omega) (Ev.val (by rfl)))
  | i + 1, hi => by
    have := rcount_in o i (by omega) _ (rcount_out o i (by omega)) C.length 0 (by omega)
    have e0 : ((partW C t i 0 : Nat) : Int) = 0 := rfl
    rw [e0, fullW_zero C t i (by omega)] at this
    have e : ((i + 1 : Nat) : Int) - 1 = (i : Int) := by omega
    rw [e]
    refine Ev.step (fun k => by rw [wigeonref05_heard.l0]) (Ev.ifp (show (i : Int) ≥ 0 by omega) ?_)
    exact this
theorem rcounts_ev {C : List ByteArray} {t : ByteArray} (o : TextOk C t) : Ev (fun k => wigeonref05_heard.f k C t) (fullW C t 0) := by
  have ht := o.few
  unfold wigeonref05_heard.f
  have e : wrap64 ((t.size : Int) + 1) = ((t.size + 1 : Nat) : Int) := w64s (by omega)
  have e2 : ((t.size : Int)).toNat = t.size := Int.toNat_natCast _
  rw [e, Int.toNat_natCast, e2]
  refine Ev.ifp (by omega) (Ev.ifp (by omega) (Ev.some_bind (Ev.ifp (by omega) (Ev.ifp (by rw [List.length_replicate]; omega) ?_))))
  rw [start_full C t, w64 (by omega) (by omega)]
  exact rcount_out o t.size (Nat.le_refl _)
def heardP (C : List ByteArray) (t : ByteArray) : Int × Int := if textP C t = 0 then (((wayT C t 0 : Nat) : Int), 0) else (0, textP C t)
theorem full0 (C : List ByteArray) (t : ByteArray) : rd (fullW C t 0) 0 = ((wayT C t 0 : Nat) : Int) := by
  have := fullW_rd C t 0 0 (Nat.zero_le _)
  rw [if_neg (by omega)] at this
  exact this
theorem heardP_ok {C : List ByteArray} {t : ByteArray} (h : textP C t = 0) : heardP C t = (((wayT C t 0 : Nat) : Int), 0) := if_pos h
theorem heardP_no {C : List ByteArray} {t : ByteArray} (h : textP C t ≠ 0) : heardP C t = (0, textP C t) := if_neg h
theorem Heard_ev {C : List ByteArray} (hS : Sized C) (t : ByteArray) (ht : t.size ≤ 140737488351232) : Ev (fun k => whistle_Heard.f k C t) (heardP C t) := by
  unfold whistle_Heard.f
  refine Ev.bind (heard_ev hS t ht) ?_
  by_cases h : textP C t = 0
  · rw [heardP_ok h]
    refine Ev.ifp h (Ev.bind (counts_ev (textP_zero.1 h)) (Ev.ifp ?_ (Ev.val ?_)))
    · rw [fullW_len]; omega
    · rw [full0]
  · rw [heardP_no h]
    exact Ev.ifn h (Ev.val (by rfl))

/-! Decode, by both: the first signal that leaves a rest with a way. -/

theorem ok_iff {C : List ByteArray} {t : ByteArray} {p : Nat} (hp : p ≤ t.size) (s : ByteArray) : okAt (fullW C t 0) t p s = true ↔ headB (t.extract p t.size) s = true ∧ wayT C t (p + s.size) ≠ 0 := by
  unfold okAt
  rw [Bool.and_eq_true]
  refine and_congr_right fun h => ?_
  have hf := hd_fits hp h
  rw [fullW_rd _ _ _ _ hf, if_neg (by omega), decide_eq_true_eq]
  omega
theorem sum_some {α : Type} {f : α → Nat} : ∀ {l : List α}, (l.map f).sum ≠ 0 → ∃ x, x ∈ l ∧ f x ≠ 0
  | [], h => absurd rfl h
  | x :: l, h => by
    by_cases e : f x = 0
    · rw [List.map_cons, List.sum_cons, e, Nat.zero_add] at h
      obtain ⟨y, hy, e2⟩ := sum_some h
      exact ⟨y, List.mem_cons_of_mem _ hy, e2⟩
    · exact ⟨x, List.mem_cons_self .., e⟩
theorem way_found {C : List ByteArray} (v : Valid C) {t : ByteArray} {p : Nat} (hp : p < t.size) (h : wayT C t p ≠ 0) : ∃ i, i < C.length ∧ okAt (fullW C t 0) t p (gt C i) = true := by
  have hw := partW_all v t hp
  unfold partW at hw
  rw [List.take_length] at hw
  rw [← hw] at h
  obtain ⟨s, hs, e⟩ := sum_some h
  obtain ⟨i, hi, rfl⟩ := mem_gt hs
  refine ⟨i, hi, (ok_iff (by omega) _).2 ?_⟩
  unfold term at e
  by_cases hh : (bs (gt C i)).isPrefixOf ((bs t).drop p) = true
  · rw [if_pos hh, List.drop_drop] at e
    exact ⟨by rw [hd_eq]; exact hh, e⟩
  · rw [if_neg hh] at e; exact absurd rfl e
theorem drop_word {t s : ByteArray} {p : Nat} (h : headB (t.extract p t.size) s = true) : bs s ++ (bs t).drop (p + s.size) = (bs t).drop p := by
  rw [hd_eq] at h
  obtain ⟨u, e⟩ := List.isPrefixOf_iff_prefix.1 h
  rw [← e, ← List.drop_drop, ← e, ← bs_len, List.drop_left]
theorem rdec_scan {C : List ByteArray} (hC : C.length ≤ 12) {t : ByteArray} (ht : t.size ≤ 60) (hs12 : ∀ i, (gt C i).size ≤ 140737488351232) {p : Nat} (hp : p ≤ t.size) (o : List Int) (r : List Int × Bool × Int) (m : Nat) (hm : m ≤ C.length) (hr : Ev (fun k => wigeonref05_Decode.l1 k C t (fullW C t 0) o (p : Int) (m : Int)) r) (d : Nat) : ∀ j, j + d = m → (∀ x, j ≤ x → x < m → okAt (fullW C t 0) t p (gt C x) = false) → Ev (fun k => wigeonref05_Decode.l1 k C t (fullW C t 0) o (p : Int) (j : Int)) r := by
  induction d with
  | zero => intro j hj _; obtain rfl : j = m := by omega
            exact hr
  | succ d ih =>
    intro j hj hn
    have hh := hn j (Nat.le_refl _) (by omega)
    have e1 : ((p : Int)).toNat = p := Int.toNat_natCast p
    have next := ih (j + 1) (by omega) fun x a b => hn x (by omega) b
    refine Ev.step (fun k => by rw [wigeonref05_Decode.l1, rdOf_gt, e1, begins_eq, w64s (show j < 1000000000000000000 by omega)]) (Ev.ifp (by omega) (Ev.ifp (by omega) (Ev.ifp (by omega) (Ev.ifp (by omega) (Ev.some_bind ?_)))))
    by_cases hb : headB (t.extract p t.size) (gt C j) = true
    · have hf := hd_fits hp hb
      have hq : wrap64 ((p : Int) + ((gt C j).size : Int)) = ((p + (gt C j).size : Nat) : Int) := by rw [w64 (by omega) (by omega)]; omega
      have hL := fullW_len C t 0
      have hz : wayT C t (p + (gt C j).size) = 0 := by
        by_cases e : wayT C t (p + (gt C j).size) = 0
        · exact e
        · rw [(ok_iff hp (gt C j)).2 ⟨hb, e⟩] at hh; cases hh
      rw [hq]
      refine Ev.ifp hb (Ev.ifp (by omega) (Ev.ifp (by omega) (Ev.ifp ?_ next)))
      rw [fullW_rd _ _ _ _ hf, if_neg (by omega), hz]; rfl
    · exact Ev.ifn hb next
theorem dec_run {C : List ByteArray} {t : ByteArray} (v : Valid C) (ht : t.size ≤ 60) (hs12 : ∀ i, (gt C i).size ≤ 140737488351232) : ∀ (n p : Nat) (o : List Int), t.size - p = n → p ≤ t.size → wayT C t p ≠ 0 → o.length + (t.size - p) ≤ 60 →
    ∃ m, Ev (fun k => decF C t (fullW C t 0) k p o) (o ++ m) ∧ Ev (fun k => wigeonref05_Decode.l0 k C t (fullW C t 0) o (p : Int)) (o ++ m, true, 0) ∧ m.all (inC C) = true ∧ (mws C m).flatten = (bs t).drop p ∧ m.length ≤ t.size - p := by
  have hC := v.few
  intro n
  induction n using Nat.strongRecOn with
  | _ n ih =>
    intro p o hn hp hw ho
    by_cases hlt : p < t.size
    · rcases firstI_cases C (okAt (fullW C t 0) t p) with ⟨e, hno⟩ | ⟨i, hi, e, hok, hno⟩
      · obtain ⟨i, hi, h⟩ := way_found v hlt hw
        have := hno i hi
        rw [show C.getD i ByteArray.empty = gt C i from rfl, h] at this; cases this
      · have hok : okAt (fullW C t 0) t p (gt C i) = true := hok
        obtain ⟨hb, hw2⟩ := (ok_iff hp _).1 hok
        have hf := hd_fits hp hb
        have h1 := v.size1 _ (gt_mem hi)
        obtain ⟨m, e1, e2, h3, h4, h5⟩ := ih (t.size - (p + (gt C i).size)) (by omega) (p + (gt C i).size) (o ++ [(i : Int)]) rfl hf hw2 (by rw [List.length_append]; simp; omega)
        have hass : o ++ ((i : Int) :: m) = o ++ [(i : Int)] ++ m := by simp
        have hL := fullW_len C t 0
        refine ⟨(i : Int) :: m, ?_, ?_, ?_, ?_, ?_⟩
        · rw [hass]
          refine Ev.step (fun k => by rw [decF]) (Ev.ifp hlt ?_)
          rw [e, Int.toNat_natCast]
          exact Ev.ifp (by omega) e1
        · rw [hass]
          refine Ev.step (fun k => by rw [wigeonref05_Decode.l0]) (Ev.ifp (by omega) ?_)
          refine rdec_scan hC ht hs12 hp o _ i (by omega) ?_ i 0 (by omega) fun x _ hx => hno x hx
          have e3 : ((p : Int)).toNat = p := Int.toNat_natCast p
          have hq : wrap64 ((p : Int) + ((gt C i).size : Int)) = ((p + (gt C i).size : Nat) : Int) := by rw [w64 (by omega) (by omega)]; omega
          refine Ev.step (fun k => by rw [wigeonref05_Decode.l1, rdOf_gt, e3, begins_eq, hq]) (Ev.ifp (by omega) (Ev.ifp (by omega) (Ev.ifp (by omega) (Ev.ifp (by omega) (Ev.some_bind ?_)))))
          clear hq e3
          refine Ev.ifp hb ?_
          refine Ev.ifp (Int.natCast_nonneg _) ?_
          refine Ev.ifp (Int.ofNat_lt.2 (show p + (gt C i).size < (fullW C t 0).length by rw [hL]; exact Nat.lt_succ_of_le hf)) ?_
          have hrd : ¬ rd (fullW C t 0) ((p + (gt C i).size : Nat) : Int) = 0 := by
            rw [fullW_rd _ _ _ _ hf, if_neg (Nat.not_lt_zero _)]
            exact fun e => hw2 (Int.ofNat_eq_zero.1 e)
          refine Ev.ifn hrd ?_
          exact Ev.ifp (Nat.lt_of_le_of_lt (show o.length ≤ 60 from Nat.le_trans (Nat.le_add_right _ _) ho) (by decide)) e2
        · rw [List.all_cons, h3, Bool.and_true]
          exact inC_iff.2 (by omega)
        · unfold mws at h4 ⊢
          rw [List.map_cons, List.flatten_cons, h4]
          have e4 : rdS C (i : Int) = gt C i := by unfold rdS; rw [Int.toNat_natCast]; rfl
          rw [e4]
          exact drop_word hb
        · rw [List.length_cons]; omega
    · obtain rfl : p = t.size := by omega
      refine ⟨[], ?_, ?_, rfl, ?_, Nat.zero_le _⟩
      · rw [List.append_nil]
        exact Ev.step (fun k => by rw [decF]) (Ev.ifn hlt (Ev.val (by rfl)))
      · rw [List.append_nil]
        exact Ev.step (fun k => by rw [wigeonref05_Decode.l0]) (Ev.ifn (by omega) (Ev.val (by rfl)))
      · rw [List.drop_eq_nil_of_le (by rw [bs_len]; exact Nat.le_refl _)]; rfl
/-- Decode of a text that can be told apart, by both. -/
theorem decode_both {C : List ByteArray} {t : ByteArray} (hS : Sized C) (o : TextOk C t) (hw : wayT C t 0 ≠ 0) : ∃ m, Ev (fun k => whistle_Decode.f k C t) (m, true, 0) ∧ Ev (fun k => wigeonref05_Decode.f k C t) (m, true, 0) ∧ m.all (inC C) = true ∧ soundB C m = t ∧ m.length ≤ t.size := by
  have hx := textP_zero.2 o
  have ht := o.few
  have hC := o.valid.few
  have hp := o.valid.pos
  obtain ⟨m, e1, e2, h3, h4, h5⟩ := dec_run o.valid ht hS.gt (t.size - 0) 0 [] rfl (Nat.zero_le _) hw (by simpa using ht)
  rw [List.nil_append] at e1 e2
  have hL := fullW_len C t 0
  have h0 : ¬ rd (fullW C t 0) 0 = 0 := by rw [full0]; omega
  refine ⟨m, ?_, ?_, h3, bs_inj (by rw [sound_words, h4, List.drop_zero]), by omega⟩
  · unfold whistle_Decode.f
    refine Ev.bind (heard_ev hS t (by omega)) ?_
    rw [hx]
    exact Ev.ifn (by decide) (Ev.bind (counts_ev o) (Ev.ifp (by omega) (Ev.ifn h0 (Ev.ifp (by omega) (Ev.bind e1 (Ev.val (by rfl)))))))
  · unfold wigeonref05_Decode.f
    refine Ev.bind (rtext_ev hS t (by omega)) ?_
    rw [hx]
    exact Ev.ifp rfl (Ev.bind (rcounts_ev o) (Ev.ifp (by omega) (Ev.ifn h0 e2)))

/-! The counts are numbers of messages: none without a message, one alone if the code is safe. -/

theorem term_le_sum {α : Type} (f : α → Nat) : ∀ {l : List α} {x : α}, x ∈ l → f x ≤ (l.map f).sum
  | y :: l, x, h => by
    rw [List.map_cons, List.sum_cons]
    rcases List.mem_cons.1 h with e | h2
    · rw [e]; exact Nat.le_add_right _ _
    · exact Nat.le_trans (term_le_sum f h2) (Nat.le_add_left _ _)
theorem pref_app (x u : List UInt8) : x.isPrefixOf (x ++ u) = true := List.isPrefixOf_iff_prefix.2 ⟨u, rfl⟩
theorem ways_cons {C : List ByteArray} (v : Valid C) {s : ByteArray} (hs : s ∈ C) (u : List UInt8) : ways C u ≤ ways C (bs s ++ u) := by
  have h1 := v.size1 s hs
  have hne : bs s ++ u ≠ [] := fun e => by
    have := congrArg List.length e
    rw [List.length_append, bs_len, List.length_nil] at this
    omega
  rw [ways_step v.size1 hne]
  refine Nat.le_trans (Nat.le_of_eq ?_) (term_le_sum (term C (bs s ++ u)) hs)
  unfold term
  rw [if_pos (pref_app _ _), ← bs_len, List.drop_left]
/-- A text that is a message has a way. -/
theorem ways_msg {C : List ByteArray} (v : Valid C) : ∀ m : List (List UInt8), Msg (wds C) m → 1 ≤ ways C m.flatten
  | [], _ => Nat.le_refl _
  | x :: m, h => by
    obtain ⟨s, hs, rfl⟩ := mem_wds.1 (h x (List.mem_cons_self ..))
    rw [List.flatten_cons]
    exact Nat.le_trans (ways_msg v m h.tail) (ways_cons v hs _)
theorem two_terms {α : Type} (f : α → Nat) : ∀ {l : List α}, 2 ≤ (l.map f).sum → (∃ x, x ∈ l ∧ 2 ≤ f x) ∨ ∃ x y, x ∈ l ∧ y ∈ l ∧ [x, y].Sublist l ∧ 1 ≤ f x ∧ 1 ≤ f y
  | [], h => absurd h (show ¬ 2 ≤ 0 by decide)
  | a :: l, h => by
    rw [List.map_cons, List.sum_cons] at h
    by_cases h2 : 2 ≤ f a
    · exact .inl ⟨a, List.mem_cons_self .., h2⟩
    · by_cases h3 : 2 ≤ (l.map f).sum
      · rcases two_terms f h3 with ⟨x, hx, e⟩ | ⟨x, y, hx, hy, hs, e1, e2⟩
        · exact .inl ⟨x, List.mem_cons_of_mem _ hx, e⟩
        · exact .inr ⟨x, y, List.mem_cons_of_mem _ hx, List.mem_cons_of_mem _ hy, hs.trans (List.sublist_cons_self ..), e1, e2⟩
      · obtain ⟨y, hy, e⟩ := sum_some (f := f) (l := l) (by omega)
        exact .inr ⟨a, y, List.mem_cons_self .., List.mem_cons_of_mem _ hy, List.Sublist.cons_cons _ (List.singleton_sublist.2 hy), by omega, by omega⟩
theorem term_pos {C : List ByteArray} {l : List UInt8} {s : ByteArray} {n : Nat} (hn : 1 ≤ n) (h : n ≤ term C l s) : bs s ++ l.drop s.size = l ∧ n ≤ ways C (l.drop s.size) := by
  unfold term at h
  by_cases hp : (bs s).isPrefixOf l = true
  · rw [if_pos hp] at h
    obtain ⟨u, rfl⟩ := List.isPrefixOf_iff_prefix.1 hp
    refine ⟨?_, h⟩
    rw [← bs_len, List.drop_left]
  · rw [if_neg hp] at h; omega
theorem some_msg {C : List ByteArray} (v : Valid C) : ∀ (n : Nat) (l : List UInt8), l.length = n → 1 ≤ ways C l → ∃ m, Msg (wds C) m ∧ m.flatten = l := by
  intro n
  induction n using Nat.strongRecOn with
  | _ n ih =>
    intro l hl h
    by_cases e : l = []
    · subst e; exact ⟨[], ⟨fun x hx => absurd hx List.not_mem_nil, rfl⟩⟩
    · rw [ways_step v.size1 e] at h
      obtain ⟨s, hs, hf⟩ := sum_some (f := term C l) (l := C) (by omega)
      obtain ⟨h1, h2⟩ := term_pos (n := 1) (Nat.le_refl _) (show 1 ≤ term C l s by omega)
      have hz := v.size1 s hs
      have hlen := congrArg List.length h1
      rw [List.length_append, bs_len] at hlen
      obtain ⟨m, hm, em⟩ := ih (l.drop s.size).length (by omega) _ rfl h2
      refine ⟨bs s :: m, fun x hx => ?_, by rw [List.flatten_cons, em, h1]⟩
      rcases List.mem_cons.1 hx with rfl | hx
      · exact mem_wds.2 ⟨s, hs, rfl⟩
      · exact hm x hx
theorem cons_msg {C : List ByteArray} {s : ByteArray} (hs : s ∈ C) {m : List (List UInt8)} (hm : Msg (wds C) m) : Msg (wds C) (bs s :: m) := fun x hx => by
  rcases List.mem_cons.1 hx with rfl | hx
  · exact mem_wds.2 ⟨s, hs, rfl⟩
  · exact hm x hx
/-- Two ways: two messages of one sound. -/
theorem two_msgs {C : List ByteArray} (v : Valid C) : ∀ (n : Nat) (l : List UInt8), l.length = n → 2 ≤ ways C l → ∃ a b, Msg (wds C) a ∧ Msg (wds C) b ∧ a ≠ b ∧ a.flatten = l ∧ b.flatten = l := by
  intro n
  induction n using Nat.strongRecOn with
  | _ n ih =>
    intro l hl h
    by_cases e : l = []
    · subst e; rw [ways_nil] at h; omega
    · rw [ways_step v.size1 e] at h
      rcases two_terms (term C l) h with ⟨s, hs, h2⟩ | ⟨x, y, hx, hy, hsub, h1, h2⟩
      · obtain ⟨h1, h3⟩ := term_pos (n := 2) (by decide) h2
        have hz := v.size1 s hs
        have hlen := congrArg List.length h1
        rw [List.length_append, bs_len] at hlen
        obtain ⟨a, b, ha, hb, hne, ea, eb⟩ := ih (l.drop s.size).length (by omega) _ rfl h3
        exact ⟨bs s :: a, bs s :: b, cons_msg hs ha, cons_msg hs hb, fun q => hne (List.cons.inj q).2, by rw [List.flatten_cons, ea, h1], by rw [List.flatten_cons, eb, h1]⟩
      · obtain ⟨p1, p2⟩ := term_pos (n := 1) (Nat.le_refl _) h1
        obtain ⟨q1, q2⟩ := term_pos (n := 1) (Nat.le_refl _) h2
        obtain ⟨a, ha, ea⟩ := some_msg v _ _ rfl p2
        obtain ⟨b, hb, eb⟩ := some_msg v _ _ rfl q2
        have hxy : x ≠ y := by
          have := (v.nodup.sublist hsub)
          simpa using this
        exact ⟨bs x :: a, bs y :: b, cons_msg hx ha, cons_msg hy hb, fun q => hxy (bs_inj (List.cons.inj q).1), by rw [List.flatten_cons, ea, p1], by rw [List.flatten_cons, eb, q1]⟩
theorem safe_one {C : List ByteArray} (v : Valid C) (hs : Safe C) (l : List UInt8) : ways C l ≤ 1 := by
  by_cases h : 2 ≤ ways C l
  · obtain ⟨a, b, ha, hb, hne, ea, eb⟩ := two_msgs v _ l rfl h
    exact absurd ⟨a, b, ha, hb, hne, ea.trans eb.symm⟩ ((safe_iff v).1 hs)
  · omega

/-! Two lightest are put together again and again: no lengths with Kraft's sum cost less; Cheapest's lengths are such ones. -/
/-! The cheapest lengths: two lightest are put together again and again. -/
/-- What is whistled if two lightest weights are put together again and again. -/
inductive Huf.Huff : List Nat → Nat → Prop
  | one (a : Nat) : Huf.Huff [a] 0
  | step {l r : List Nat} {a b s : Nat} : l.Perm (a :: b :: r) → (∀ x ∈ b :: r, a ≤ x) → (∀ x ∈ r, b ≤ x) → Huf.Huff ((a + b) :: r) s → Huf.Huff l (s + (a + b))
def Huf.costP (P : List (Nat × Nat)) : Nat := (P.map fun p => p.1 * p.2).sum
def Huf.longP (P : List (Nat × Nat)) : Nat := (P.map fun p => p.2).sum
def Huf.fillP (M : Nat) (P : List (Nat × Nat)) : Nat := (P.map fun p => 2 ^ (M - p.2)).sum
def Huf.KraftP (M : Nat) (P : List (Nat × Nat)) : Prop := (∀ p ∈ P, p.2 ≤ M) ∧ Huf.fillP M P ≤ 2 ^ M
theorem Huf.costP_cons (p : Nat × Nat) (P : List (Nat × Nat)) : Huf.costP (p :: P) = p.1 * p.2 + Huf.costP P := by unfold Huf.costP; rw [List.map_cons, List.sum_cons]
theorem Huf.longP_cons (p : Nat × Nat) (P : List (Nat × Nat)) : Huf.longP (p :: P) = p.2 + Huf.longP P := by unfold Huf.longP; rw [List.map_cons, List.sum_cons]
theorem Huf.fillP_cons (M : Nat) (p : Nat × Nat) (P : List (Nat × Nat)) : Huf.fillP M (p :: P) = 2 ^ (M - p.2) + Huf.fillP M P := by unfold Huf.fillP; rw [List.map_cons, List.sum_cons]
theorem Huf.costP_perm {P Q : List (Nat × Nat)} (h : P.Perm Q) : Huf.costP P = Huf.costP Q := (h.map _).sum_nat
theorem Huf.longP_perm {P Q : List (Nat × Nat)} (h : P.Perm Q) : Huf.longP P = Huf.longP Q := (h.map _).sum_nat
theorem Huf.fillP_perm {M : Nat} {P Q : List (Nat × Nat)} (h : P.Perm Q) : Huf.fillP M P = Huf.fillP M Q := (h.map _).sum_nat
theorem Huf.KraftP.perm {M : Nat} {P Q : List (Nat × Nat)} (hk : Huf.KraftP M P) (h : P.Perm Q) : Huf.KraftP M Q := ⟨fun p hp => hk.1 p (h.mem_iff.2 hp), by rw [← Huf.fillP_perm h]; exact hk.2⟩
theorem Huf.fillP_snd {M : Nat} {P Q : List (Nat × Nat)} (h : (P.map Prod.snd).Perm (Q.map Prod.snd)) : Huf.fillP M P = Huf.fillP M Q := by
  have := (h.map fun k => 2 ^ (M - k)).sum_nat
  rw [List.map_map, List.map_map] at this
  exact this
theorem Huf.fillP_scale {M m : Nat} (P : List (Nat × Nat)) (hm : ∀ p ∈ P, p.2 ≤ m) (h : m ≤ M) : Huf.fillP M P = 2 ^ (M - m) * Huf.fillP m P := by
  induction P with
  | nil => simp [Huf.fillP]
  | cons p P ih =>
    have hp := hm p (List.mem_cons_self ..)
    rw [Huf.fillP_cons, Huf.fillP_cons, ih fun q hq => hm q (List.mem_cons_of_mem _ hq), Nat.mul_add, ← Nat.pow_add, show M - m + (m - p.2) = M - p.2 by omega]
theorem Huf.KraftP.scale {M m : Nat} {P : List (Nat × Nat)} (hk : Huf.KraftP M P) (hm : ∀ p ∈ P, p.2 ≤ m) (h : m ≤ M) : Huf.KraftP m P := by
  refine ⟨hm, ?_⟩
  have h1 := hk.2
  rw [Huf.fillP_scale P hm h, show 2 ^ M = 2 ^ (M - m) * 2 ^ m by rw [← Nat.pow_add]; congr 1; omega] at h1
  exact Nat.le_of_mul_le_mul_left h1 (Nat.pow_pos (by decide))
theorem Huf.fillP_even {m : Nat} (P : List (Nat × Nat)) (hm : ∀ p ∈ P, p.2 < m) : Huf.fillP m P % 2 = 0 := by
  induction P with
  | nil => rfl
  | cons p P ih =>
    have hp := hm p (List.mem_cons_self ..)
    have := ih fun q hq => hm q (List.mem_cons_of_mem _ hq)
    rw [Huf.fillP_cons, show m - p.2 = (m - p.2 - 1) + 1 by omega, Nat.pow_succ]; omega
theorem Huf.max_at : ∀ (P : List (Nat × Nat)), P ≠ [] → ∃ p ∈ P, ∀ q ∈ P, q.2 ≤ p.2
  | [], h => absurd rfl h
  | [p], _ => ⟨p, List.mem_cons_self .., fun q hq => by rw [List.mem_singleton] at hq; subst hq; exact Nat.le_refl _⟩
  | p :: q :: P, _ => by
    obtain ⟨m, hm, hmax⟩ := Huf.max_at (q :: P) (by simp)
    by_cases h : p.2 ≤ m.2
    · refine ⟨m, List.mem_cons_of_mem _ hm, fun x hx => ?_⟩
      rcases List.mem_cons.1 hx with e | e
      · subst e; exact h
      · exact hmax x e
    · refine ⟨p, List.mem_cons_self .., fun x hx => ?_⟩
      rcases List.mem_cons.1 hx with e | e
      · subst e; exact Nat.le_refl _
      · have := hmax x e; omega
theorem Huf.perm_head {β : Type} {x : β} {l : List β} (h : x ∈ l) : ∃ r, l.Perm (x :: r) := by
  obtain ⟨s, t, rfl⟩ := List.append_of_mem h
  exact ⟨s ++ t, List.perm_middle⟩
/-- A lightest weight may have a greatest length. -/
theorem Huf.exch {p : Nat × Nat} {R : List (Nat × Nat)} {a : Nat} (ha : a ∈ (p :: R).map Prod.fst) (hmin : ∀ x ∈ (p :: R).map Prod.fst, a ≤ x) (hmax : ∀ q ∈ R, q.2 ≤ p.2) :
    ∃ R', ((p :: R).map Prod.fst).Perm (a :: R'.map Prod.fst) ∧ (R'.map Prod.snd).Perm (R.map Prod.snd) ∧ Huf.costP ((a, p.2) :: R') ≤ Huf.costP (p :: R) := by
  by_cases e : p.1 = a
  · refine ⟨R, by rw [List.map_cons, e], List.Perm.refl _, ?_⟩
    rw [Huf.costP_cons, Huf.costP_cons, e]
    exact Nat.le_refl _
  · rw [List.map_cons] at ha
    rcases List.mem_cons.1 ha with h | h
    · exact absurd h.symm e
    · obtain ⟨q, hq, rfl⟩ := List.mem_map.1 h
      obtain ⟨R2, hp⟩ := Huf.perm_head hq
      refine ⟨(p.1, q.2) :: R2, ?_, ?_, ?_⟩
      · rw [List.map_cons, List.map_cons]
        exact ((hp.map Prod.fst).cons p.1).trans (List.Perm.swap _ _ _)
      · rw [List.map_cons]
        exact (hp.map Prod.snd).symm
      · rw [Huf.costP_cons, Huf.costP_cons, Huf.costP_cons, Huf.costP_perm hp, Huf.costP_cons]
        have h1 := hmin p.1 (by simp)
        have h2 := hmax q hq
        obtain ⟨d, hd⟩ := Nat.le.dest h1
        obtain ⟨f, hf⟩ := Nat.le.dest h2
        have e1 : q.1 * p.2 = q.1 * q.2 + q.1 * f := by rw [← hf, Nat.mul_add]
        have e2 : p.1 * p.2 = p.1 * q.2 + p.1 * f := by rw [← hf, Nat.mul_add]
        have h3 : q.1 * f ≤ p.1 * f := Nat.mul_le_mul_right _ h1
        show q.1 * p.2 + (p.1 * q.2 + Huf.costP R2) ≤ p.1 * p.2 + (q.1 * q.2 + Huf.costP R2)
        omega
theorem Huf.huff_le {l : List Nat} {s : Nat} (h : Huf.Huff l s) : ∀ (P : List (Nat × Nat)) (M : Nat), (P.map Prod.fst).Perm l → Huf.KraftP M P → s ≤ Huf.costP P := by
  induction h with
  | one a => intro P M _ _; exact Nat.zero_le _
  | @step l r a b s hl ha hb _ ih =>
    suffices H : ∀ (n : Nat) (P : List (Nat × Nat)) (M : Nat), Huf.longP P ≤ n → (P.map Prod.fst).Perm l → Huf.KraftP M P → s + (a + b) ≤ Huf.costP P from fun P M => H _ P M (Nat.le_refl _)
    intro n
    induction n with
    | zero =>
      intro P M hn hp hk
      exfalso
      have hlen : 2 ≤ P.length := by rw [← List.length_map (f := Prod.fst), (hp.trans hl).length_eq]; simp
      match P, hlen with
      | p :: q :: P, _ =>
        rw [Huf.longP_cons, Huf.longP_cons] at hn
        have := hk.2
        rw [Huf.fillP_cons, Huf.fillP_cons, show p.2 = 0 by omega, show q.2 = 0 by omega, Nat.sub_zero] at this
        have := Nat.pow_pos (n := M) (show 0 < 2 by decide)
        omega
    | succ n ihn =>
      intro P M hn hp hk
      have hlen : 2 ≤ P.length := by rw [← List.length_map (f := Prod.fst), (hp.trans hl).length_eq]; simp
      have hPn : P ≠ [] := by intro e; rw [e] at hlen; simp at hlen
      obtain ⟨p, hpm, hmax⟩ := Huf.max_at P hPn
      obtain ⟨Q, hQ⟩ := Huf.perm_head hpm
      have hk := (hk.scale hmax (hk.1 p hpm)).perm hQ
      have hmaxQ : ∀ q ∈ Q, q.2 ≤ p.2 := fun q hq => hk.1 q (List.mem_cons_of_mem _ hq)
      rw [Huf.costP_perm hQ]
      rw [Huf.longP_perm hQ, Huf.longP_cons] at hn
      have hp := ((hQ.map Prod.fst).symm.trans hp).trans hl
      have hQl : 1 ≤ Q.length := by have := hQ.length_eq; rw [List.length_cons] at this; omega
      have hpos : 1 ≤ p.2 := by
        apply Classical.byContradiction
        intro h0
        match Q, hQl, hk with
        | q :: Q, _, hk =>
          have := hk.2
          rw [Huf.fillP_cons, Huf.fillP_cons, show p.2 = 0 by omega] at this
          have := Nat.pow_pos (n := 0 - q.2) (show 0 < 2 by decide)
          simp at *
          omega
      by_cases hq : ∃ q ∈ Q, q.2 = p.2
      · obtain ⟨R, hR1, hR2, hR3⟩ := Huf.exch (p := p) (R := Q) (a := a) (hp.mem_iff.2 (by simp)) (fun x hx => by
          rcases List.mem_cons.1 (hp.mem_iff.1 hx) with e | e
          · omega
          · exact ha x e) hmaxQ
        have hw1 : (R.map Prod.fst).Perm (b :: r) := (hR1.symm.trans hp).cons_inv
        have hmem : p.2 ∈ R.map Prod.snd := by
          obtain ⟨q, hq, e⟩ := hq
          exact hR2.mem_iff.2 (List.mem_map.2 ⟨q, hq, e⟩)
        obtain ⟨q2, hq2, e2⟩ := List.mem_map.1 hmem
        obtain ⟨R2, hR4⟩ := Huf.perm_head hq2
        have hmax2 : ∀ q ∈ R, q.2 ≤ p.2 := fun q hq => by
          have := hR2.mem_iff.1 (List.mem_map.2 ⟨q, hq, rfl⟩)
          obtain ⟨q3, hq3, e3⟩ := List.mem_map.1 this
          rw [← e3]; exact hmaxQ q3 hq3
        have hw2 := (hR4.map Prod.fst).symm.trans hw1
        obtain ⟨R3, hR5, hR6, hR7⟩ := Huf.exch (p := q2) (R := R2) (a := b) (hw2.mem_iff.2 (by simp)) (fun x hx => by
          rcases List.mem_cons.1 (hw2.mem_iff.1 hx) with e | e
          · omega
          · exact hb x e) (fun q hq => by rw [e2]; exact hmax2 q (hR4.mem_iff.2 (List.mem_cons_of_mem _ hq)))
        have hw3 : (R3.map Prod.fst).Perm r := (hR5.symm.trans hw2).cons_inv
        have hf : Huf.fillP p.2 (p :: Q) = 2 + Huf.fillP p.2 R3 := by
          have e1 := Huf.fillP_snd (M := p.2) hR2
          rw [Huf.fillP_perm hR4, Huf.fillP_cons, e2] at e1
          rw [Huf.fillP_cons, ← e1, ← Huf.fillP_snd hR6]
          simp
          omega
        have hc := hR3
        rw [Huf.costP_cons, Huf.costP_perm hR4] at hc
        rw [Huf.costP_cons, e2] at hR7
        have := ih ((a + b, p.2 - 1) :: R3) p.2 (by rw [List.map_cons]; exact hw3.cons _) ⟨fun x hx => ?_, ?_⟩
        · rw [Huf.costP_cons] at this
          simp only at this hc hR7
          obtain ⟨k, hk⟩ : ∃ k, p.2 = k + 1 := ⟨p.2 - 1, by omega⟩
          rw [hk] at this hc hR7
          rw [Nat.add_sub_cancel, Nat.add_mul] at this
          rw [Nat.mul_add, Nat.mul_one] at hc hR7
          omega
        · rcases List.mem_cons.1 hx with e | e
          · rw [e]; exact Nat.sub_le _ _
          · obtain ⟨q3, hq3, e3⟩ := List.mem_map.1 (hR6.mem_iff.1 (List.mem_map.2 ⟨x, e, rfl⟩))
            rw [← e3]; exact hmax2 q3 (hR4.mem_iff.2 (List.mem_cons_of_mem _ hq3))
        · have h2 := hk.2
          rw [hf] at h2
          rw [Huf.fillP_cons, show p.2 - (p.2 - 1) = 1 by omega]
          exact h2
      · have hlt : ∀ q ∈ Q, q.2 < p.2 := fun q hq2 => by
          have := hmaxQ q hq2
          have : q.2 ≠ p.2 := fun e => hq ⟨q, hq2, e⟩
          omega
        have hev := Huf.fillP_even Q hlt
        have h2 := hk.2
        rw [Huf.fillP_cons, Nat.sub_self, Nat.pow_zero] at h2
        have := ihn ((p.1, p.2 - 1) :: Q) p.2 (by rw [Huf.longP_cons]; simp only; omega) (by rw [List.map_cons]; rw [List.map_cons] at hp; exact hp.trans hl.symm) ⟨fun x hx => ?_, ?_⟩
        · rw [Huf.costP_cons] at this ⊢
          have h3 : p.1 * (p.2 - 1) ≤ p.1 * p.2 := Nat.mul_le_mul_left _ (Nat.sub_le _ _)
          simp only at this
          omega
        · rcases List.mem_cons.1 hx with e | e
          · rw [e]; exact Nat.sub_le _ _
          · exact hmaxQ x e
        · rw [Huf.fillP_cons, show p.2 - (p.2 - 1) = 1 by omega]
          obtain ⟨k, hk2⟩ : ∃ k, p.2 = k + 1 := ⟨p.2 - 1, by omega⟩
          rw [hk2, Nat.pow_succ] at h2 ⊢
          rw [hk2] at hev
          omega
/-! The cheapest lengths are a code's, and cost what the sum of the joined weights is. -/
/-- What is left of it when an order is changed. -/
theorem Huf.Huff.perm {l l' : List Nat} {s : Nat} (h : Huf.Huff l s) (hp : l.Perm l') : Huf.Huff l' s := by
  cases h with
  | one a =>
    obtain rfl := List.perm_singleton.1 hp.symm
    exact .one a
  | step h1 h2 h3 h4 => exact .step (hp.symm.trans h1) h2 h3 h4
def costF (ws : Nat → Nat) (l : List Nat) (S : List Nat) : Nat := (S.map fun i => ws i * l.getD i 0).sum
structure Full (ws : Nat → Nat) (n : Nat) (o : List Br) (l : List Nat) : Prop where
  good : Q.Good n o l
  wsum : ∀ b ∈ o, b.1 = (b.2.map ws).sum
  kraft : ∀ b ∈ o, (b.2.map fun i => 2 ^ (12 - l.getD i 0)).sum = 4096
  deep : ∀ b ∈ o, ∀ i ∈ b.2, l.getD i 0 + 1 ≤ b.2.length
theorem costF_perm {ws : Nat → Nat} {l S T : List Nat} (h : S.Perm T) : costF ws l S = costF ws l T := (h.map _).sum_nat
theorem costF_app (ws : Nat → Nat) (l S T : List Nat) : costF ws l (S ++ T) = costF ws l S + costF ws l T := by unfold costF; rw [List.map_append, List.sum_append]
theorem costF_up (ws : Nat → Nat) (l l' : List Nat) : ∀ S : List Nat, (∀ i ∈ S, l'.getD i 0 = l.getD i 0 + 1) → costF ws l' S = costF ws l S + (S.map ws).sum
  | [], _ => rfl
  | i :: S, h => by
    have h1 := costF_up ws l l' S fun j hj => h j (List.mem_cons_of_mem _ hj)
    unfold costF at *
    rw [List.map_cons, List.map_cons, List.map_cons, List.sum_cons, List.sum_cons, List.sum_cons, h1, h i (List.mem_cons_self ..), Nat.mul_add, Nat.mul_one]; omega
theorem costF_same (ws : Nat → Nat) (l l' : List Nat) (S : List Nat) (h : ∀ i ∈ S, l'.getD i 0 = l.getD i 0) : costF ws l' S = costF ws l S := by
  unfold costF
  rw [List.map_congr_left (fun i hi => by rw [h i hi])]
theorem kraft_up (l l' : List Nat) : ∀ S : List Nat, (∀ i ∈ S, l'.getD i 0 = l.getD i 0 + 1) → (∀ i ∈ S, l.getD i 0 ≤ 11) → 2 * (S.map fun i => 2 ^ (12 - l'.getD i 0)).sum = (S.map fun i => 2 ^ (12 - l.getD i 0)).sum
  | [], _, _ => rfl
  | i :: S, h, hd => by
    have h1 := kraft_up l l' S (fun j hj => h j (List.mem_cons_of_mem _ hj)) (fun j hj => hd j (List.mem_cons_of_mem _ hj))
    have h2 := hd i (List.mem_cons_self ..)
    rw [List.map_cons, List.map_cons, List.sum_cons, List.sum_cons, h i (List.mem_cons_self ..), Nat.mul_add, h1, show 12 - l.getD i 0 = (12 - (l.getD i 0 + 1)) + 1 by omega, Nat.pow_succ]
    omega
theorem Full.perm {ws : Nat → Nat} {n : Nat} {o o' : List Br} {l : List Nat} (h : Full ws n o l) (hp : o.Perm o') : Full ws n o' l where
  good := h.good.perm hp
  wsum := fun b hb => h.wsum b (hp.mem_iff.2 hb)
  kraft := fun b hb => h.kraft b (hp.mem_iff.2 hb)
  deep := fun b hb => h.deep b (hp.mem_iff.2 hb)
theorem Full.two {ws : Nat → Nat} {n : Nat} {a b : Br} {r : List Br} {l : List Nat} (h : Full ws n (a :: b :: r) l) (hn : n ≤ 12) :
    Full ws n (joinB a b :: r) (bump l (joinB a b).2) ∧ costF ws (bump l (joinB a b).2) (List.range n) = costF ws l (List.range n) + (joinB a b).1 := by
  obtain ⟨hg, hnd, hlt, hdis⟩ := h.good.join
  have hget := fun j => bump_get (joinB a b).2 l j hnd (fun i hi => by rw [h.good.len]; exact hlt i hi)
  have hup : ∀ i ∈ (joinB a b).2, (bump l (joinB a b).2).getD i 0 = l.getD i 0 + 1 := fun i hi => by rw [hget, if_pos hi]
  have hst : ∀ x ∈ r, ∀ i ∈ x.2, (bump l (joinB a b).2).getD i 0 = l.getD i 0 := fun x hx i hi => by rw [hget, if_neg (hdis x hx i hi)]; rfl
  have hwj : (joinB a b).1 = ((joinB a b).2.map ws).sum := by
    show a.1 + b.1 = ((a.2 ++ b.2).map ws).sum
    rw [List.map_append, List.sum_append, h.wsum a (by simp), h.wsum b (by simp)]
  have hlen : ∀ x ∈ a :: b :: r, x.2.length ≤ n := fun x hx => by
    have h1 : ((a :: b :: r).flatMap fun b => b.2).length = n := by rw [h.good.part.length_eq, List.length_range]
    obtain ⟨r', hr'⟩ := Huf.perm_head hx
    have h2 := ((hr'.flatMap_right fun b : Br => b.2).length_eq)
    rw [h1, List.flatMap_cons, List.length_append] at h2
    omega
  have hsmall : ∀ i ∈ (joinB a b).2, l.getD i 0 ≤ 11 := fun i hi => by
    rcases List.mem_append.1 (show i ∈ a.2 ++ b.2 from hi) with hi | hi
    · have := h.deep a (by simp) i hi
      have := hlen a (by simp); omega
    · have := h.deep b (by simp) i hi
      have := hlen b (by simp); omega
  refine ⟨⟨hg, fun x hx => ?_, fun x hx => ?_, fun x hx i hi => ?_⟩, ?_⟩
  · rcases List.mem_cons.1 hx with rfl | hx
    · exact hwj
    · exact h.wsum x (by simp [hx])
  · rcases List.mem_cons.1 hx with rfl | hx
    · have h1 := kraft_up l (bump l (joinB a b).2) (joinB a b).2 hup hsmall
      have h2 : ((joinB a b).2.map fun i => 2 ^ (12 - l.getD i 0)).sum = 8192 := by
        show ((a.2 ++ b.2).map _).sum = _
        rw [List.map_append, List.sum_append, h.kraft a (by simp), h.kraft b (by simp)]
      omega
    · rw [List.map_congr_left (g := fun i => 2 ^ (12 - l.getD i 0)) (fun i hi => by rw [hst x hx i hi])]
      exact h.kraft x (by simp [hx])
  · rcases List.mem_cons.1 hx with rfl | hx
    · rw [hup i hi, show (joinB a b).2 = a.2 ++ b.2 from rfl, List.length_append]
      have ha : 0 < a.2.length := List.length_pos_iff.2 (h.good.ne a (by simp))
      have hb : 0 < b.2.length := List.length_pos_iff.2 (h.good.ne b (by simp))
      rcases List.mem_append.1 (show i ∈ a.2 ++ b.2 from hi) with hi | hi
      · have := h.deep a (by simp) i hi; omega
      · have := h.deep b (by simp) i hi; omega
    · rw [hst x hx i hi]
      exact h.deep x (by simp [hx]) i hi
  · have hp : (List.range n).Perm ((joinB a b).2 ++ (r.flatMap fun b => b.2)) := by
      have := hg.part
      rw [List.flatMap_cons] at this
      exact this.symm
    rw [costF_perm hp, costF_perm hp, costF_app, costF_app, costF_up ws l _ _ hup, costF_same ws l _ (r.flatMap fun b => b.2) (fun i hi => by obtain ⟨x, hx, hi⟩ := List.mem_flatMap.1 hi; exact hst x hx i hi), hwj]
    omega
theorem cheap_go (ws : Nat → Nat) (n : Nat) (hn : n ≤ 12) : ∀ (k : Nat) (o : List Br) (l : List Nat), Full ws n o l → o.length = k → 0 < k →
    ∃ s b, Huf.Huff (o.map fun b => b.1) s ∧ Full ws n [b] (cheapRun k o l) ∧ costF ws (cheapRun k o l) (List.range n) = costF ws l (List.range n) + s := by
  intro k
  induction k with
  | zero => intro o l _ _ h; omega
  | succ k ih =>
    intro o l hF hk _
    unfold cheapRun
    by_cases h1 : o.length ≤ 1
    · rw [if_pos h1]
      match o, hk, hF with
      | [b], _, hF => exact ⟨0, b, .one _, hF, rfl⟩
      | b :: c :: o, _, _ => simp at h1
    · rw [if_neg h1]
      have h2 : 2 ≤ o.length := by omega
      obtain ⟨a, b, r, -, e1, e2, hp, m1, m2⟩ := sortB_cases h2
      have hl := stepO_len h2
      obtain ⟨hF2, hc⟩ := (hF.perm hp).two hn
      have hp2 : (joinB a b :: r).Perm (stepO o) := by rw [e2]; exact List.perm_append_comm (l₁ := [joinB a b]) (l₂ := r)
      rw [e1]
      obtain ⟨s, c, g1, g2, g3⟩ := ih (stepO o) (bump l (joinB a b).2) (hF2.perm hp2) (by omega) (by omega)
      refine ⟨s + (a.1 + b.1), c, ?_, g2, by rw [g3, hc]; show _ + (a.1 + b.1) + s = _; omega⟩
      refine .step (r := r.map fun b => b.1) (hp.map _) (fun x hx => ?_) (fun x hx => ?_) (g1.perm (hp2.symm.map _))
      · obtain ⟨y, hy, rfl⟩ := List.mem_map.1 (show x ∈ (b :: r).map fun b => b.1 from hx)
        exact m1 y hy
      · obtain ⟨y, hy, rfl⟩ := List.mem_map.1 hx
        exact m2 y hy
theorem list_range {l : List Nat} {n : Nat} (h : l.length = n) : (List.range n).map (fun i => l.getD i 0) = l := by
  apply List.ext_getElem
  · simp [h]
  · intro i h1 h2
    simp only [List.getElem_map, List.getElem_range]
    rw [List.getD_eq_getElem?_getD, List.getElem?_eq_getElem h2]; rfl
def natL (l : List Nat) : List Int := l.map fun n : Nat => (n : Int)
theorem natL_len (l : List Nat) : (natL l).length = l.length := by unfold natL; rw [List.length_map]
theorem fillN_nat (l : List Nat) : fillN (natL l) = (l.map fun x => 2 ^ (12 - x)).sum := by
  unfold fillN natL
  rw [List.map_map]; rfl
theorem sum_ge {S : List Nat} (f : Nat → Nat) : ∀ {S : List Nat} {i j : Nat}, i ∈ S → j ∈ S → i ≠ j → f i + f j ≤ (S.map f).sum := by
  intro S
  have one : ∀ (S : List Nat) (i : Nat), i ∈ S → f i ≤ (S.map f).sum := by
    intro S
    induction S with
    | nil => intro i h; cases h
    | cons x S ih =>
      intro i h
      rw [List.map_cons, List.sum_cons]
      rcases List.mem_cons.1 h with rfl | h
      · omega
      · have := ih i h; omega
  induction S with
  | nil => intro i j h; cases h
  | cons x S ih =>
    intro i j hi hj hne
    rw [List.map_cons, List.sum_cons]
    rcases List.mem_cons.1 hi with rfl | hi
    · rcases List.mem_cons.1 hj with rfl | hj
      · exact absurd rfl hne
      · have := one S j hj; omega
    · rcases List.mem_cons.1 hj with rfl | hj
      · have h5 : f i ≤ (S.map f).sum := one S i (by assumption)
        omega
      · have := ih hi hj hne; omega
def wN (ws : List Int) (i : Nat) : Nat := (rd ws (i : Int)).toNat
theorem startB_w (ws : List Int) : (startB ws).map (fun b => b.1) = ws.map Int.toNat := by
  unfold startB
  rw [List.map_map]
  apply List.ext_getElem
  · simp
  · intro i h1 h2
    simp only [List.getElem_map, List.getElem_range, Function.comp]
    have h3 : i < ws.length := by simpa using h2
    unfold rd
    rw [Int.toNat_natCast, List.getD_eq_getElem?_getD, List.getElem?_eq_getElem h3]; rfl
theorem cheap_full {ws : List Int} (hw : ∀ i : Int, 0 ≤ i → i < (ws.length : Int) → 0 ≤ rd ws i ∧ rd ws i ≤ 1000) (h2 : 2 ≤ ws.length) : Full (wN ws) ws.length (startB ws) (firstL ws.length) := by
  have hm : ∀ b ∈ startB ws, ∃ i, i < ws.length ∧ b = ((rd ws (i : Int)).toNat, [i]) := fun b hb => by
    obtain ⟨i, hi, rfl⟩ := List.mem_map.1 hb
    exact ⟨i, List.mem_range.1 hi, rfl⟩
  have hz : ∀ i, (firstL ws.length).getD i 0 = 0 := fun i => by
    unfold firstL
    rw [if_neg (by omega), List.getD_eq_getElem?_getD, List.getElem?_replicate]; split <;> rfl
  refine ⟨Q.Good.start hw, fun b hb => ?_, fun b hb => ?_, fun b hb i hi => ?_⟩
  · obtain ⟨i, hi, rfl⟩ := hm b hb
    simp [wN]
  · obtain ⟨i, hi, rfl⟩ := hm b hb
    show 2 ^ (12 - (firstL ws.length).getD i 0) + 0 = 4096
    rw [hz]; rfl
  · obtain ⟨j, hj, rfl⟩ := hm b hb
    rw [hz]
    exact Nat.le_refl _
/-- The cheapest lengths. -/
theorem cheap_has {ws : List Int} (hw : ∀ i : Int, 0 ≤ i → i < (ws.length : Int) → 0 ≤ rd ws i ∧ rd ws i ≤ 1000) (h2 : 2 ≤ ws.length) (h12 : ws.length ≤ 12) :
    ∃ s, Huf.Huff (ws.map Int.toNat) s ∧ (cheapL ws).length = ws.length ∧ costF (wN ws) (cheapL ws) (List.range ws.length) = s ∧ fillN (natL (cheapL ws)) = 4096 ∧ ∀ x ∈ cheapL ws, 1 ≤ x ∧ x ≤ 12 := by
  have hst : (startB ws).length = ws.length := by unfold startB; simp
  obtain ⟨s, b, g1, g2, g3⟩ := cheap_go (wN ws) ws.length h12 ws.length (startB ws) (firstL ws.length) (cheap_full hw h2) hst (by omega)
  rw [startB_w] at g1
  have g2 : Full (wN ws) ws.length [b] (cheapL ws) := g2
  have hz : costF (wN ws) (firstL ws.length) (List.range ws.length) = 0 := by
    have : ∀ S : List Nat, costF (wN ws) (firstL ws.length) S = 0 := fun S => by
      induction S with
      | nil => rfl
      | cons i S ih =>
        unfold costF at ih ⊢
        rw [List.map_cons, List.sum_cons, ih]
        unfold firstL
        rw [if_neg (by omega), List.getD_eq_getElem?_getD, List.getElem?_replicate]; split <;> simp
    exact this _
  have hlen := g2.good.len
  have hperm : b.2.Perm (List.range ws.length) := by
    have := g2.good.part
    simpa using this
  have hk := g2.kraft b (List.mem_singleton.2 rfl)
  have hfill : fillN (natL (cheapL ws)) = 4096 := by
    rw [fillN_nat, ← hk, (hperm.map _).sum_nat]
    conv => lhs; rw [← list_range hlen]
    rw [List.map_map]; rfl
  refine ⟨s, g1, hlen, by rw [show cheapL ws = cheapRun ws.length (startB ws) (firstL ws.length) from rfl, g3, hz]; omega, hfill, fun x hx => ?_⟩
  obtain ⟨i, hi, rfl⟩ := List.getElem_of_mem hx
  have hib : i ∈ b.2 := hperm.mem_iff.2 (List.mem_range.2 (by omega))
  have hgi : (cheapL ws).getD i 0 = (cheapL ws)[i] := by rw [List.getD_eq_getElem?_getD, List.getElem?_eq_getElem hi]; rfl
  have hd := g2.deep b (List.mem_singleton.2 rfl) i hib
  have hbl : b.2.length = ws.length := by rw [hperm.length_eq, List.length_range]
  rw [hgi] at hd
  refine ⟨?_, by omega⟩
  refine Nat.pos_of_ne_zero fun h0 => ?_
  obtain ⟨j, hj, hne⟩ : ∃ j, j < ws.length ∧ i ≠ j := by
    by_cases e : i = 0
    · exact ⟨1, by omega, by omega⟩
    · exact ⟨0, by omega, e⟩
  have hjb : j ∈ b.2 := hperm.mem_iff.2 (List.mem_range.2 hj)
  have h3 := sum_ge (S := b.2) (fun i => 2 ^ (12 - (cheapL ws).getD i 0)) hib hjb hne
  rw [hk] at h3
  simp only [hgi, h0] at h3
  have h4 : 0 < 2 ^ (12 - (cheapL ws).getD j 0) := Nat.pow_pos (by decide)
  omega
theorem cheap_one {ws : List Int} (h1 : ws.length = 1) : cheapL ws = [1] := by
  unfold cheapL firstL
  rw [h1, if_pos rfl]
  unfold cheapRun startB
  rw [h1]; rfl

/-! Costs, and the smallest one, by both. -/

def wOk (ws : List Int) : Bool := oneTo 0 1000 ws
structure Wts (ws : List Int) : Prop where
  pos : 0 < ws.length
  le : ws.length ≤ 12
  at_ : ∀ i : Int, 0 ≤ i → i < (ws.length : Int) → 0 ≤ rd ws i ∧ rd ws i ≤ 1000
theorem wOk_iff {ws : List Int} (h : wOk ws = true) : Wts ws := by
  obtain ⟨h1, h2, h3⟩ := oneTo_parts h
  exact ⟨h1, h2, h3⟩
/-- The sum of products, from a place on. -/
def dotF (ws L : List Int) : Nat → Nat → Int
  | _, 0 => 0
  | i, d + 1 => rd ws (i : Int) * rd L (i : Int) + dotF ws L (i + 1) d
theorem rd_natL (l : List Nat) (i : Nat) : rd (natL l) (i : Int) = (l.getD i 0 : Nat) := by
  unfold rd natL
  rw [Int.toNat_natCast, List.getD_eq_getElem?_getD, List.getElem?_map, List.getD_eq_getElem?_getD]
  cases l[i]? <;> rfl
theorem dot_cost {ws : List Int} (h : Wts ws) (l : List Nat) (d : Nat) : ∀ i, i + d ≤ ws.length → dotF ws (natL l) i d = ((costF (wN ws) l (List.range' i d) : Nat) : Int) := by
  induction d with
  | zero => intro i _; rfl
  | succ d ih =>
    intro i hi
    have hw := (h.at_ (i : Int) (by omega) (by omega)).1
    unfold dotF
    rw [ih (i + 1) (by omega), rd_natL]
    unfold costF
    rw [List.range'_succ, List.map_cons, List.sum_cons, Int.natCast_add, Int.natCast_mul]
    congr 2
    unfold wN
    omega
theorem prod_small {a b : Int} (h0 : 0 ≤ a) (h1 : a ≤ 1000) (h2 : 0 ≤ b) (h3 : b ≤ 1000) : 0 ≤ a * b ∧ a * b ≤ 1000000 := by
  refine ⟨Int.mul_nonneg h0 h2, ?_⟩
  have := Int.mul_le_mul h1 h3 h2 (by omega)
  omega
theorem cost_at {ws L : List Int} (h : Wts ws) (hl : L.length = ws.length) (hL : ∀ i : Int, 0 ≤ i → i < (ws.length : Int) → 0 ≤ rd L i ∧ rd L i ≤ 1000) (d : Nat) :
    ∀ (i : Nat) (acc : Int), i + d = ws.length → 0 ≤ acc → acc ≤ 1000000 * i → Ev (fun k => whistle_cost.l0 k L acc ws (ws.length : Int) (i : Int)) (acc + dotF ws L i d) := by
  have h12 := h.le
  induction d with
  | zero =>
    intro i acc hi h0 h1
    exact Ev.step (fun k => by rw [whistle_cost.l0]) (Ev.ifn (by omega) (Ev.val (by unfold dotF; omega)))
  | succ d ih =>
    intro i acc hi h0 h1
    obtain ⟨a1, a2⟩ := h.at_ (i : Int) (by omega) (by omega)
    obtain ⟨b1, b2⟩ := hL (i : Int) (by omega) (by omega)
    obtain ⟨p1, p2⟩ := prod_small a1 a2 b1 b2
    have q := ih (i + 1) (acc + rd ws (i : Int) * rd L (i : Int)) (by omega) (by omega) (by omega)
    have e1 : wrap64 (rd ws (i : Int) * rd L (i : Int)) = rd ws (i : Int) * rd L (i : Int) := w64 (by omega) (by omega)
    have e2 : wrap64 (acc + rd ws (i : Int) * rd L (i : Int)) = acc + rd ws (i : Int) * rd L (i : Int) := by clear e1 q ih; exact w64 (by omega) (by omega)
    have e3 : acc + dotF ws L i (d + 1) = (acc + rd ws (i : Int) * rd L (i : Int)) + dotF ws L (i + 1) d := by
      clear e1 e2 q ih
      conv => lhs; unfold dotF
      omega
    rw [e3]
    refine Ev.step (fun k => by rw [whistle_cost.l0, e1, e2, w64s (show i < 1000000000000000000 by omega)]) (Ev.ifp (by omega) (Ev.ifp (by omega) (Ev.ifp (by omega) (Ev.ifp (by omega) ?_))))
    exact q
theorem cost_ev {ws L : List Int} (h : Wts ws) (hl : L.length = ws.length) (hL : ∀ i : Int, 0 ≤ i → i < (ws.length : Int) → 0 ≤ rd L i ∧ rd L i ≤ 1000) : Ev (fun k => whistle_cost.f k ws L) (dotF ws L 0 ws.length) := by
  have := cost_at h hl hL ws.length 0 0 (by omega) (Int.le_refl _) (by omega)
  rw [Int.zero_add] at this
  exact this
/-- What Cheapest's cost is. -/
def cheapC (ws : List Int) : Int := dotF ws (natL (cheapL ws)) 0 ws.length
theorem cheapL_ok {ws : List Int} (h : Wts ws) : (cheapL ws).length = ws.length ∧ (∀ x ∈ cheapL ws, 1 ≤ x ∧ x ≤ 12) ∧ fillN (natL (cheapL ws)) ≤ 4096 := by
  by_cases h1 : ws.length = 1
  · rw [cheap_one h1]
    exact ⟨h1.symm, fun x hx => by obtain rfl := List.mem_singleton.1 hx; omega, by decide⟩
  · obtain ⟨s, -, g2, -, g4, g5⟩ := cheap_has h.at_ (by have := h.pos; omega) h.le
    exact ⟨g2, g5, Nat.le_of_eq g4⟩
theorem cheap_small {ws : List Int} (h : Wts ws) (i : Int) (h0 : 0 ≤ i) (h1 : i < (ws.length : Int)) : 0 ≤ rd (natL (cheapL ws)) i ∧ rd (natL (cheapL ws)) i ≤ 1000 := by
  obtain ⟨a1, a2, -⟩ := cheapL_ok h
  obtain ⟨n, rfl⟩ : ∃ n : Nat, i = (n : Int) := ⟨i.toNat, by omega⟩
  rw [rd_natL]
  have hn : n < (cheapL ws).length := by omega
  have := a2 _ (List.getElem_mem hn)
  have e : (cheapL ws).getD n 0 = (cheapL ws)[n] := by rw [List.getD_eq_getElem?_getD, List.getElem?_eq_getElem hn]; rfl
  omega
theorem cheap_ev {ws : List Int} (hw : wOk ws = true) : Ev (fun k => whistle_Cheapest.f k ws) (natL (cheapL ws), cheapC ws, 0) := by
  have h := wOk_iff hw
  unfold whistle_Cheapest.f
  refine Ev.ifp hw ?_
  have hc := cost_ev h (L := natL (cheapL ws)) (by rw [natL_len]; exact (cheapL_ok h).1) (cheap_small h)
  obtain ⟨K, hK⟩ := hc
  exact ⟨K, fun k hk => by
    have this : whistle_cost.f k ws (natL (cheapL ws)) = some (dotF ws (natL (cheapL ws)) 0 ws.length) := hK k hk
    show (whistle_cost.f k ws (natL (cheapL ws))).map _ = _
    rw [this]; rfl⟩
theorem cheap_none {ws : List Int} (hw : wOk ws = false) : Ev (fun k => whistle_Cheapest.f k ws) ([], 0, 1) := by
  unfold whistle_Cheapest.f
  exact Ev.ifn (by rw [show oneTo 0 1000 ws = wOk ws from rfl, hw]; decide) (Ev.now _)
theorem range0 (n : Nat) : List.range n = List.range' 0 n := List.range_eq_range'
/-- It is the sum of the joined weights. -/
theorem cheap_cost {ws : List Int} (h : Wts ws) (h2 : 2 ≤ ws.length) : ∃ s, Huf.Huff (ws.map Int.toNat) s ∧ cheapC ws = (s : Int) := by
  obtain ⟨s, g1, -, g3, -, -⟩ := cheap_has h.at_ h2 h.le
  refine ⟨s, g1, ?_⟩
  unfold cheapC
  rw [dot_cost h _ _ 0 (by omega), ← range0, g3]
theorem cheap_cost1 {ws : List Int} (h1 : ws.length = 1) : cheapC ws = rd ws 0 := by
  unfold cheapC
  rw [cheap_one h1, h1]
  unfold dotF dotF
  rw [rd_natL]
  show rd ws 0 * 1 + 0 = _
  omega
/-- The costs of a code. -/
def costV (ws : List Int) (C : List ByteArray) : Int × Int := if valP C ≠ 0 then (0, valP C) else if wOk ws = true ∧ ws.length = C.length then (dotF ws (lensC C) 0 ws.length, 0) else (0, 1)
theorem rd_lens (C : List ByteArray) (i : Nat) (h : i < C.length) : rd (lensC C) (i : Int) = ((gt C i).size : Int) := by
  unfold rd lensC gt
  rw [Int.toNat_natCast, List.getD_eq_getElem?_getD, List.getElem?_map, List.getD_eq_getElem?_getD, List.getElem?_eq_getElem h]; rfl
theorem lens_small {C : List ByteArray} (v : Valid C) (i : Int) (h0 : 0 ≤ i) (h1 : i < (C.length : Int)) : 0 ≤ rd (lensC C) i ∧ rd (lensC C) i ≤ 1000 := by
  obtain ⟨n, rfl⟩ : ∃ n : Nat, i = (n : Int) := ⟨i.toNat, by omega⟩
  rw [rd_lens C n (by omega)]
  have := v.size12 (gt C n) (getD_mem (by omega))
  omega
theorem lensC_len' (C : List ByteArray) : (lensC C).length = C.length := by unfold lensC; rw [List.length_map]
theorem costV_pay {ws : List Int} {C : List ByteArray} (hv : valP C = 0) : costV ws C = if wOk ws = true ∧ ws.length = C.length then (dotF ws (lensC C) 0 ws.length, 0) else (0, 1) := by
  unfold costV; rw [if_neg (by omega)]
theorem pcost_ev (ws : List Int) {C : List ByteArray} (hS : Sized C) : Ev (fun k => whistle_Cost.f k ws C) (costV ws C) := by
  unfold whistle_Cost.f
  refine Ev.bind (val_ev C hS) ?_
  by_cases hv : valP C = 0
  · rw [hv, costV_pay hv]
    have v := valP_zero.1 hv
    refine Ev.ifp rfl ?_
    unfold whistle_weighed.f
    refine Ev.some_bind ?_
    by_cases hw : wOk ws = true
    · rw [show oneTo 0 1000 ws = wOk ws from rfl, hw]
      have h := wOk_iff hw
      refine Ev.ifp rfl (Ev.step (fun k => by rw [whistle_Cost.j0]) ?_)
      by_cases hl : ws.length = C.length
      · rw [if_pos ⟨rfl, hl⟩]
        refine Ev.ifn (by simp; omega) (Ev.bind (lengths_ev (by have := v.few; omega)) (Ev.bind (cost_ev h (by rw [lensC_len']; omega) (fun i h0 h1 => lens_small v i h0 (by omega))) (Ev.now _)))
      · rw [if_neg (fun h => hl h.2)]
        exact Ev.ifp (by simp; omega) (Ev.now _)
    · rw [if_neg (fun h => hw h.1), show oneTo 0 1000 ws = wOk ws from rfl, Bool.eq_false_iff.2 hw]
      exact Ev.ifn (by decide) (Ev.step (fun k => by rw [whistle_Cost.j0]) (Ev.ifp rfl (Ev.now _)))
  · unfold costV
    rw [if_pos hv]
    exact Ev.ifn hv (Ev.now _)
/-- No safe code costs less. -/
theorem cheap_least {ws : List Int} {C : List ByteArray} (h : Wts ws) (v : Valid C) (hl : ws.length = C.length) (hf : fillN (lensC C) ≤ 4096) : cheapC ws ≤ dotF ws (lensC C) 0 ws.length := by
  have e : lensC C = natL (C.map fun s => s.size) := by unfold lensC natL; rw [List.map_map]; rfl
  by_cases h1 : ws.length = 1
  · rw [cheap_cost1 h1, h1]
    unfold dotF dotF
    have hs := v.size1 (gt C 0) (getD_mem (by omega))
    have hw := (h.at_ 0 (Int.le_refl _) (by omega)).1
    have e0 := rd_lens C 0 (by omega)
    rw [e0]
    show rd ws 0 ≤ rd ws 0 * _ + 0
    have := Int.mul_le_mul_of_nonneg_left (show (1 : Int) ≤ ((gt C 0).size : Int) by omega) hw
    omega
  · obtain ⟨s, g1, g2⟩ := cheap_cost h (by have := h.pos; omega)
    rw [g2, e, dot_cost h _ _ 0 (by omega), ← range0]
    have hP := Huf.huff_le g1 ((List.range ws.length).map fun i => (wN ws i, (gt C i).size)) 12 ?_ ⟨fun p hp => ?_, ?_⟩
    · have : Huf.costP ((List.range ws.length).map fun i => (wN ws i, (gt C i).size)) = costF (wN ws) (C.map fun s => s.size) (List.range ws.length) := by
        unfold Huf.costP costF
        rw [List.map_map]
        congr 1
        refine List.map_congr_left fun i hi => ?_
        have hi : i < C.length := by rw [← hl]; exact List.mem_range.1 hi
        show wN ws i * (gt C i).size = _
        congr 1
        unfold gt
        rw [List.getD_eq_getElem?_getD, List.getD_eq_getElem?_getD, List.getElem?_map, List.getElem?_eq_getElem hi]; rfl
      omega
    · rw [List.map_map]
      have : (List.range ws.length).map (Prod.fst ∘ fun i => (wN ws i, (gt C i).size)) = ws.map Int.toNat := by
        rw [← startB_w]
        unfold startB
        rw [List.map_map]; rfl
      rw [this]
    · obtain ⟨i, hi, rfl⟩ := List.mem_map.1 hp
      have hi : i < C.length := by rw [← hl]; exact List.mem_range.1 hi
      exact v.size12 _ (getD_mem hi)
    · have : Huf.fillP 12 ((List.range ws.length).map fun i => (wN ws i, (gt C i).size)) = fillN (lensC C) := by
        rw [e, fillN_nat]
        unfold Huf.fillP
        rw [List.map_map, hl]
        congr 1
        apply List.ext_getElem
        · simp
        · intro i h1 h2
          simp only [List.getElem_map, List.getElem_range, Function.comp]
          have hi : i < C.length := by simpa using h2
          unfold gt
          rw [List.getD_eq_getElem?_getD, List.getElem?_eq_getElem hi]; rfl
      rw [this]; exact hf

/-! Alike: the search over pairs of messages finds two that sound alike, or the code is safe. -/

def sndN (C : List ByteArray) (m : List Nat) : List UInt8 := (m.map fun n => bs (Q.sig C n)).flatten
theorem sndN_app (C : List ByteArray) (a b : List Nat) : sndN C (a ++ b) = sndN C a ++ sndN C b := by unfold sndN; rw [List.map_append, List.flatten_append]
theorem sndN_one (C : List ByteArray) (n : Nat) : sndN C [n] = bs (Q.sig C n) := by simp [sndN]
def totQ (q : PQ) : Nat := q.1.length + q.2.1.length
/-- Two messages of which the one sounds as the other and a rest. -/
structure POk (C : List ByteArray) (q : PQ) : Prop where
  a : ∀ n ∈ q.1, n < C.length
  b : ∀ n ∈ q.2.1, n < C.length
  ne : ∃ x y s t, q.1 = x :: s ∧ q.2.1 = y :: t ∧ x ≠ y
  snd : sndN C q.2.1 = sndN C q.1 ++ bs q.2.2
theorem all_snoc {C : List ByteArray} {l : List Nat} {n : Nat} (h : ∀ m ∈ l, m < C.length) (hn : n < C.length) : ∀ m ∈ l ++ [n], m < C.length := fun m hm => by
  rcases List.mem_append.1 hm with hm | hm
  · exact h m hm
  · rw [List.mem_singleton] at hm; subst hm; exact hn
theorem POk.swap {C : List ByteArray} {p : PQ} (h : POk C p) {n : Nat} (hn : n < C.length) {t : List UInt8} (e : bs (Q.sig C n) = bs p.2.2 ++ t) : POk C (p.2.1, p.1 ++ [n], restB (Q.sig C n) p.2.2) where
  a := h.b
  b := all_snoc h.a hn
  ne := by
    obtain ⟨x, y, s, t, e1, e2, hne⟩ := h.ne
    exact ⟨y, x, t, s ++ [n], e2, by show p.1 ++ [n] = _; rw [e1]; rfl, fun e => hne e.symm⟩
  snd := by
    show sndN C (p.1 ++ [n]) = sndN C p.2.1 ++ bs (restB (Q.sig C n) p.2.2)
    rw [sndN_app, sndN_one, restB_of e, h.snd, e, List.append_assoc]
theorem POk.on {C : List ByteArray} {p : PQ} (h : POk C p) {n : Nat} (hn : n < C.length) {t : List UInt8} (e : bs p.2.2 = bs (Q.sig C n) ++ t) : POk C (p.1 ++ [n], p.2.1, restB p.2.2 (Q.sig C n)) where
  a := all_snoc h.a hn
  b := h.b
  ne := by
    obtain ⟨x, y, s, t, e1, e2, hne⟩ := h.ne
    exact ⟨x, y, s ++ [n], t, by show p.1 ++ [n] = _; rw [e1]; rfl, e2, hne⟩
  snd := by
    show sndN C p.2.1 = sndN C (p.1 ++ [n]) ++ bs (restB p.2.2 (Q.sig C n))
    rw [sndN_app, sndN_one, restB_of e, h.snd, e, List.append_assoc]
theorem rests_add {qs : List PQ} {q : PQ} (h : bs q.2.2 ≠ []) : restsQ (addQ qs q) = addO (restsQ qs) q.2.2 true := by
  unfold addQ addO
  by_cases hc : Lib.containsS (restsQ qs) q.2.2 = true
  · rw [if_pos hc, if_neg (fun e => (addB_iff.1 e).2.2 (inS_iff.1 hc))]
  · rw [if_neg hc, if_pos (addB_iff.2 ⟨rfl, h, fun e => hc (inS_iff.2 e)⟩)]
    unfold restsQ
    rw [List.map_append]; rfl
theorem rests_cut {qs : List PQ} {q : PQ} {y x : ByteArray} (hq : q.2.2 = restB y x) (h : bs y ≠ bs x) : restsQ (if headB y x = true then addQ qs q else qs) = cutO (restsQ qs) y x := by
  unfold cutO
  by_cases hh : headB y x = true
  · obtain ⟨t, ht⟩ := headB_iff.1 hh
    rw [if_pos hh, hh, ← hq]
    refine rests_add ?_
    rw [hq, restB_of ht]
    rintro rfl
    exact h (by rw [ht, List.append_nil])
  · rw [if_neg hh]
    unfold addO
    rw [if_neg (fun e => hh (addB_iff.1 e).1)]
theorem addQ_ext (qs : List PQ) (q : PQ) : ∃ e, addQ qs q = qs ++ e ∧ ∀ z ∈ e, z = q := by
  unfold addQ
  split
  · exact ⟨[], by simp, by simp⟩
  · exact ⟨[q], rfl, by simp⟩
/-- What a signal adds. -/
theorem oneQ_step {C : List ByteArray} {p : PQ} (hp : POk C p) {n : Nat} (hn : n < C.length) (hne : bs (Q.sig C n) ≠ bs p.2.2) (qs : List PQ) :
    restsQ (oneQ p n (Q.sig C n) qs) = cutO (cutO (restsQ qs) (Q.sig C n) p.2.2) p.2.2 (Q.sig C n) ∧ ∃ e, oneQ p n (Q.sig C n) qs = qs ++ e ∧ ∀ z ∈ e, POk C z ∧ totQ z = totQ p + 1 := by
  have h1 : restsQ (oneQ1 p n (Q.sig C n) qs) = cutO (restsQ qs) (Q.sig C n) p.2.2 := rests_cut (q := (p.2.1, p.1 ++ [n], restB (Q.sig C n) p.2.2)) rfl hne
  have h2 : restsQ (oneQ2 p n (Q.sig C n) (oneQ1 p n (Q.sig C n) qs)) = cutO (restsQ (oneQ1 p n (Q.sig C n) qs)) p.2.2 (Q.sig C n) := rests_cut (q := (p.1 ++ [n], p.2.1, restB p.2.2 (Q.sig C n))) rfl (fun e => hne e.symm)
  refine ⟨by unfold oneQ; rw [h2, h1], ?_⟩
  have e1 : ∃ e, oneQ1 p n (Q.sig C n) qs = qs ++ e ∧ ∀ z ∈ e, POk C z ∧ totQ z = totQ p + 1 := by
    unfold oneQ1
    split
    · rename_i hh
      obtain ⟨t, ht⟩ := headB_iff.1 hh
      obtain ⟨e, h3, h4⟩ := addQ_ext qs (p.2.1, p.1 ++ [n], restB (Q.sig C n) p.2.2)
      refine ⟨e, h3, fun z hz => ?_⟩
      rw [h4 z hz]
      refine ⟨hp.swap hn ht, ?_⟩
      unfold totQ
      simp only [List.length_append, List.length_singleton]; omega
    · exact ⟨[], by simp, by simp⟩
  obtain ⟨e, h3, h4⟩ := e1
  unfold oneQ
  rw [h3]
  unfold oneQ2
  split
  · rename_i hh
    obtain ⟨t, ht⟩ := headB_iff.1 hh
    obtain ⟨e', h5, h6⟩ := addQ_ext (qs ++ e) (p.1 ++ [n], p.2.1, restB p.2.2 (Q.sig C n))
    refine ⟨e ++ e', by rw [h5, List.append_assoc], fun z hz => ?_⟩
    rcases List.mem_append.1 hz with hz | hz
    · exact h4 z hz
    · rw [h6 z hz]
      refine ⟨hp.on hn ht, ?_⟩
      unfold totQ
      simp only [List.length_append, List.length_singleton]; omega
  · exact ⟨e, rfl, h4⟩
theorem folI_none {C : List ByteArray} {p : PQ} (hp : POk C p) (d : Nat) : ∀ (n : Nat) (qs : List PQ), n + d = C.length → (restsQ qs).Nodup → (folI C p d n qs).1 = none →
    (∃ e, (folI C p d n qs).2 = qs ++ e ∧ ∀ z ∈ e, POk C z ∧ totQ z = totQ p + 1) ∧ (restsQ (folI C p d n qs).2).Nodup ∧ (∀ s, s ∈ restsQ (folI C p d n qs).2 ↔ s ∈ restsQ qs ∨ ∃ j, n ≤ j ∧ j < C.length ∧ (Cut p.2.2 (gt C j) s ∨ Cut (gt C j) p.2.2 s)) ∧ ∀ j, n ≤ j → j < C.length → gt C j ≠ p.2.2 := by
  induction d with
  | zero =>
    intro n qs hn hN _
    exact ⟨⟨[], by simp [folI], by simp⟩, hN, fun s => ⟨.inl, fun h => h.elim id fun ⟨j, h1, h2, _⟩ => by omega⟩, fun j h1 h2 => by omega⟩
  | succ d ih =>
    intro n qs hn hN h
    rw [folI] at h ⊢
    by_cases he : (Q.sig C n).toList = p.2.2.toList
    · rw [if_pos he] at h; cases h
    · rw [if_neg he] at h ⊢
      have hne : bs (Q.sig C n) ≠ bs p.2.2 := fun e => he (str_eq.2 (bs_inj e))
      obtain ⟨hr, e, h1, h2⟩ := oneQ_step hp (show n < C.length by omega) hne qs
      obtain ⟨⟨e', h3, h4⟩, h5, h6, h7⟩ := ih (n + 1) _ (by omega) (by rw [hr]; exact cutO_nodup (cutO_nodup hN)) h
      refine ⟨⟨e ++ e', by rw [h3, h1, List.append_assoc], fun z hz => (List.mem_append.1 hz).elim (h2 z) (h4 z)⟩, h5, fun s => ?_, fun j hj1 hj2 => ?_⟩
      · rw [h6, hr, mem_cutO, mem_cutO]
        constructor
        · rintro (((h | h) | h) | ⟨j, h8, h9, h10⟩)
          · exact .inl h
          · exact .inr ⟨n, Nat.le_refl _, by omega, .inr h⟩
          · exact .inr ⟨n, Nat.le_refl _, by omega, .inl h⟩
          · exact .inr ⟨j, by omega, h9, h10⟩
        · rintro (h | ⟨j, h8, h9, h10⟩)
          · exact .inl (.inl (.inl h))
          · by_cases e : j = n
            · subst e
              rcases h10 with h | h
              · exact .inl (.inr h)
              · exact .inl (.inl (.inr h))
            · exact .inr ⟨j, by omega, h9, h10⟩
      · by_cases e : j = n
        · subst e
          exact fun e => hne (congrArg bs e)
        · exact h7 j (by omega) hj2
theorem folI_some {C : List ByteArray} {p : PQ} (d : Nat) : ∀ (n : Nat) (qs : List PQ) (m : Nat), n + d = C.length → (folI C p d n qs).1 = some m → m < C.length ∧ Q.sig C m = p.2.2 := by
  induction d with
  | zero => intro n qs m _ h; cases h
  | succ d ih =>
    intro n qs m hn h
    rw [folI] at h
    by_cases he : (Q.sig C n).toList = p.2.2.toList
    · rw [if_pos he] at h
      injection h with h
      subst h
      exact ⟨by omega, str_eq.1 he⟩
    · rw [if_neg he] at h
      exact ih (n + 1) _ m (by omega) h
/-! Where it starts. -/
theorem startI_rests {C : List ByteArray} (v : Valid C) {i : Nat} (hi : i < C.length) (qs : List PQ) : ∀ n, n ≤ C.length → restsQ (startI C i n qs) = inA C (gt C i) n (restsQ qs) ∧ ∃ e, startI C i n qs = qs ++ e ∧ ∀ z ∈ e, POk C z ∧ totQ z = 2
  | 0, _ => ⟨rfl, [], by simp [startI], by simp⟩
  | n + 1, hn => by
    obtain ⟨h1, e, h2, h3⟩ := startI_rests v hi qs n (by omega)
    rw [startI]
    by_cases hin : i = n
    · subst hin
      rw [show (headB (Q.sig C i) (Q.sig C i) && decide (i ≠ i)) = false by simp, if_neg (by decide)]
      refine ⟨?_, e, h2, h3⟩
      rw [h1]
      show _ = cutO _ (gt C i) (gt C i)
      unfold cutO addO
      rw [if_neg]
      intro h
      obtain ⟨h4, h5, -⟩ := addB_iff.1 h
      rw [restB_of (show bs (gt C i) = bs (gt C i) ++ [] by simp)] at h5
      exact h5 rfl
    · have hb : bs (Q.sig C n) ≠ bs (Q.sig C i) := fun e => by
        have h4 := bs_inj e
        have e1 : ∀ {j}, (hj : j < C.length) → Q.sig C j = C[j] := fun {j} hj => by unfold Q.sig; rw [List.getD_eq_getElem?_getD, List.getElem?_eq_getElem hj]; rfl
        rw [e1 hi, e1 (by omega)] at h4
        exact hin ((List.getElem_inj v.nodup).1 h4).symm
      rw [decide_eq_true (show i ≠ n from hin), Bool.and_true]
      constructor
      · rw [rests_cut (q := ([i], [n], restB (Q.sig C n) (Q.sig C i))) rfl hb, h1]; rfl
      · split
        · rename_i hh
          obtain ⟨t, ht⟩ := headB_iff.1 hh
          obtain ⟨e', h5, h6⟩ := addQ_ext (startI C i n qs) ([i], [n], restB (Q.sig C n) (Q.sig C i))
          refine ⟨e ++ e', by rw [h5, h2, List.append_assoc], fun z hz => ?_⟩
          rcases List.mem_append.1 hz with hz | hz
          · exact h3 z hz
          · rw [h6 z hz]
            refine ⟨⟨by simpa using hi, by simp; omega, ⟨i, n, [], [], rfl, rfl, hin⟩, ?_⟩, rfl⟩
            show sndN C [n] = sndN C [i] ++ bs (restB (Q.sig C n) (Q.sig C i))
            rw [sndN_one, sndN_one, restB_of ht, ht]
        · exact ⟨e, h2, h3⟩
theorem startO_rests {C : List ByteArray} (v : Valid C) : ∀ i, i ≤ C.length → restsQ (startO C i) = outA C i ∧ ∀ z ∈ startO C i, POk C z ∧ totQ z = 2
  | 0, _ => ⟨rfl, fun z hz => by simp [startO] at hz⟩
  | i + 1, hi => by
    obtain ⟨h1, h2⟩ := startO_rests v i (by omega)
    obtain ⟨h3, e, h4, h5⟩ := startI_rests v (show i < C.length by omega) (startO C i) C.length (Nat.le_refl _)
    rw [startO]
    refine ⟨by rw [h3, h1]; rfl, fun z hz => ?_⟩
    rw [h4] at hz
    exact (List.mem_append.1 hz).elim (h2 z) (h5 z)
/-- How the search stands. -/
structure PF (C : List ByteArray) (qs : List PQ) (i : Nat) : Prop where
  found : Found C (restsQ qs) i
  ok : ∀ q ∈ qs, POk C q
  len : ∀ p, p < qs.length → totQ (qAt qs p) ≤ p + 2
  no : ∀ j, j < i → ∀ x ∈ C, x ≠ gt (restsQ qs) j
theorem rests_len (qs : List PQ) : (restsQ qs).length = qs.length := by unfold restsQ; rw [List.length_map]
theorem qAt_mem {qs : List PQ} {i : Nat} (h : i < qs.length) : qAt qs i ∈ qs := getD_mem h
theorem rests_at {qs : List PQ} {i : Nat} (h : i < qs.length) : gt (restsQ qs) i = (qAt qs i).2.2 := by
  unfold gt restsQ qAt
  rw [List.getD_eq_getElem?_getD, List.getD_eq_getElem?_getD, List.getElem?_map, List.getElem?_eq_getElem h]; rfl
theorem qAt_app {qs e : List PQ} {i : Nat} (h : i < qs.length) : qAt (qs ++ e) i = qAt qs i := by
  unfold qAt
  rw [List.getD_eq_getElem?_getD, List.getD_eq_getElem?_getD, List.getElem?_append_left h]
theorem PF.start {C : List ByteArray} (v : Valid C) : PF C (startO C C.length) 0 := by
  obtain ⟨h1, h2⟩ := startO_rests v C.length (Nat.le_refl _)
  refine ⟨by rw [h1]; exact outA_found, fun q hq => (h2 q hq).1, fun p hp => ?_, fun j hj => by omega⟩
  have := (h2 _ (qAt_mem hp)).2
  omega
theorem PF.next {C : List ByteArray} {qs : List PQ} {i : Nat} (h : PF C qs i) (hi : i < qs.length) (hn : (folI C (qAt qs i) C.length 0 qs).1 = none) : PF C (folI C (qAt qs i) C.length 0 qs).2 (i + 1) := by
  obtain ⟨⟨e, h1, h2⟩, h3, h4, h5⟩ := folI_none (h.ok _ (qAt_mem hi)) C.length 0 qs (by omega) h.found.nodup hn
  generalize (folI C (qAt qs i) C.length 0 qs).2 = qs' at *
  subst h1
  have hi2 : i < (restsQ qs).length := by rw [rests_len]; exact hi
  refine ⟨h.found.next hi2 h3 (fun s => ?_) (fun j hj => ?_) ?_, fun q hq => ?_, fun p hp => ?_, fun j hj x hx => ?_⟩
  · rw [h4, rests_at hi]
    constructor
    · rintro (h | ⟨j, _, h6, h7⟩)
      · exact .inl h
      · exact .inr ⟨gt C j, gt_mem h6, h7⟩
    · rintro (h | ⟨x, hx, h7⟩)
      · exact .inl h
      · obtain ⟨j, hj, rfl⟩ := mem_gt hx
        exact .inr ⟨j, Nat.zero_le _, hj, h7⟩
  · rw [rests_len] at hj
    rw [rests_at hj, rests_at (by rw [List.length_append]; omega), qAt_app hj]
  · rw [rests_len, rests_len, List.length_append]; omega
  · exact (List.mem_append.1 hq).elim (h.ok q) (fun hq => (h2 q hq).1)
  · by_cases hp2 : p < qs.length
    · rw [qAt_app hp2]; exact h.len p hp2
    · have hm : qAt (qs ++ e) p ∈ e := by
        unfold qAt
        rw [List.getD_eq_getElem?_getD, List.getElem?_append_right (by omega), ← List.getD_eq_getElem?_getD]
        rw [List.length_append] at hp
        exact getD_mem (by omega)
      have := (h2 _ hm).2
      have := h.len i hi
      omega
  · by_cases e2 : j = i
    · subst e2
      rw [rests_at (by rw [List.length_append]; omega), qAt_app hi]
      obtain ⟨n, hn, rfl⟩ := mem_gt hx
      exact h5 n (Nat.zero_le _) hn
    · have hj2 : j < qs.length := by omega
      have := h.no j (by omega) x hx
      rwa [rests_at hj2, ← qAt_app (e := e) hj2, ← rests_at (by rw [List.length_append]; omega)] at this
/-! What it finds. -/
def ints (m : List Nat) : List Int := m.map fun n : Nat => (n : Int)
theorem ints_inj {a b : List Nat} (h : ints a = ints b) : a = b := by
  have := congrArg (List.map Int.toNat) h
  unfold ints at this
  rw [List.map_map, List.map_map] at this
  simpa [Function.comp_def] using this
theorem ints_in {C : List ByteArray} {a : List Nat} (h : ∀ n ∈ a, n < C.length) : (ints a).all (inC C) = true := by
  rw [List.all_eq_true]
  intro x hx
  obtain ⟨n, hn, rfl⟩ := List.mem_map.1 hx
  exact inC_iff.2 ⟨by omega, by have := h n hn; omega⟩
theorem ints_snd (C : List ByteArray) (a : List Nat) : bs (soundB C (ints a)) = sndN C a := by
  rw [sound_words]
  unfold mws ints sndN
  rw [List.map_map]
  rfl
theorem chk_good {C : List ByteArray} (v : Valid C) {a b : List Nat} (ha : ∀ n ∈ a, n < C.length) (hb : ∀ n ∈ b, n < C.length) (la : a.length ≤ 400) (lb : b.length ≤ 400) (hne : a ≠ b) (hs : sndN C a = sndN C b) : chkP C (ints a) (ints b) = 0 := by
  have l1 : (ints a).length = a.length := by unfold ints; rw [List.length_map]
  have l2 : (ints b).length = b.length := by unfold ints; rw [List.length_map]
  have hm : msg2P C (ints a) (ints b) = 0 := by
    unfold msg2P
    rw [if_neg (by omega), if_neg (by omega), if_pos (ints_in ha), if_pos (ints_in hb)]
  unfold chkP
  rw [if_neg (by rw [valP_zero.2 v]; simp), if_neg (by rw [hm]; simp), if_neg (fun e => hne (ints_inj e)), if_pos (bs_inj (by rw [ints_snd, ints_snd, hs]))]
theorem follow_goes {C : List ByteArray} (v : Valid C) : ∀ (d i : Nat) (qs : List PQ), PF C qs i → 157 ≤ d + i → (followF C d i qs = some none ∧ Safe C) ∨ ∃ a b, followF C d i qs = some (some (a, b)) ∧ a.length ≤ 400 ∧ b.length ≤ 400 ∧ chkP C (ints a) (ints b) = 0 := by
  intro d
  induction d with
  | zero =>
    intro i qs h hd
    have h1 := h.found.len v
    have h2 := h.found.le
    omega
  | succ d ih =>
    intro i qs h hd
    have h1 := h.found.len v
    have h2 := h.found.le
    rw [rests_len] at h1 h2
    rw [followF]
    by_cases hi : i = qs.length
    · rw [if_pos hi]
      refine .inl ⟨rfl, ?_⟩
      rintro ⟨s, hs, hl⟩
      have hf := h.found
      rw [hi, ← rests_len] at hf
      obtain ⟨j, hj, rfl⟩ := mem_gt (hf.all.2 hl)
      exact h.no j (by rw [rests_len] at hj; omega) _ hs rfl
    · rw [if_neg hi]
      have hi2 : i < qs.length := by omega
      have hp := h.ok _ (qAt_mem hi2)
      have hl := h.len i hi2
      unfold totQ at hl
      rw [if_pos ⟨hi2, by omega, by omega, by omega⟩]
      cases hn : (folI C (qAt qs i) C.length 0 qs).1 with
      | none => exact ih (i + 1) _ (h.next hi2 hn) (by omega)
      | some n =>
        obtain ⟨h3, h4⟩ := folI_some C.length 0 qs n (by omega) hn
        refine .inr ⟨_, _, rfl, by rw [List.length_append, List.length_singleton]; omega, by omega, ?_⟩
        refine chk_good v (all_snoc hp.a h3) hp.b (by rw [List.length_append, List.length_singleton]; omega) (by omega) ?_ ?_
        · obtain ⟨x, y, s, t, e1, e2, hne⟩ := hp.ne
          rw [e1, e2]
          intro e
          exact hne (List.cons.inj e).1
        · rw [sndN_app, sndN_one, h4, hp.snd]

/-! What Alike answers. -/

theorem alike_bad_ev {C : List ByteArray} (hS : Sized C) (h : valP C ≠ 0) : Ev (fun k => whistle_Alike.f k C) ([], [], false, valP C) := by
  unfold whistle_Alike.f
  exact Ev.bind (val_ev C hS) (Ev.ifn h (Ev.now _))
def alikeV : Option (List Nat × List Nat) → List Int × List Int × Bool × Int
  | none => ([], [], false, 0)
  | some r => (ints r.1, ints r.2, true, 0)
theorem alike_good {C : List ByteArray} (hS : Sized C) (h : valP C = 0) {d : Nat} {res : Option (List Nat × List Nat)} (hf : followF C d 0 (startO C C.length) = some res) : Ev (fun k => whistle_Alike.f k C) (alikeV res) := by
  have v := valP_zero.1 h
  have hc : C.length ≤ 60 ∧ ∀ j, j < C.length → (Q.sig C j).size ≤ 1000 := ⟨by have := v.few; omega, fun j hj => by have := v.size12 _ (gt_mem hj); show (gt C j).size ≤ 1000; omega⟩
  unfold whistle_Alike.f
  have hv := val_ev C hS
  rw [h] at hv
  refine Ev.bind hv (Ev.ifp rfl (Ev.ifp hc ?_))
  have h2 : Ev (fun k => followF C k 0 (startO C C.length)) res := Ev.of (k := d) (fun k r h => followF_mono C k 0 _ r h) hf
  obtain ⟨K, h3⟩ := h2
  exact ⟨K, fun n hn => by
    have h4 : followF C n 0 (startO C C.length) = some res := h3 n hn
    cases res
    · show Option.map _ (followF C n 0 (startO C C.length)) = _
      rw [h4]; rfl
    · show Option.map _ (followF C n 0 (startO C C.length)) = _
      rw [h4]; rfl⟩

/-! Two messages that sound alike are heard as two. -/

theorem two_le_sum {α : Type} (f : α → Nat) : ∀ {l : List α} {x y : α}, x ∈ l → y ∈ l → x ≠ y → 1 ≤ f x → 1 ≤ f y → 2 ≤ (l.map f).sum
  | [], _, _, h, _, _, _, _ => by cases h
  | c :: l, x, y, hx, hy, hne, h1, h2 => by
    rw [List.map_cons, List.sum_cons]
    rcases List.mem_cons.1 hx with ex | hx
    · rcases List.mem_cons.1 hy with ey | hy
      · exact absurd (ex.trans ey.symm) hne
      · have := term_le_sum f hy
        rw [← ex]; omega
    · rcases List.mem_cons.1 hy with ey | hy
      · have := term_le_sum f hx
        rw [← ey]; omega
      · have := two_le_sum f hx hy hne h1 h2
        omega
theorem flat_nil {C : List ByteArray} (v : Valid C) {m : List (List UInt8)} (hm : Msg (wds C) m) (h : m.flatten = []) : m = [] := by
  cases m with
  | nil => rfl
  | cons x m =>
    rw [List.flatten_cons] at h
    exact absurd (List.append_eq_nil_iff.1 h).1 (wds_ne v x (hm x (List.mem_cons_self ..)))
theorem term_msg {C : List ByteArray} (v : Valid C) {s : ByteArray} {m : List (List UInt8)} (hm : Msg (wds C) m) : 1 ≤ term C (bs s ++ m.flatten) s := by
  unfold term
  rw [if_pos (pref_app _ _), ← bs_len, List.drop_left]
  exact ways_msg v m hm
theorem ways_two {C : List ByteArray} (v : Valid C) : ∀ a b : List (List UInt8), Msg (wds C) a → Msg (wds C) b → a ≠ b → a.flatten = b.flatten → 2 ≤ ways C a.flatten
  | [], b, _, hb, hne, h => absurd (flat_nil v hb h.symm).symm hne
  | x :: a, [], ha, _, hne, h => absurd (flat_nil v ha h) hne
  | x :: a, y :: b, ha, hb, hne, h => by
    obtain ⟨s, hs, rfl⟩ := mem_wds.1 (ha x (List.mem_cons_self ..))
    obtain ⟨t, ht, rfl⟩ := mem_wds.1 (hb y (List.mem_cons_self ..))
    rw [List.flatten_cons, List.flatten_cons] at h
    rw [List.flatten_cons]
    by_cases e : s = t
    · subst e
      have h2 := List.append_cancel_left h
      have h3 := ways_two v a b ha.tail hb.tail (fun e => hne (by rw [e])) h2
      exact Nat.le_trans h3 (ways_cons v hs _)
    · have hn : bs s ++ a.flatten ≠ [] := fun e2 => wds_ne v _ (mem_wds.2 ⟨s, hs, rfl⟩) (List.append_eq_nil_iff.1 e2).1
      rw [ways_step v.size1 hn]
      refine two_le_sum _ hs ht e (term_msg v ha.tail) ?_
      rw [h]
      exact term_msg v hb.tail
theorem chk_parts {C : List ByteArray} {a b : List Int} (h : chkP C a b = 0) : Valid C ∧ msgP C a = 0 ∧ msgP C b = 0 ∧ a ≠ b ∧ soundB C a = soundB C b := by
  unfold chkP at h
  by_cases hv : valP C = 0
  · rw [if_neg (show ¬ (valP C ≠ 0) by simpa using hv)] at h
    by_cases hm : msg2P C a b = 0
    · rw [if_neg (show ¬ (msg2P C a b ≠ 0) by simpa using hm)] at h
      have hz : msgP C a = 0 ∧ msgP C b = 0 := by
        rcases msg2_cases C a b with ⟨h1, h2⟩ | ⟨h1, h2, h3⟩ | ⟨h1, h2, ⟨h4, h5⟩ | ⟨h4, h5⟩⟩
        · omega
        · omega
        · rw [h5] at hm; exact absurd hm h4
        · rw [h5] at hm; exact ⟨h4, hm⟩
      by_cases h7 : a = b
      · rw [if_pos h7] at h; omega
      · rw [if_neg h7] at h
        by_cases h8 : soundB C a = soundB C b
        · exact ⟨valP_zero.1 hv, hz.1, hz.2, h7, h8⟩
        · rw [if_neg h8] at h; omega
    · rw [if_pos (show msg2P C a b ≠ 0 from hm)] at h; exact absurd h hm
  · rw [if_pos (show valP C ≠ 0 from hv)] at h; exact absurd h hv
theorem top_text {C : List ByteArray} (v : Valid C) {m : List Int} (hm : m.all (inC C) = true) : notesP (soundB C m) = true := by
  rw [notesP_list]
  have e : (soundB C m).data.toList = (mws C m).flatten := sound_words C m
  rw [e, List.all_eq_true]
  intro b hb
  obtain ⟨x, hx, hbx⟩ := List.mem_flatten.1 hb
  obtain ⟨s, hs, rfl⟩ := mem_wds.1 (msg_words hm x hx)
  have := v.notes s hs
  rw [notesP_list, List.all_eq_true] at this
  exact this b hbx
theorem heard_two {C : List ByteArray} {a b : List Int} (h : chkP C a b = 0) : 2 ≤ ways C (bs (soundB C a)) ∧ bs (soundB C a) ≠ [] := by
  obtain ⟨v, ha, hb, hne, hs⟩ := chk_parts h
  obtain ⟨-, a2⟩ := msgP_zero ha
  obtain ⟨-, b2⟩ := msgP_zero hb
  have ma := msg_words a2
  have mb := msg_words b2
  have hw : mws C a ≠ mws C b := fun e => hne (mws_inj v.nodup a2 b2 e)
  have hf : (mws C a).flatten = (mws C b).flatten := by rw [← sound_words, ← sound_words, hs]
  refine ⟨by rw [sound_words]; exact ways_two v _ _ ma mb hw hf, fun e => hw ?_⟩
  rw [sound_words] at e
  rw [flat_nil v ma e, flat_nil v mb (by rw [← hf, e])]

end Go.Proofs.Ytpkafcoflgbnaaa.Pure
