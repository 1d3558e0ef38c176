-- What the plain law WhistleDecodes needs, out of the Libs of this seat.
import Derived.Test.YtpkafcoflgbnaaaQx2
import Derived.Test.YtpkafcoflgbnaaaQx10
import Derived.Test.YtpkafcoflgbnaaaQx11
import Derived.Test.YtpkafcoflgbnaaaQx17
import Derived.Test.YtpkafcoflgbnaaaQx22
import Derived.Test.YtpkafcoflgbnaaaQx24
import Derived.Test.YtpkafcoflgbnaaaQx26
import Derived.Test.YtpkafcoflgbnaaaQx27
import Derived.Test.YtpkafcoflgbnaaaQx31
import Derived.Test.YtpkafcoflgbnaaaQx32
import Derived.Test.YtpkafcoflgbnaaaWh1
import Derived.Test.YtpkafcoflgbnaaaWh4
import Derived.Test.YtpkafcoflgbnaaaLibSP
import Derived.Sort.LotA
import Derived.Sort.Walk0
import Derived.Test.YtpkafcoflgbnaaaLibMc
import Derived.Test.YtpkafcoflgbnaaaWh5
import Derived.Test.YtpkafcoflgbnaaaWh6
namespace Go.Proofs.Ytpkafcoflgbnaaa.Pure
open Go.RowKit Go.Proofs.Ytpkafcoflgbnaaa.Q Go.Proofs.YtpkafcoflgbnaaaW.PrintWords Go.Proofs.YtpkafcoflgbnaaaW.PrintLast
open Go.RowKit Go.Proofs.Ytpkafcoflgbnaaa.Q Go.Proofs.YtpkafcoflgbnaaaW.PrintWords Go.Proofs.YtpkafcoflgbnaaaW.PrintLast Go.Proofs.YtpkafcoflgbnaaaW.PrintMore
set_option linter.unusedVariables false


/-! Rounds; texts and lists; which codes and messages are valid. -/

theorem Ev.ifp {α : Type} {c : Prop} [Decidable c] {f g : Nat → Option α} {r : α} (h : c) (k : Ev f r) : Ev (fun n => if c then f n else g n) r := by
  obtain ⟨K, k⟩ := k
  exact ⟨K, fun n hn => by show (if c then f n else g n) = some r; rw [if_pos h]; exact k n hn⟩
theorem Ev.ifn {α : Type} {c : Prop} [Decidable c] {f g : Nat → Option α} {r : α} (h : ¬ c) (k : Ev g r) : Ev (fun n => if c then f n else g n) r := by
  obtain ⟨K, k⟩ := k
  exact ⟨K, fun n hn => by show (if c then f n else g n) = some r; rw [if_neg h]; exact k n hn⟩
theorem Ev.some_bind {α β : Type} {f : Nat → α → Option β} {a : α} {r : β} (k : Ev (fun n => f n a) r) : Ev (fun n => (some a).bind (f n)) r := k
theorem Ev.bindc {α β : Type} {g : Option α} {f : Nat → α → Option β} {a : α} {r : β} (h : g = some a) (k : Ev (fun n => f n a) r) : Ev (fun n => g.bind (f n)) r := by
  subst h
  exact k
theorem Ev.val {α : Type} {a r : α} (h : a = r) : Ev (fun _ => some a) r := by
  subst h
  exact Ev.now _
theorem w64 {a : Int} (h0 : -9223372036854775808 ≤ a) (h1 : a < 9223372036854775808) : wrap64 a = a := by unfold wrap64; omega
theorem w64s {i : Nat} (h : i < 1000000000000000000) : wrap64 ((i : Int) + 1) = ((i + 1 : Nat) : Int) := by rw [w64 (by omega) (by omega)]; omega
theorem rdOf_nat {α : Type} (d : α) (C : List α) (i : Nat) : rdOf d C (i : Int) = C.getD i d := by unfold rdOf; rw [Int.toNat_natCast]
theorem rd_nat (l : List Int) (i : Nat) : rd l (i : Int) = l.getD i 0 := by unfold rd; rw [Int.toNat_natCast]
theorem str_eq {a b : ByteArray} : a.toList = b.toList ↔ a = b := by
  rw [ByteArray.toList_eq, ByteArray.toList_eq]
  constructor
  · intro h
    cases a; cases b
    simp only [Array.toList_inj] at h
    rw [h]
  · intro h; rw [h]
theorem getD_mem {α : Type} {C : List α} {i : Nat} {d : α} (h : i < C.length) : C.getD i d ∈ C := by
  rw [List.getD_eq_getElem?_getD, List.getElem?_eq_getElem h]; exact List.getElem_mem h
theorem mem_getD {α : Type} {C : List α} {x d : α} (h : x ∈ C) : ∃ i, i < C.length ∧ C.getD i d = x := by
  obtain ⟨i, hi, rfl⟩ := List.mem_iff_getElem.1 h
  exact ⟨i, hi, by rw [List.getD_eq_getElem?_getD, List.getElem?_eq_getElem hi]; rfl⟩

/-! Lists of texts: long, the same, what is in them; which texts begin with which. -/

def gt (C : List ByteArray) (i : Nat) : ByteArray := C.getD i ByteArray.empty
theorem rdOf_gt (C : List ByteArray) (i : Nat) : rdOf ByteArray.empty C (i : Int) = gt C i := rdOf_nat _ _ _
theorem drop_gt {C : List ByteArray} {i : Nat} (h : i < C.length) : C.drop i = gt C i :: C.drop (i + 1) := by
  rw [List.drop_eq_getElem_cons h]
  congr 1
  unfold gt
  rw [List.getD_eq_getElem?_getD, List.getElem?_eq_getElem h]; rfl
theorem drop_rd {l : List Int} {i : Nat} (h : i < l.length) : l.drop i = rd l (i : Int) :: l.drop (i + 1) := by
  rw [List.drop_eq_getElem_cons h, rd_nat]
  congr 1
  rw [List.getD_eq_getElem?_getD, List.getElem?_eq_getElem h]; rfl
def bigC : Nat := 1000000000000000000
def longP (C : List ByteArray) : Bool := C.any (fun s => decide (100 < s.size)) || decide (60 < C.length)
theorem long_at (C : List ByteArray) (hC : C.length < bigC) (d : Nat) : ∀ i, i + d = C.length → Ev (fun k => wigeonlaw05_Long.l0 k C (i : Int)) ((C.drop i).any (fun s => decide (100 < s.size)) || decide (60 < C.length)) := by
  unfold bigC at hC
  induction d with
  | zero =>
    intro i hi
    rw [List.drop_eq_nil_of_le (by omega)]
    refine Ev.step (fun k => by rw [wigeonlaw05_Long.l0]) (Ev.ifn (by omega) (Ev.val ?_))
    rw [List.any_nil, Bool.false_or]
    exact decide_eq_decide.2 (by omega)
  | succ d ih =>
    intro i hi
    rw [drop_gt (by omega), List.any_cons]
    refine Ev.step (fun k => by rw [wigeonlaw05_Long.l0, rdOf_gt]) (Ev.ifp (by omega) (Ev.ifp (by omega) ?_))
    by_cases h : 100 < (gt C i).size
    · exact Ev.ifp (by omega) (Ev.val (by rw [decide_eq_true h]; rfl))
    · refine Ev.ifn (by omega) ?_
      rw [decide_eq_false h, Bool.false_or, w64s (by omega)]
      exact ih (i + 1) (by omega)
theorem long_ev (C : List ByteArray) (hC : C.length < bigC) : Ev (fun k => wigeonlaw05_Long.f k C) (longP C) := by
  have := long_at C hC C.length 0 (by omega)
  rw [List.drop_zero] at this
  exact this
theorem sameI_at (a b : List Int) (hl : a.length = b.length) (ha : a.length < bigC) (d : Nat) : ∀ i, i + d = a.length → Ev (fun k => wigeonref05_SameInts.l0 k a b (i : Int)) (decide (a.drop i = b.drop i)) := by
  unfold bigC at ha
  induction d with
  | zero =>
    intro i hi
    rw [List.drop_eq_nil_of_le (by omega), List.drop_eq_nil_of_le (by omega)]
    exact Ev.step (fun k => by rw [wigeonref05_SameInts.l0]) (Ev.ifn (by omega) (Ev.val (by simp)))
  | succ d ih =>
    intro i hi
    rw [drop_rd (show i < a.length by omega), drop_rd (show i < b.length by omega)]
    refine Ev.step (fun k => by rw [wigeonref05_SameInts.l0]) (Ev.ifp (by omega) (Ev.ifp (by omega) (Ev.ifp (by omega) ?_)))
    by_cases h : rd a (i : Int) = rd b (i : Int)
    · refine Ev.ifp h ?_
      rw [w64s (by omega)]
      have := ih (i + 1) (by omega)
      rwa [show decide (rd a (i : Int) :: a.drop (i + 1) = rd b (i : Int) :: b.drop (i + 1)) = decide (a.drop (i + 1) = b.drop (i + 1)) from decide_eq_decide.2 (by rw [h]; simp)]
    · refine Ev.ifn h (Ev.val ?_)
      exact (decide_eq_false (by intro e; exact h (List.cons.inj e).1)).symm
theorem sameI_ev (a b : List Int) (ha : a.length < bigC) : Ev (fun k => wigeonref05_SameInts.f k a b) (decide (a = b)) := by
  unfold wigeonref05_SameInts.f
  by_cases h : a.length = b.length
  · refine Ev.ifp (by omega) ?_
    have := sameI_at a b h ha a.length 0 (by omega)
    rw [List.drop_zero, List.drop_zero] at this
    exact this
  · exact Ev.ifn (by omega) (Ev.val (decide_eq_false (fun e => h (by rw [e]))).symm)
theorem inS_iff {l : List ByteArray} {x : ByteArray} : Go.Lib.containsS l x = true ↔ x ∈ l := Go.Lib.containsS_iff l x
theorem inS_eq {l m : List ByteArray} {x y : ByteArray} (h : x ∈ l ↔ y ∈ m) : Go.Lib.containsS l x = Go.Lib.containsS m y := by rw [Bool.eq_iff_iff, inS_iff, inS_iff]; exact h
theorem inS_true {l : List ByteArray} {x : ByteArray} (h : x ∈ l) : Go.Lib.containsS l x = true := inS_iff.2 h
theorem inS_false {l : List ByteArray} {x : ByteArray} (h : x ∉ l) : Go.Lib.containsS l x = false := by rw [Bool.eq_false_iff]; exact fun e => h (inS_iff.1 e)
theorem index_at (l : List ByteArray) (x : ByteArray) (hl : l.length < bigC) (d : Nat) : ∀ i, i + d = l.length → ∃ r, Ev (fun k => slices_Index_string_string.l0 k l x (l.length : Int) (i : Int)) r ∧ (0 ≤ r ↔ x ∈ l.drop i) := by
  unfold bigC at hl
  induction d with
  | zero =>
    intro i hi
    refine ⟨-1, Ev.step (fun k => by rw [slices_Index_string_string.l0]) (Ev.ifn (by omega) (Ev.now _)), ?_⟩
    rw [List.drop_eq_nil_of_le (by omega)]; simp
  | succ d ih =>
    intro i hi
    rw [drop_gt (show i < l.length by omega)]
    by_cases h : x = gt l i
    · refine ⟨(i : Int), Ev.step (fun k => by rw [slices_Index_string_string.l0, rdOf_gt]) (Ev.ifp (by omega) (Ev.ifp (by omega) (Ev.ifp (by omega) (Ev.ifp (str_eq.2 h) (Ev.now _))))), ?_⟩
      simp [h]
    · obtain ⟨r, h1, h2⟩ := ih (i + 1) (by omega)
      refine ⟨r, Ev.step (fun k => by rw [slices_Index_string_string.l0, rdOf_gt]) (Ev.ifp (by omega) (Ev.ifp (by omega) (Ev.ifp (by omega) (Ev.ifn (fun e => h (str_eq.1 e)) (by rw [w64s (by omega)]; exact h1))))), ?_⟩
      rw [h2]; simp [h]
theorem contains_ev (l : List ByteArray) (x : ByteArray) (hl : l.length < bigC) : Ev (fun k => slices_Contains_string_string.f k l x) (Go.Lib.containsS l x) := by
  unfold slices_Contains_string_string.f slices_Index_string_string.f
  obtain ⟨r, h1, h2⟩ := index_at l x hl l.length 0 (by omega)
  rw [List.drop_zero] at h2
  refine Ev.bind h1 (Ev.val ?_)
  rw [Bool.eq_iff_iff, inS_iff, decide_eq_true_eq]
  exact h2
theorem head_raw (a b : ByteArray) : headB a b = (decide (b.size ≤ a.size) && ((a.extract 0 b.size).toList == b.toList)) := (Go.Lib.hasPrefix_raw a b).symm
theorem begins_eq (a b : ByteArray) : wigeonref05_begins.f a b = some (headB a b) := by
  unfold wigeonref05_begins.f
  rw [head_raw]
  by_cases h : b.size ≤ a.size
  · rw [if_pos (by omega), if_pos (by omega), if_pos (by omega), decide_eq_true h, Bool.true_and, Int.toNat_natCast]
  · rw [if_neg (by omega), decide_eq_false h, Bool.false_and]
theorem hasPrefix_eq (a b : ByteArray) : strings_HasPrefix.f a b = some (headB a b) := by
  unfold strings_HasPrefix.f stringslite_HasPrefix.f
  rw [head_raw]
  by_cases h : b.size ≤ a.size
  · rw [if_pos (by omega), if_pos (by omega), if_pos (by omega), decide_eq_true h, Bool.true_and, Int.toNat_natCast]; rfl
  · rw [if_neg (by omega), decide_eq_false h, Bool.false_and]; rfl

/-! What the document gives; which codes are valid, by the program and by the reference. -/

theorem mem_sortS {o : List ByteArray} {x : ByteArray} : x ∈ sortS o ↔ x ∈ o := by
  unfold sortS
  rw [List.mem_map]
  constructor
  · rintro ⟨b, hb, rfl⟩
    rw [List.mem_mergeSort, List.mem_map] at hb
    obtain ⟨y, hy, rfl⟩ := hb
    exact hy
  · intro h
    exact ⟨x.data.toList, by rw [List.mem_mergeSort, List.mem_map]; exact ⟨x, h, rfl⟩, rfl⟩
theorem known1 : whistle_FromLengths.f 30 [2, 1, 2] = some ([⟨#[45, 46]⟩, ⟨#[46]⟩, ⟨#[45, 45]⟩], 0) := by decide +kernel
theorem known2v : whistle_Validate.f 30 [⟨#[46]⟩, ⟨#[46, 45]⟩] = some 0 := by decide +kernel
theorem known3v : whistle_Validate.f 30 [⟨#[46]⟩, ⟨#[46, 45]⟩, ⟨#[45, 46]⟩] = some 0 := by decide +kernel
theorem known2e : goB [⟨#[46]⟩, ⟨#[46, 45]⟩] 30 (outA [⟨#[46]⟩, ⟨#[46, 45]⟩] 2) 0 = some [⟨#[45]⟩] := by decide +kernel
theorem known3e : goB [⟨#[46]⟩, ⟨#[46, 45]⟩, ⟨#[45, 46]⟩] 30 (outA [⟨#[46]⟩, ⟨#[46, 45]⟩, ⟨#[45, 46]⟩] 3) 0 = some [⟨#[45]⟩, ⟨#[46]⟩] := by decide +kernel
theorem safe_of {k : Nat} {C o : List ByteArray} (hv : whistle_Validate.f k C = some 0) (hC : C.length ≤ 100) (ho : goB C k (outA C C.length) 0 = some o) : whistle_IsSafe.f k C = some (!(C.any (Go.Lib.containsS o)), 0) := by
  unfold whistle_IsSafe.f endsL
  rw [hv, if_pos hC, ho]
  show some (!(C.any (Go.Lib.containsS (sortS o))), (0 : Int)) = _
  congr 3
  rw [Bool.eq_iff_iff, List.any_eq_true, List.any_eq_true]
  exact ⟨fun ⟨x, h1, h2⟩ => ⟨x, h1, inS_iff.2 (mem_sortS.1 (inS_iff.1 h2))⟩, fun ⟨x, h1, h2⟩ => ⟨x, h1, inS_iff.2 (mem_sortS.2 (inS_iff.1 h2))⟩⟩
theorem known_ev : Ev (fun k => wigeonlaw05_known.f k) true := by
  refine Ev.of (k := 30) (fun k => wigeonlaw05_known.mono k) ?_
  unfold wigeonlaw05_known.f
  rw [known1, safe_of known2v (by decide) known2e, safe_of known3v (by decide) known3e]
  decide +kernel
theorem known_bind {r : Bool} (h : r = true) : Ev (fun k => (wigeonlaw05_known.f k).bind fun t => some t) r := by
  subst h
  exact Ev.bind known_ev (Ev.now _)
/-! Notes. -/
def noteB (b : UInt8) : Bool := b == 46 || b == 45
theorem noteB_iff {b : UInt8} : noteB b = true ↔ b = 46 ∨ b = 45 := by unfold noteB; simp
theorem bt_nat {s : ByteArray} {i : Nat} (h : i < s.data.toList.length) : bt s (i : Int) = ((s.data.toList[i].toNat : Nat) : Int) := by
  have h2 : i < s.size := by rwa [Array.length_toList] at h
  exact w_bt_of h2
theorem noteW_byte (b : UInt8) : noteW ((b.toNat : Nat) : Int) = noteB b := by
  rw [Bool.eq_iff_iff, noteB_iff]
  unfold noteW
  rw [Bool.or_eq_true, decide_eq_true_eq, decide_eq_true_eq]
  constructor
  · rintro (h | h)
    · exact .inl (UInt8.toNat_inj.1 (by show b.toNat = 46; omega))
    · exact .inr (UInt8.toNat_inj.1 (by show b.toNat = 45; omega))
  · rintro (rfl | rfl)
    · exact .inl rfl
    · exact .inr rfl
theorem notesP_list (s : ByteArray) : notesP s = s.data.toList.all noteB := by
  unfold notesP
  rw [Bool.eq_iff_iff, List.all_eq_true, List.all_eq_true]
  constructor
  · intro h b hb
    obtain ⟨i, hi, rfl⟩ := List.mem_iff_getElem.1 hb
    have := h i (List.mem_range.2 (by rwa [Array.length_toList] at hi))
    rwa [bt_nat hi, noteW_byte] at this
  · intro h i hi
    have hi := List.mem_range.1 hi
    have hi2 : i < s.data.toList.length := by rwa [Array.length_toList]
    rw [bt_nat hi2, noteW_byte]
    exact h _ (List.getElem_mem hi2)
theorem notes_eq {s : ByteArray} (h : s.size ≤ 140737488351232) : whistle_notes.f s = some (notesP s) := by unfold whistle_notes.f; rw [if_pos (by omega)]
theorem isNotes_at (s : ByteArray) (hs : s.size < bigC) (d : Nat) : ∀ i, i + d = s.size → Ev (fun k => wigeonref05_isNotes.l0 k s (i : Int)) ((s.data.toList.drop i).all noteB) := by
  unfold bigC at hs
  have hlen : s.data.toList.length = s.size := Array.length_toList
  induction d with
  | zero =>
    intro i hi
    rw [List.drop_eq_nil_of_le (by omega)]
    exact Ev.step (fun k => by rw [wigeonref05_isNotes.l0]) (Ev.ifn (by omega) (Ev.val (by rfl)))
  | succ d ih =>
    intro i hi
    have h2 : i < s.data.toList.length := by omega
    rw [List.drop_eq_getElem_cons h2, List.all_cons]
    refine Ev.step (fun k => by rw [wigeonref05_isNotes.l0]) (Ev.ifp (by omega) (Ev.ifp (by omega) ?_))
    rw [bt_nat h2]
    have hn := noteW_byte s.data.toList[i]
    generalize s.data.toList[i] = b at *
    unfold noteW at hn
    by_cases h : ((b.toNat : Nat) : Int) = 46
    · refine Ev.ifp h ?_
      rw [decide_eq_true h] at hn
      rw [← hn, Bool.true_or, Bool.true_and, w64s (by omega)]
      exact ih (i + 1) (by omega)
    · refine Ev.ifn h ?_
      rw [decide_eq_false h, Bool.false_or] at hn
      by_cases h5 : ((b.toNat : Nat) : Int) = 45
      · refine Ev.ifp h5 ?_
        rw [decide_eq_true h5] at hn
        rw [← hn, Bool.true_and, w64s (by omega)]
        exact ih (i + 1) (by omega)
      · refine Ev.ifn h5 (Ev.val ?_)
        rw [decide_eq_false h5] at hn
        rw [← hn, Bool.false_and]
theorem isNotes_ev (s : ByteArray) (hs : s.size < bigC) : Ev (fun k => wigeonref05_isNotes.f k s) (notesP s) := by
  have := isNotes_at s hs s.size 0 (by omega)
  rw [List.drop_zero, ← notesP_list] at this
  exact this
/-! Validate. -/
def okS (s : ByteArray) : Bool := decide (1 ≤ s.size) && decide (s.size ≤ 12) && notesP s
def valAt (C : List ByteArray) : Nat → Nat → Int
  | 0, _ => 0
  | d + 1, i => if okS (gt C i) = false then 1 else if Go.Lib.containsS (C.take i) (gt C i) = true then 5 else valAt C d (i + 1)
def valP (C : List ByteArray) : Int := if C.length < 1 ∨ 12 < C.length then 3 else valAt C C.length 0
def Sized (C : List ByteArray) : Prop := ∀ s ∈ C, s.size ≤ 140737488351232
theorem Sized.gt {C : List ByteArray} (h : Sized C) (i : Nat) : (gt C i).size ≤ 140737488351232 := by
  by_cases hi : i < C.length
  · exact h _ (getD_mem hi)
  · unfold Pure.gt
    rw [List.getD_eq_getElem?_getD, List.getElem?_eq_none (by omega)]
    decide
theorem val_at (C : List ByteArray) (hC : C.length ≤ 12) (hS : Sized C) (d : Nat) : ∀ i, i + d = C.length → Ev (fun k => whistle_Validate.l0 k C C (C.length : Int) (i : Int)) (valAt C d i) := by
  induction d with
  | zero =>
    intro i hi
    exact Ev.step (fun k => by rw [whistle_Validate.l0]) (Ev.ifn (by omega) (Ev.val (by rfl)))
  | succ d ih =>
    intro i hi
    have hs := hS.gt i
    have hj1 : ∀ v : ByteArray, Ev (fun k => whistle_Validate.j2 k C (i : Int) v C (C.length : Int) (i : Int) true) 1 := fun v => Ev.step (fun k => by rw [whistle_Validate.j2]) (Ev.ifp rfl (Ev.now _))
    unfold valAt
    refine Ev.step (fun k => by rw [whistle_Validate.l0, rdOf_gt]) (Ev.ifp (by omega) (Ev.ifp (by omega) (Ev.ifp (by omega) ?_)))
    by_cases h1 : 1 ≤ (gt C i).size
    · refine Ev.ifn (by omega) ?_
      by_cases h2 : (gt C i).size ≤ 12
      · refine Ev.ifn (by omega) (Ev.bindc (notes_eq hs) ?_)
        have hok : okS (gt C i) = notesP (gt C i) := by unfold okS; rw [decide_eq_true h1, decide_eq_true h2]; rfl
        rw [hok]
        cases hn : notesP (gt C i)
        · rw [if_pos rfl]; exact hj1 _
        · rw [if_neg (by decide)]
          refine Ev.step (fun k => by rw [whistle_Validate.j2]) (Ev.ifn (by decide) (Ev.ifp (by omega) (Ev.ifp (by omega) ?_)))
          rw [Int.toNat_natCast]
          refine Ev.bind (contains_ev (C.take i) (gt C i) (by rw [List.length_take]; unfold bigC; omega)) ?_
          by_cases hc : Go.Lib.containsS (C.take i) (gt C i) = true
          · rw [if_pos hc]
            exact Ev.ifp hc (Ev.now _)
          · rw [if_neg hc]
            refine Ev.ifn hc ?_
            rw [w64s (by omega)]
            exact ih (i + 1) (by omega)
      · refine Ev.ifp (by omega) ?_
        rw [if_pos (by unfold okS; rw [decide_eq_false h2, Bool.and_false, Bool.false_and])]
        exact hj1 _
    · refine Ev.ifp (by omega) ?_
      rw [if_pos (by unfold okS; rw [decide_eq_false h1, Bool.false_and, Bool.false_and])]
      exact hj1 _
theorem val_ev (C : List ByteArray) (hS : Sized C) : Ev (fun k => whistle_Validate.f k C) (valP C) := by
  unfold whistle_Validate.f valP
  have hj : Ev (fun k => whistle_Validate.j0 k C true) 3 := Ev.step (fun k => by rw [whistle_Validate.j0]) (Ev.ifp rfl (Ev.now _))
  by_cases h1 : C.length < 1
  · rw [if_pos (.inl h1)]
    exact Ev.ifp (by omega) hj
  · refine Ev.ifn (by omega) ?_
    by_cases h2 : 12 < C.length
    · rw [if_pos (.inr h2), decide_eq_true (show (C.length : Int) > 12 by omega)]
      exact hj
    · rw [if_neg (by omega), decide_eq_false (show ¬ (C.length : Int) > 12 by omega)]
      have h0 : Ev (fun k => whistle_Validate.l0 k C C (C.length : Int) 0) (valAt C C.length 0) := val_at C (by omega) hS C.length 0 (by omega)
      exact Ev.step (fun k => by rw [whistle_Validate.j0]) (Ev.ifn (by decide) h0)
theorem rval_in (C : List ByteArray) (hC : C.length ≤ 12) (i : Nat) (hi : i < C.length) (r0 : Int) (hr : Ev (fun k => wigeonref05_Validate.l0 k C ((i + 1 : Nat) : Int)) r0) (d : Nat) : ∀ j, j + d = i → Ev (fun k => wigeonref05_Validate.l1 k C (i : Int) (j : Int)) (if Go.Lib.containsS ((C.take i).drop j) (gt C i) = true then 5 else r0) := by
  induction d with
  | zero =>
    intro j hj
    rw [List.drop_eq_nil_of_le (by rw [List.length_take]; omega), inS_false (by simp), if_neg (by decide)]
    refine Ev.step (fun k => by rw [wigeonref05_Validate.l1]) (Ev.ifn (by omega) ?_)
    rw [w64s (by omega)]
    exact hr
  | succ d ih =>
    intro j hj
    have hg : gt (C.take i) j = gt C j := by
      unfold gt
      rw [List.getD_eq_getElem?_getD, List.getD_eq_getElem?_getD, List.getElem?_take_of_lt (by omega)]
    rw [drop_gt (show j < (C.take i).length by rw [List.length_take]; omega), hg]
    refine Ev.step (fun k => by rw [wigeonref05_Validate.l1, rdOf_gt, rdOf_gt]) (Ev.ifp (by omega) (Ev.ifp (by omega) (Ev.ifp (by omega) (Ev.ifp (by omega) (Ev.ifp (by omega) ?_)))))
    by_cases h : gt C j = gt C i
    · rw [inS_true (by rw [h]; simp), if_pos rfl]
      exact Ev.ifp (str_eq.2 h) (Ev.now _)
    · refine Ev.ifn (fun e => h (str_eq.1 e)) ?_
      rw [w64s (by omega)]
      have := ih (j + 1) (by omega)
      rwa [inS_eq (l := gt C j :: (C.take i).drop (j + 1)) (m := (C.take i).drop (j + 1)) (x := gt C i) (y := gt C i) (by rw [List.mem_cons]; exact ⟨fun e => e.resolve_left (fun e => h e.symm), .inr⟩)]
theorem rval_at (C : List ByteArray) (hC : C.length ≤ 12) (hS : Sized C) (d : Nat) : ∀ i, i + d = C.length → Ev (fun k => wigeonref05_Validate.l0 k C (i : Int)) (valAt C d i) := by
  induction d with
  | zero =>
    intro i hi
    exact Ev.step (fun k => by rw [wigeonref05_Validate.l0]) (Ev.ifn (by omega) (Ev.val (by rfl)))
  | succ d ih =>
    intro i hi
    have hs := hS.gt i
    have hj1 : Ev (fun k => wigeonref05_Validate.j2 k C (i : Int) true) 1 := Ev.step (fun k => by rw [wigeonref05_Validate.j2]) (Ev.ifp rfl (Ev.now _))
    unfold valAt
    refine Ev.step (fun k => by rw [wigeonref05_Validate.l0, rdOf_gt]) (Ev.ifp (by omega) (Ev.ifp (by omega) ?_))
    by_cases h1 : 1 ≤ (gt C i).size
    · refine Ev.ifn (by omega) ?_
      by_cases h2 : (gt C i).size ≤ 12
      · refine Ev.ifn (by omega) (Ev.bind (isNotes_ev _ (by unfold bigC; omega)) ?_)
        have hok : okS (gt C i) = notesP (gt C i) := by unfold okS; rw [decide_eq_true h1, decide_eq_true h2]; rfl
        rw [hok]
        cases hn : notesP (gt C i)
        · rw [if_pos rfl]; exact hj1
        · rw [if_neg (by decide)]
          refine Ev.step (fun k => by rw [wigeonref05_Validate.j2]) (Ev.ifn (by decide) ?_)
          have h0 : Ev (fun k => wigeonref05_Validate.l1 k C (i : Int) 0) (if Go.Lib.containsS ((C.take i).drop 0) (gt C i) = true then 5 else valAt C d (i + 1)) := rval_in C hC i (by omega) _ (ih (i + 1) (by omega)) i 0 (by omega)
          rwa [List.drop_zero] at h0
      · refine Ev.ifp (by omega) ?_
        rw [if_pos (by unfold okS; rw [decide_eq_false h2, Bool.and_false, Bool.false_and])]
        exact hj1
    · refine Ev.ifp (by omega) ?_
      rw [if_pos (by unfold okS; rw [decide_eq_false h1, Bool.false_and, Bool.false_and])]
      exact hj1
theorem rval_ev (C : List ByteArray) (hS : Sized C) : Ev (fun k => wigeonref05_Validate.f k C) (valP C) := by
  unfold wigeonref05_Validate.f valP
  have hj : Ev (fun k => wigeonref05_Validate.j0 k C true) 3 := Ev.step (fun k => by rw [wigeonref05_Validate.j0]) (Ev.ifp rfl (Ev.now _))
  by_cases h1 : C.length < 1
  · rw [if_pos (.inl h1)]
    exact Ev.ifp (by omega) hj
  · refine Ev.ifn (by omega) ?_
    by_cases h2 : 12 < C.length
    · rw [if_pos (.inr h2), decide_eq_true (show (C.length : Int) > 12 by omega)]
      exact hj
    · rw [if_neg (by omega), decide_eq_false (show ¬ (C.length : Int) > 12 by omega)]
      have h0 : Ev (fun k => wigeonref05_Validate.l0 k C 0) (valAt C C.length 0) := rval_at C (by omega) hS C.length 0 (by omega)
      exact Ev.step (fun k => by rw [wigeonref05_Validate.j0]) (Ev.ifn (by decide) h0)
/-- A valid code. -/
structure Valid (C : List ByteArray) : Prop where
  pos : 1 ≤ C.length
  few : C.length ≤ 12
  size1 : ∀ s ∈ C, 1 ≤ s.size
  size12 : ∀ s ∈ C, s.size ≤ 12
  notes : ∀ s ∈ C, notesP s = true
  nodup : C.Nodup
theorem okS_iff {s : ByteArray} : okS s = true ↔ 1 ≤ s.size ∧ s.size ≤ 12 ∧ notesP s = true := by
  unfold okS
  rw [Bool.and_eq_true, Bool.and_eq_true, decide_eq_true_eq, decide_eq_true_eq]
  exact and_assoc
theorem valAt_zero (C : List ByteArray) (d : Nat) : ∀ i, i + d = C.length → (valAt C d i = 0 ↔ (∀ j, i ≤ j → j < C.length → okS (gt C j) = true ∧ gt C j ∉ C.take j)) := by
  induction d with
  | zero => intro i hi; exact ⟨fun _ j h1 h2 => by omega, fun _ => rfl⟩
  | succ d ih =>
    intro i hi
    unfold valAt
    by_cases h1 : okS (gt C i) = false
    · rw [if_pos h1]
      exact ⟨fun h => by omega, fun h => by have := (h i (Nat.le_refl _) (by omega)).1; rw [h1] at this; cases this⟩
    · rw [if_neg h1]
      by_cases h2 : Go.Lib.containsS (C.take i) (gt C i) = true
      · rw [if_pos h2]
        exact ⟨fun h => by omega, fun h => absurd (inS_iff.1 h2) (h i (Nat.le_refl _) (by omega)).2⟩
      · rw [if_neg h2, ih (i + 1) (by omega)]
        constructor
        · intro h j h3 h4
          by_cases e : j = i
          · subst e
            exact ⟨by simpa using h1, fun hm => h2 (inS_iff.2 hm)⟩
          · exact h j (by omega) h4
        · intro h j h3 h4; exact h j (by omega) h4
theorem nodup_take {C : List ByteArray} : C.Nodup ↔ ∀ j, j < C.length → gt C j ∉ C.take j := by
  constructor
  · intro h j hj hm
    obtain ⟨i, hi, e⟩ := List.mem_iff_getElem.1 hm
    rw [List.length_take] at hi
    rw [List.getElem_take] at e
    have hij : i < j := by omega
    have e2 : gt C j = C[j] := by unfold gt; rw [List.getD_eq_getElem?_getD, List.getElem?_eq_getElem hj]; rfl
    rw [e2] at e
    have := (List.getElem_inj h).1 e
    omega
  · intro h
    rw [List.nodup_iff_pairwise_ne, List.pairwise_iff_getElem]
    intro i j hi hj hij e
    refine h j hj ?_
    have e2 : gt C j = C[j] := by unfold gt; rw [List.getD_eq_getElem?_getD, List.getElem?_eq_getElem hj]; rfl
    rw [e2, ← e]
    exact List.mem_iff_getElem.2 ⟨i, by rw [List.length_take]; omega, by rw [List.getElem_take]⟩
theorem valP_zero {C : List ByteArray} : valP C = 0 ↔ Valid C := by
  unfold valP
  by_cases h : C.length < 1 ∨ 12 < C.length
  · rw [if_pos h]
    exact ⟨fun e => by omega, fun v => by have := v.pos; have := v.few; omega⟩
  · rw [if_neg h, valAt_zero C C.length 0 (by omega)]
    constructor
    · intro h2
      have hm : ∀ s ∈ C, okS s = true := fun s hs => by
        obtain ⟨i, hi, rfl⟩ := mem_getD (d := ByteArray.empty) hs
        exact (h2 i (Nat.zero_le _) hi).1
      exact ⟨by omega, by omega, fun s hs => (okS_iff.1 (hm s hs)).1, fun s hs => (okS_iff.1 (hm s hs)).2.1, fun s hs => (okS_iff.1 (hm s hs)).2.2, nodup_take.2 fun j hj => (h2 j (Nat.zero_le _) hj).2⟩
    · intro v j _ hj
      have hm := getD_mem (d := ByteArray.empty) hj
      exact ⟨okS_iff.2 ⟨v.size1 _ hm, v.size12 _ hm, v.notes _ hm⟩, nodup_take.1 v.nodup j hj⟩

/-! The bytes of a text. -/

def bs (s : ByteArray) : List UInt8 := s.data.toList
theorem bs_inj {a b : ByteArray} (h : bs a = bs b) : a = b := by
  rw [← str_eq, ByteArray.toList_eq, ByteArray.toList_eq]; exact h
theorem bs_mk (l : List UInt8) : bs ⟨l.toArray⟩ = l := by unfold bs; simp
theorem bs_len (s : ByteArray) : (bs s).length = s.size := Array.length_toList
theorem headB_iff {y x : ByteArray} : headB y x = true ↔ ∃ t, bs y = bs x ++ t := by
  unfold headB Lib.hasPrefix
  rw [List.isPrefixOf_iff_prefix]
  exact ⟨fun ⟨t, h⟩ => ⟨t, h.symm⟩, fun ⟨t, h⟩ => ⟨t, h.symm⟩⟩
theorem toList_bs (s : ByteArray) : s.toList = bs s := ByteArray.toList_eq s
theorem gt_mem {C : List ByteArray} {i : Nat} (h : i < C.length) : gt C i ∈ C := getD_mem h
theorem mem_gt {C : List ByteArray} {x : ByteArray} (h : x ∈ C) : ∃ i, i < C.length ∧ gt C i = x := mem_getD h
theorem bs_ext (s : ByteArray) (i j : Nat) : bs (s.extract i j) = ((bs s).take j).drop i := by
  unfold bs
  rw [ByteArray.data_extract, Array.toList_extract, List.extract_eq_take_drop, List.drop_take]

/-! What is left over: the program's and the reference's searches find just that. -/

/-- s is left over of y behind x. -/
def Cut (y x s : ByteArray) : Prop := bs y = bs x ++ bs s ∧ bs s ≠ []
theorem restB_of {y x : ByteArray} {t : List UInt8} (h : bs y = bs x ++ t) : bs (restB y x) = t := by
  have hh := headB_iff.2 ⟨t, h⟩
  unfold restB
  rw [bs_mk]
  unfold Lib.trimPrefix
  unfold headB at hh
  rw [hh, if_pos rfl]
  show (bs y).drop (bs x).length = t
  rw [h, List.drop_left]
theorem addB_iff {o : List ByteArray} {t : ByteArray} {b : Bool} : addB o t b = true ↔ b = true ∧ bs t ≠ [] ∧ t ∉ o := by
  unfold addB
  rw [Bool.and_eq_true, Bool.and_eq_true, toList_bs, Bool.not_eq_true', Bool.not_eq_true', List.isEmpty_eq_false_iff, Bool.eq_false_iff]
  constructor
  · rintro ⟨⟨h1, h2⟩, h3⟩; exact ⟨h1, h2, fun h => h3 (inS_iff.2 h)⟩
  · rintro ⟨h1, h2, h3⟩; exact ⟨⟨h1, h2⟩, fun h => h3 (inS_iff.1 h)⟩
theorem mem_addO {o : List ByteArray} {t s : ByteArray} {b : Bool} : s ∈ addO o t b ↔ s ∈ o ∨ (b = true ∧ bs t ≠ [] ∧ s = t) := by
  unfold addO
  by_cases h : addB o t b = true
  · rw [if_pos h, List.mem_append, List.mem_singleton]
    have h2 := addB_iff.1 h
    exact ⟨fun e => e.imp id (fun e => ⟨h2.1, h2.2.1, e⟩), fun e => e.imp id (fun e => e.2.2)⟩
  · rw [if_neg h]
    refine ⟨.inl, fun e => e.elim id ?_⟩
    rintro ⟨h1, h2, rfl⟩
    apply Classical.byContradiction
    intro hn
    exact h (addB_iff.2 ⟨h1, h2, hn⟩)
theorem addO_nodup {o : List ByteArray} {t : ByteArray} {b : Bool} (h : o.Nodup) : (addO o t b).Nodup := by
  unfold addO
  by_cases hb : addB o t b = true
  · rw [if_pos hb]
    have h2 := (addB_iff.1 hb).2.2
    refine List.nodup_append.2 ⟨h, by simp, fun a ha c hc e => ?_⟩
    rw [List.mem_singleton] at hc
    subst hc; subst e; exact h2 ha
  · rw [if_neg hb]; exact h
theorem mem_cutO {o : List ByteArray} {y x s : ByteArray} : s ∈ cutO o y x ↔ s ∈ o ∨ Cut y x s := by
  unfold cutO
  rw [mem_addO]
  constructor
  · rintro (h | ⟨h1, h2, rfl⟩)
    · exact .inl h
    · obtain ⟨t, ht⟩ := headB_iff.1 h1
      refine .inr ⟨?_, h2⟩
      rw [restB_of ht]; exact ht
  · rintro (h | ⟨h1, h2⟩)
    · exact .inl h
    · have := restB_of h1
      exact .inr ⟨headB_iff.2 ⟨_, h1⟩, by rw [this]; exact h2, bs_inj this.symm⟩
theorem cutO_nodup {o : List ByteArray} {y x : ByteArray} (h : o.Nodup) : (cutO o y x).Nodup := addO_nodup h
theorem mem_inA {C : List ByteArray} {x s : ByteArray} {o : List ByteArray} : ∀ {j}, s ∈ inA C x j o ↔ s ∈ o ∨ ∃ i, i < j ∧ Cut (gt C i) x s
  | 0 => ⟨.inl, fun h => h.elim id fun ⟨i, h, _⟩ => by omega⟩
  | j + 1 => by
    show s ∈ cutO (inA C x j o) (gt C j) x ↔ _
    rw [mem_cutO, mem_inA]
    constructor
    · rintro ((h | ⟨i, hi, h⟩) | h)
      · exact .inl h
      · exact .inr ⟨i, by omega, h⟩
      · exact .inr ⟨j, by omega, h⟩
    · rintro (h | ⟨i, hi, h⟩)
      · exact .inl (.inl h)
      · by_cases e : i = j
        · subst e; exact .inr h
        · exact .inl (.inr ⟨i, by omega, h⟩)
theorem inA_nodup {C : List ByteArray} {x : ByteArray} {o : List ByteArray} (h : o.Nodup) : ∀ j, (inA C x j o).Nodup
  | 0 => h
  | j + 1 => cutO_nodup (inA_nodup h j)
theorem mem_outA {C : List ByteArray} {s : ByteArray} : ∀ {k}, s ∈ outA C k ↔ ∃ i, i < k ∧ ∃ j, j < C.length ∧ Cut (gt C j) (gt C i) s
  | 0 => ⟨fun h => by simp [outA] at h, fun ⟨i, h, _⟩ => by omega⟩
  | k + 1 => by
    show s ∈ inA C (gt C k) C.length (outA C k) ↔ _
    rw [mem_inA, mem_outA]
    constructor
    · rintro (⟨i, hi, h⟩ | ⟨j, hj, h⟩)
      · exact ⟨i, by omega, h⟩
      · exact ⟨k, by omega, j, hj, h⟩
    · rintro ⟨i, hi, j, hj, h⟩
      by_cases e : i = k
      · subst e; exact .inr ⟨j, hj, h⟩
      · exact .inl ⟨i, by omega, j, hj, h⟩
theorem outA_nodup {C : List ByteArray} : ∀ k, (outA C k).Nodup
  | 0 => List.nodup_nil
  | k + 1 => inA_nodup (outA_nodup k) _
theorem mem_inB {C : List ByteArray} {e s : ByteArray} {o : List ByteArray} : ∀ {j}, s ∈ inB C e j o ↔ s ∈ o ∨ ∃ i, i < j ∧ (Cut e (gt C i) s ∨ Cut (gt C i) e s)
  | 0 => ⟨.inl, fun h => h.elim id fun ⟨i, h, _⟩ => by omega⟩
  | j + 1 => by
    show s ∈ cutO (cutO (inB C e j o) e (gt C j)) (gt C j) e ↔ _
    rw [mem_cutO, mem_cutO, mem_inB]
    constructor
    · rintro (((h | ⟨i, hi, h⟩) | h) | h)
      · exact .inl h
      · exact .inr ⟨i, by omega, h⟩
      · exact .inr ⟨j, by omega, .inl h⟩
      · exact .inr ⟨j, by omega, .inr h⟩
    · rintro (h | ⟨i, hi, h⟩)
      · exact .inl (.inl (.inl h))
      · by_cases e : i = j
        · subst e
          rcases h with h | h
          · exact .inl (.inr h)
          · exact .inr h
        · exact .inl (.inl (.inr ⟨i, by omega, h⟩))
theorem inB_nodup {C : List ByteArray} {e : ByteArray} {o : List ByteArray} (h : o.Nodup) : ∀ j, (inB C e j o).Nodup
  | 0 => h
  | j + 1 => cutO_nodup (cutO_nodup (inB_nodup h j))
/-! Words. -/
def wds (C : List ByteArray) : List (List UInt8) := C.map bs
theorem mem_wds {C : List ByteArray} {x : List UInt8} : x ∈ wds C ↔ ∃ s, s ∈ C ∧ bs s = x := List.mem_map
def LeftS (C : List ByteArray) (s : ByteArray) : Prop := Left (wds C) (bs s)
theorem LeftS.base {C : List ByteArray} {x y s : ByteArray} (hx : x ∈ C) (hy : y ∈ C) (h : Cut y x s) : LeftS C s := Left.base (mem_wds.2 ⟨x, hx, rfl⟩) (mem_wds.2 ⟨y, hy, rfl⟩) h.1 h.2
theorem LeftS.on {C : List ByteArray} {e x s : ByteArray} (he : LeftS C e) (hx : x ∈ C) (h : Cut e x s ∨ Cut x e s) : LeftS C s := by
  rcases h with h | h
  · exact Left.cut he (mem_wds.2 ⟨x, hx, rfl⟩) h.1 h.2
  · exact Left.rest he (mem_wds.2 ⟨x, hx, rfl⟩) h.1 h.2
/-- A list from which nothing more is left over has all. -/
theorem closed_has {C E : List ByteArray} (h1 : ∀ x ∈ C, ∀ y ∈ C, ∀ s, Cut y x s → s ∈ E) (h2 : ∀ e ∈ E, ∀ x ∈ C, ∀ s, (Cut e x s ∨ Cut x e s) → s ∈ E) {s : ByteArray} (h : LeftS C s) : s ∈ E := by
  have key : ∀ t, Left (wds C) t → (⟨t.toArray⟩ : ByteArray) ∈ E := by
    intro t ht
    induction ht with
    | base hx hy e hne =>
      obtain ⟨x, hx2, rfl⟩ := mem_wds.1 hx
      obtain ⟨y, hy2, rfl⟩ := mem_wds.1 hy
      exact h1 x hx2 y hy2 _ ⟨by rw [bs_mk]; exact e, by rw [bs_mk]; exact hne⟩
    | cut he hx e hne ih =>
      obtain ⟨x, hx2, rfl⟩ := mem_wds.1 hx
      exact h2 _ ih x hx2 _ (.inl ⟨by rw [bs_mk, bs_mk]; exact e, by rw [bs_mk]; exact hne⟩)
    | rest he hx e hne ih =>
      obtain ⟨x, hx2, rfl⟩ := mem_wds.1 hx
      exact h2 _ ih x hx2 _ (.inr ⟨by rw [bs_mk, bs_mk]; exact e, by rw [bs_mk]; exact hne⟩)
  have := key _ h
  rwa [show (⟨(bs s).toArray⟩ : ByteArray) = s from bs_inj (bs_mk _)] at this
/-- What can be left over is an end of a signal. -/
def tails (C : List ByteArray) : List ByteArray := C.flatMap fun s => (List.range (s.size + 1)).map fun i => ⟨((bs s).drop i).toArray⟩
theorem left_tail {C : List ByteArray} {s : ByteArray} (h : LeftS C s) : s ∈ tails C := by
  have key : ∀ t, Left (wds C) t → ∃ x ∈ C, ∃ a, bs x = a ++ t := by
    intro t ht
    induction ht with
    | base hx hy e _ =>
      obtain ⟨y, hy2, rfl⟩ := mem_wds.1 hy
      exact ⟨y, hy2, _, e⟩
    | cut he hx e _ ih =>
      obtain ⟨z, hz, a, ha⟩ := ih
      exact ⟨z, hz, _, by rw [ha, e, ← List.append_assoc]⟩
    | rest he hx e _ ih =>
      obtain ⟨x, hx2, rfl⟩ := mem_wds.1 hx
      exact ⟨x, hx2, _, e⟩
  obtain ⟨x, hx, a, ha⟩ := key _ h
  unfold tails
  rw [List.mem_flatMap]
  refine ⟨x, hx, ?_⟩
  rw [List.mem_map]
  refine ⟨a.length, List.mem_range.2 ?_, ?_⟩
  · have := congrArg List.length ha
    rw [List.length_append, bs_len] at this; omega
  · rw [ha, List.drop_left]
    exact bs_inj (bs_mk _)
theorem nodup_len {α : Type} {l : List α} : ∀ {m : List α}, l.Nodup → (∀ x ∈ l, x ∈ m) → l.length ≤ m.length := by
  induction l with
  | nil => intro m _ _; exact Nat.zero_le _
  | cons a l ih =>
    intro m h hm
    obtain ⟨p, q, e⟩ := List.append_of_mem (hm a (List.mem_cons_self ..))
    have h2 := List.nodup_cons.1 h
    have := ih (m := p ++ q) h2.2 (fun x hx => by
      have := hm x (List.mem_cons_of_mem _ hx)
      rw [e, List.mem_append, List.mem_cons] at this
      rw [List.mem_append]
      rcases this with h | h | h
      · exact .inl h
      · subst h; exact absurd hx h2.1
      · exact .inr h)
    rw [e, List.length_append, List.length_cons]
    rw [List.length_append] at this
    rw [List.length_cons]; omega
theorem tails_len (C : List ByteArray) (h : ∀ s ∈ C, s.size ≤ 12) : (tails C).length ≤ 13 * C.length := by
  unfold tails
  induction C with
  | nil => exact Nat.zero_le _
  | cons a C ih =>
    have h1 := h a (List.mem_cons_self ..)
    have h2 := ih (fun s hs => h s (List.mem_cons_of_mem _ hs))
    rw [List.flatMap_cons, List.length_append, List.length_map, List.length_range, List.length_cons]
    omega
/-- How a search stands. -/
structure Found (C : List ByteArray) (o : List ByteArray) (i : Nat) : Prop where
  nodup : o.Nodup
  left : ∀ s ∈ o, LeftS C s
  base : ∀ x ∈ C, ∀ y ∈ C, ∀ s, Cut y x s → s ∈ o
  done : ∀ j, j < i → ∀ x ∈ C, ∀ s, (Cut (gt o j) x s ∨ Cut x (gt o j) s) → s ∈ o
  le : i ≤ o.length
theorem Found.len {C o : List ByteArray} {i : Nat} (h : Found C o i) (v : Valid C) : o.length ≤ 156 := by
  have h1 := nodup_len h.nodup (fun s hs => left_tail (h.left s hs))
  have h2 := tails_len C v.size12
  have := v.few
  omega
theorem Found.all {C o : List ByteArray} (h : Found C o o.length) {s : ByteArray} : s ∈ o ↔ LeftS C s := by
  refine ⟨h.left s, fun hs => closed_has h.base (fun e he x hx s h2 => ?_) hs⟩
  obtain ⟨j, hj, rfl⟩ := mem_getD (d := ByteArray.empty) he
  exact h.done j hj x hx s h2
/-- One row of the search more. -/
theorem Found.next {C o o' : List ByteArray} {i : Nat} (h : Found C o i) (hi : i < o.length) (hn : o'.Nodup) (hm : ∀ s, s ∈ o' ↔ s ∈ o ∨ ∃ x, x ∈ C ∧ (Cut (gt o i) x s ∨ Cut x (gt o i) s)) (hg : ∀ j, j < o.length → gt o' j = gt o j) (hl : o.length ≤ o'.length) : Found C o' (i + 1) where
  nodup := hn
  left := fun s hs => by
    rcases (hm s).1 hs with h1 | ⟨x, hx, h1⟩
    · exact h.left s h1
    · exact (h.left _ (gt_mem hi)).on hx h1
  base := fun x hx y hy s hc => (hm s).2 (.inl (h.base x hx y hy s hc))
  done := fun j hj x hx s hc => by
    by_cases e : j = i
    · subst e
      rw [hg j hi] at hc
      exact (hm s).2 (.inr ⟨x, hx, hc⟩)
    · rw [hg j (by omega)] at hc
      exact (hm s).2 (.inl (h.done j (by omega) x hx s hc))
  le := by omega
theorem goB_found {C : List ByteArray} (v : Valid C) : ∀ (f : Nat) (o : List ByteArray) (i : Nat), Found C o i → 157 ≤ f + i → ∃ r, goB C f o i = some r ∧ Found C r r.length := by
  intro f
  induction f with
  | zero =>
    intro o i h hf
    have := h.len v
    have := h.le
    omega
  | succ f ih =>
    intro o i h hf
    have hl := h.len v
    unfold goB
    rw [if_pos (by omega)]
    by_cases hi : i < o.length
    · rw [if_pos hi]
      have hge := inB_ge C (gt o i) C.length o
      refine ih _ (i + 1) (h.next hi (inB_nodup h.nodup _) (fun s => ?_) (fun j hj => inB_get C (gt o i) j C.length o hj) hge) (by omega)
      show s ∈ inB C (gt o i) C.length o ↔ _
      rw [mem_inB]
      constructor
      · rintro (h1 | ⟨j, hj, h1⟩)
        · exact .inl h1
        · exact .inr ⟨gt C j, gt_mem hj, h1⟩
      · rintro (h1 | ⟨x, hx, h1⟩)
        · exact .inl h1
        · obtain ⟨j, hj, rfl⟩ := mem_gt hx
          exact .inr ⟨j, hj, h1⟩
    · rw [if_neg hi]
      have := h.le
      obtain rfl : i = o.length := by omega
      exact ⟨o, rfl, h⟩
theorem outA_found {C : List ByteArray} : Found C (outA C C.length) 0 where
  nodup := outA_nodup _
  left := fun s hs => by
    obtain ⟨i, hi, j, hj, h⟩ := mem_outA.1 hs
    exact LeftS.base (gt_mem hi) (gt_mem hj) h
  base := fun x hx y hy s h => by
    obtain ⟨i, hi, rfl⟩ := mem_gt hx
    obtain ⟨j, hj, rfl⟩ := mem_gt hy
    exact mem_outA.2 ⟨i, hi, j, hj, h⟩
  done := fun j hj => by omega
  le := Nat.zero_le _
/-- The program's ends. -/
theorem ends_ev {C : List ByteArray} (v : Valid C) : ∃ E, Ev (fun k => whistle_ends.f k C) (sortS E) ∧ E.Nodup ∧ (∀ s, s ∈ E ↔ LeftS C s) ∧ E.length ≤ 156 := by
  obtain ⟨E, h1, h2⟩ := goB_found v 157 _ 0 outA_found (by omega)
  refine ⟨E, Ev.of (k := 157) (fun k => whistle_ends.mono C k) ?_, h2.nodup, fun s => h2.all, h2.len v⟩
  unfold whistle_ends.f endsL
  rw [if_pos (by have := v.few; omega), h1]; rfl
/-- A code is safe if no signal can be left over. -/
def Safe (C : List ByteArray) : Prop := ¬ ∃ s, s ∈ C ∧ LeftS C s
noncomputable def safeB (C : List ByteArray) : Bool := @decide (Safe C) (Classical.propDecidable _)
theorem safeB_iff {C : List ByteArray} : safeB C = true ↔ Safe C := by unfold safeB; exact @decide_eq_true_iff _ (Classical.propDecidable _)
noncomputable def safeP (C : List ByteArray) : Bool × Int := if valP C = 0 then (safeB C, 0) else (false, valP C)
theorem safe_ev {C : List ByteArray} (hS : Sized C) : Ev (fun k => whistle_IsSafe.f k C) (safeP C) := by
  unfold whistle_IsSafe.f safeP
  refine Ev.bind (val_ev C hS) ?_
  by_cases h : valP C = 0
  · rw [if_pos (show valP C = 0 from h)]
    refine Ev.ifp h ?_
    obtain ⟨E, ⟨K, hK⟩, n1, m1, l1⟩ := ends_ev (valP_zero.1 h)
    refine ⟨K, fun k hk => ?_⟩
    have hE : endsL k C = some (sortS E) := hK k hk
    show (endsL k C).map _ = _
    rw [hE]
    show some (!(C.any (Go.Lib.containsS (sortS E))), (0 : Int)) = _
    congr 2
    rw [Bool.eq_iff_iff, safeB_iff, Bool.not_eq_true', Bool.eq_false_iff]
    unfold Safe
    refine not_congr ?_
    rw [List.any_eq_true]
    exact ⟨fun ⟨s, h1, h2⟩ => ⟨s, h1, (m1 s).1 (mem_sortS.1 (inS_iff.1 h2))⟩, fun ⟨s, h1, h2⟩ => ⟨s, h1, inS_iff.2 (mem_sortS.2 ((m1 s).2 h2))⟩⟩
  · rw [if_neg (show ¬ valP C = 0 from h)]
    exact Ev.ifn h (Ev.now _)
theorem wds_ne {C : List ByteArray} (v : Valid C) : ∀ x ∈ wds C, x ≠ [] := fun x hx e => by
  obtain ⟨s, hs, rfl⟩ := mem_wds.1 hx
  have h1 := v.size1 s hs
  have := bs_len s
  rw [e] at this
  simp at this; omega
theorem safe_iff {C : List ByteArray} (v : Valid C) : Safe C ↔ ¬ Amb (wds C) := by
  unfold Safe
  rw [amb_iff_left (wds_ne v)]
  refine not_congr ⟨fun ⟨s, h1, h2⟩ => ⟨bs s, mem_wds.2 ⟨s, h1, rfl⟩, h2⟩, fun ⟨x, h1, h2⟩ => ?_⟩
  obtain ⟨s, hs, rfl⟩ := mem_wds.1 h1
  exact ⟨s, hs, h2⟩

/-! Messages, and how they sound. -/

def inC (C : List ByteArray) (n : Int) : Bool := decide (0 ≤ n) && decide (n < (C.length : Int))
def msgP (C : List ByteArray) (m : List Int) : Int := if 400 < m.length then 3 else if m.all (inC C) = true then 0 else 4
theorem inC_iff {C : List ByteArray} {n : Int} : inC C n = true ↔ 0 ≤ n ∧ n < (C.length : Int) := by unfold inC; rw [Bool.and_eq_true, decide_eq_true_eq, decide_eq_true_eq]
theorem isMsg_at (C : List ByteArray) (m : List Int) (hm : m.length < bigC) (d : Nat) : ∀ i, i + d = m.length → Ev (fun k => whistle_isMessage.l0 k C m (m.length : Int) (i : Int)) (if (m.drop i).all (inC C) = true then 0 else 4) := by
  unfold bigC at hm
  induction d with
  | zero =>
    intro i hi
    rw [List.drop_eq_nil_of_le (by omega)]
    exact Ev.step (fun k => by rw [whistle_isMessage.l0]) (Ev.ifn (by omega) (Ev.val (by rfl)))
  | succ d ih =>
    intro i hi
    rw [drop_rd (show i < m.length by omega), List.all_cons]
    refine Ev.step (fun k => by rw [whistle_isMessage.l0]) (Ev.ifp (by omega) (Ev.ifp (by omega) (Ev.ifp (by omega) ?_)))
    by_cases h : inC C (rd m (i : Int)) = true
    · obtain ⟨h0, h1⟩ := inC_iff.1 h
      rw [h, Bool.true_and]
      refine Ev.ifn (by omega) (Ev.ifn (by omega) ?_)
      rw [w64s (by omega)]
      exact ih (i + 1) (by omega)
    · have h' : ¬ (0 ≤ rd m (i : Int) ∧ rd m (i : Int) < (C.length : Int)) := fun e => h (inC_iff.2 e)
      rw [Bool.eq_false_iff.2 h, Bool.false_and, if_neg (by decide)]
      by_cases h0 : rd m (i : Int) < 0
      · exact Ev.ifp h0 (Ev.now _)
      · exact Ev.ifn h0 (Ev.ifp (by omega) (Ev.now _))
theorem isMsg_ev (C : List ByteArray) (m : List Int) (hm : m.length < bigC) : Ev (fun k => whistle_isMessage.f k C m) (msgP C m) := by
  unfold whistle_isMessage.f msgP
  by_cases h : 400 < m.length
  · rw [if_pos h]; exact Ev.ifp (by omega) (Ev.now _)
  · rw [if_neg h]
    refine Ev.ifn (by omega) ?_
    have h0 : Ev (fun k => whistle_isMessage.l0 k C m (m.length : Int) 0) (if (m.drop 0).all (inC C) = true then 0 else 4) := isMsg_at C m hm m.length 0 (by omega)
    rwa [List.drop_zero] at h0
theorem msgP_zero {C : List ByteArray} {m : List Int} (h : msgP C m = 0) : m.length ≤ 400 ∧ m.all (inC C) = true := by
  unfold msgP at h
  split at h
  · omega
  · split at h
    · rename_i h1 h2; exact ⟨by omega, h2⟩
    · omega
theorem Valid.rdS {C : List ByteArray} (v : Valid C) (n : Int) : (rdS C n).size ≤ 12 := by
  unfold Q.rdS
  by_cases hn : n.toNat < C.length
  · exact v.size12 _ (getD_mem hn)
  · rw [List.getD_eq_getElem?_getD, List.getElem?_eq_none (by omega)]
    decide
theorem okM_of {C : List ByteArray} {m : List Int} (v : Valid C) (h : msgP C m = 0) : okM C m = true := by
  obtain ⟨h1, h2⟩ := msgP_zero h
  unfold okM
  rw [decide_eq_true h1, Bool.true_and, Bool.and_eq_true]
  refine ⟨h2, ?_⟩
  rw [List.all_eq_true]
  intro s hs
  exact decide_eq_true (v.size12 s hs)
/-- Sound, both. -/
def sndP (C : List ByteArray) (m : List Int) : ByteArray × Int := if valP C ≠ 0 then (⟨#[]⟩, valP C) else if msgP C m ≠ 0 then (⟨#[]⟩, msgP C m) else (soundB C m, 0)
theorem sound_ev (C : List ByteArray) (m : List Int) (hS : Sized C) (hm : m.length < bigC) : Ev (fun k => whistle_Sound.f k C m) (sndP C m) := by
  unfold whistle_Sound.f sndP
  refine Ev.bind (val_ev C hS) ?_
  by_cases h : valP C = 0
  · rw [if_neg (show ¬ (valP C ≠ 0) by simpa using h)]
    refine Ev.ifp h (Ev.bind (isMsg_ev C m hm) ?_)
    by_cases h2 : msgP C m = 0
    · rw [if_neg (show ¬ (msgP C m ≠ 0) by simpa using h2)]
      refine Ev.ifp h2 (Ev.bindc ?_ (Ev.now _))
      unfold whistle_sound.f
      rw [if_pos (okM_of (valP_zero.1 h) h2)]
    · rw [if_pos (show msgP C m ≠ 0 from h2)]; exact Ev.ifn h2 (Ev.now _)
  · rw [if_pos (show valP C ≠ 0 from h)]; exact Ev.ifn h (Ev.now _)
def mws (C : List ByteArray) (m : List Int) : List (List UInt8) := m.map fun n => bs (rdS C n)
theorem sndK_take (C : List ByteArray) (m : List Int) : ∀ k, k ≤ m.length → sndK C m k = (mws C (m.take k)).flatten
  | 0, _ => by simp [sndK, mws]
  | k + 1, h => by
    show sndK C m k ++ _ = _
    rw [sndK_take C m k (by omega)]
    have e : m.take (k + 1) = m.take k ++ [rd m (k : Int)] := by
      rw [List.take_succ_eq_append_getElem (by omega), rd_nat, List.getD_eq_getElem?_getD, List.getElem?_eq_getElem (by omega)]; rfl
    unfold mws
    rw [e, List.map_append, List.flatten_append]
    simp [bs]
theorem sound_words (C : List ByteArray) (m : List Int) : bs (soundB C m) = (mws C m).flatten := by
  unfold soundB
  rw [bs_mk, sndK_take C m m.length (Nat.le_refl _), List.take_length]
theorem rdS_in {C : List ByteArray} {n : Int} (h0 : 0 ≤ n) (h1 : n < (C.length : Int)) : ∃ h : n.toNat < C.length, rdS C n = C[n.toNat] := by
  have h : n.toNat < C.length := by omega
  refine ⟨h, ?_⟩
  unfold Q.rdS
  rw [List.getD_eq_getElem?_getD, List.getElem?_eq_getElem h]; rfl

/-! Messages as words: two messages that are not the same are not the same words. -/

theorem msg_words {C : List ByteArray} {m : List Int} (h : m.all (inC C) = true) : Msg (wds C) (mws C m) := fun x hx => by
  obtain ⟨n, hn, rfl⟩ := List.mem_map.1 hx
  obtain ⟨h0, h1⟩ := inC_iff.1 (List.all_eq_true.1 h n hn)
  obtain ⟨hl, e⟩ := rdS_in h0 h1
  exact mem_wds.2 ⟨_, by rw [e]; exact List.getElem_mem hl, rfl⟩
theorem mws_inj {C : List ByteArray} (hn : C.Nodup) : ∀ {a b : List Int}, a.all (inC C) = true → b.all (inC C) = true → mws C a = mws C b → a = b
  | [], [], _, _, _ => rfl
  | [], y :: b, _, _, h => by simp [mws] at h
  | x :: a, [], _, _, h => by simp [mws] at h
  | x :: a, y :: b, ha, hb, h => by
    rw [List.all_cons, Bool.and_eq_true] at ha hb
    unfold mws at h
    rw [List.map_cons, List.map_cons] at h
    obtain ⟨h1, h2⟩ := List.cons.inj h
    have ih := mws_inj hn ha.2 hb.2 h2
    obtain ⟨x0, x1⟩ := inC_iff.1 ha.1
    obtain ⟨y0, y1⟩ := inC_iff.1 hb.1
    obtain ⟨lx, ex⟩ := rdS_in x0 x1
    obtain ⟨ly, ey⟩ := rdS_in y0 y1
    have h3 := bs_inj h1
    rw [ex, ey] at h3
    have := (List.getElem_inj hn).1 h3
    rw [ih, show x = y by omega]

/-! In how many ways a text can be told apart into signals; both count just that. -/

def wayB (C : List ByteArray) : Nat → List UInt8 → Nat
  | 0, l => if l.isEmpty then 1 else 0
  | k + 1, l => if l.isEmpty then 1 else (C.map fun s => if (bs s).isPrefixOf l then wayB C k (l.drop s.size) else 0).sum
def ways (C : List ByteArray) (l : List UInt8) : Nat := wayB C l.length l
theorem sum_congr {α : Type} {f g : α → Nat} : ∀ {l : List α}, (∀ x ∈ l, f x = g x) → (l.map f).sum = (l.map g).sum
  | [], _ => rfl
  | x :: l, h => by
    rw [List.map_cons, List.map_cons, List.sum_cons, List.sum_cons, h x (List.mem_cons_self ..), sum_congr fun y hy => h y (List.mem_cons_of_mem _ hy)]
theorem sum_le {α : Type} {f g : α → Nat} : ∀ {l : List α}, (∀ x ∈ l, f x ≤ g x) → (l.map f).sum ≤ (l.map g).sum
  | [], _ => Nat.le_refl _
  | x :: l, h => by
    rw [List.map_cons, List.map_cons, List.sum_cons, List.sum_cons]
    exact Nat.add_le_add (h x (List.mem_cons_self ..)) (sum_le fun y hy => h y (List.mem_cons_of_mem _ hy))
theorem sum_filter {α : Type} (p : α → Bool) (f : α → Nat) : ∀ l : List α, (l.map fun x => if p x then f x else 0).sum = ((l.filter p).map f).sum
  | [] => rfl
  | x :: l => by
    rw [List.map_cons, List.sum_cons, sum_filter p f l, List.filter_cons]
    cases p x <;> simp
theorem wayB_same {C : List ByteArray} (hC : ∀ s ∈ C, 1 ≤ s.size) : ∀ (k m : Nat) (l : List UInt8), l.length ≤ k → l.length ≤ m → wayB C k l = wayB C m l
  | k, m, [], _, _ => by cases k <;> cases m <;> rfl
  | k + 1, m + 1, x :: l, h1, h2 => by
    show (C.map _).sum = (C.map _).sum
    refine sum_congr fun s hs => ?_
    have := hC s hs
    rw [wayB_same hC k m ((x :: l).drop s.size) (by rw [List.length_drop]; omega) (by rw [List.length_drop]; omega)]
def term (C : List ByteArray) (l : List UInt8) (s : ByteArray) : Nat := if (bs s).isPrefixOf l then ways C (l.drop s.size) else 0
theorem ways_nil (C : List ByteArray) : ways C [] = 1 := rfl
theorem ways_step {C : List ByteArray} (hC : ∀ s ∈ C, 1 ≤ s.size) {l : List UInt8} (h : l ≠ []) : ways C l = (C.map (term C l)).sum := by
  cases l with
  | nil => exact absurd rfl h
  | cons x l =>
    show (C.map _).sum = _
    refine sum_congr fun s hs => ?_
    have := hC s hs
    unfold term ways
    rw [wayB_same hC l.length ((x :: l).drop s.size).length ((x :: l).drop s.size) (by rw [List.length_drop, List.length_cons]; omega) (Nat.le_refl _)]
theorem pows_lt : ∀ (n : Nat) (J : List Nat), J.Nodup → (∀ j ∈ J, 1 ≤ j ∧ j ≤ n) → (J.map fun j => 2 ^ (n - j)).sum < 2 ^ n
  | 0, J, _, h => by
    cases J with
    | nil => decide
    | cons j J => have := h j (List.mem_cons_self ..); omega
  | n + 1, J, hn, h => by
    have key : ∀ K : List Nat, K.Nodup → (∀ j ∈ K, 1 ≤ j ∧ j ≤ n) → (K.map fun j => 2 ^ (n + 1 - j)).sum + 2 ≤ 2 ^ (n + 1) := fun K h1 h2 => by
      have e : (K.map fun j => 2 ^ (n + 1 - j)).sum = 2 * (K.map fun j => 2 ^ (n - j)).sum := by
        clear h1
        induction K with
        | nil => rfl
        | cons j K ih =>
          have := h2 j (List.mem_cons_self ..)
          rw [List.map_cons, List.map_cons, List.sum_cons, List.sum_cons, ih fun y hy => h2 y (List.mem_cons_of_mem _ hy), Nat.mul_add, show n + 1 - j = (n - j) + 1 by omega, Nat.pow_succ, Nat.mul_comm (2 ^ (n - j)) 2]
      have := pows_lt n K h1 h2
      rw [e, Nat.pow_succ]; omega
    by_cases hm : n + 1 ∈ J
    · have hp := List.perm_cons_erase hm
      rw [(hp.map _).sum_nat, List.map_cons, List.sum_cons, Nat.sub_self, Nat.pow_zero]
      have := key (J.erase (n + 1)) (hn.erase _) fun j hj => by
        have h1 := h j (List.mem_of_mem_erase hj)
        have h2 : j ≠ n + 1 := (hn.mem_erase_iff.1 hj).1
        omega
      omega
    · have := key J hn fun j hj => by
        have h1 := h j hj
        have h2 : j ≠ n + 1 := fun e => hm (e ▸ hj)
        omega
      omega
theorem pref_take {x l : List UInt8} (h : x.isPrefixOf l = true) : x = l.take x.length := by
  obtain ⟨t, rfl⟩ := List.isPrefixOf_iff_prefix.1 h
  rw [List.take_left]
theorem pref_len {x l : List UInt8} (h : x.isPrefixOf l = true) : x.length ≤ l.length := (List.isPrefixOf_iff_prefix.1 h).length_le
theorem terms_le {C : List ByteArray} (v : Valid C) (l : List UInt8) (hl : l ≠ []) (ih : ∀ l' : List UInt8, l'.length < l.length → ways C l' ≤ 2 ^ l'.length) : (C.map (term C l)).sum ≤ 2 ^ l.length := by
  have h1 : (C.map (term C l)).sum ≤ (C.map fun s => if (bs s).isPrefixOf l then 2 ^ (l.length - s.size) else 0).sum := sum_le fun s hs => by
    unfold term
    by_cases h : (bs s).isPrefixOf l = true
    · rw [if_pos h, if_pos h]
      have := v.size1 s hs
      have h2 : 0 < l.length := List.length_pos_iff.2 hl
      have := ih (l.drop s.size) (by rw [List.length_drop]; omega)
      rwa [List.length_drop] at this
    · rw [if_neg h, if_neg h]; exact Nat.le_refl _
  refine Nat.le_trans h1 ?_
  rw [sum_filter (fun s => (bs s).isPrefixOf l) (fun s => 2 ^ (l.length - s.size))]
  have e : ((C.filter fun s => (bs s).isPrefixOf l).map fun s => 2 ^ (l.length - s.size)) = (((C.filter fun s => (bs s).isPrefixOf l).map ByteArray.size).map fun j => 2 ^ (l.length - j)) := by rw [List.map_map]; rfl
  rw [e]
  refine Nat.le_of_lt (pows_lt _ _ ?_ fun j hj => ?_)
  · refine List.nodup_iff_pairwise_ne.2 (List.pairwise_map.2 ?_)
    refine List.Pairwise.imp_of_mem (R := (· ≠ ·)) (fun {a b} ha hb h hs => h ?_) (List.nodup_iff_pairwise_ne.1 (v.nodup.filter _))
    have pa := pref_take (List.mem_filter.1 ha).2
    have pb := pref_take (List.mem_filter.1 hb).2
    rw [bs_len] at pa pb
    exact bs_inj (by rw [pa, pb, hs])
  · obtain ⟨s, hs, rfl⟩ := List.mem_map.1 hj
    have hs2 := List.mem_filter.1 hs
    have := pref_len hs2.2
    rw [bs_len] at this
    exact ⟨v.size1 s hs2.1, this⟩
theorem ways_le {C : List ByteArray} (v : Valid C) : ∀ (n : Nat) (l : List UInt8), l.length = n → ways C l ≤ 2 ^ n := by
  intro n
  induction n using Nat.strongRecOn with
  | _ n ih =>
    intro l hl
    by_cases h : l = []
    · subst h; subst hl; exact Nat.le_refl _
    · rw [ways_step v.size1 h, ← hl]
      exact terms_le v l h fun l' hl' => ih _ (by omega) l' rfl
theorem hd_eq (t s : ByteArray) (p : Nat) : headB (t.extract p t.size) s = (bs s).isPrefixOf ((bs t).drop p) := by
  show (bs s).isPrefixOf (bs (t.extract p t.size)) = _
  rw [bs_ext, List.take_of_length_le (by rw [bs_len]; exact Nat.le_refl _)]
/-- In how many ways the text from p on can be told apart. -/
def wayT (C : List ByteArray) (t : ByteArray) (p : Nat) : Nat := ways C ((bs t).drop p)
def partW (C : List ByteArray) (t : ByteArray) (p i : Nat) : Nat := ((C.take i).map (term C ((bs t).drop p))).sum
theorem partW_all {C : List ByteArray} (v : Valid C) (t : ByteArray) {p : Nat} (hp : p < t.size) : partW C t p C.length = wayT C t p := by
  unfold partW wayT
  rw [List.take_length, ways_step v.size1]
  intro h
  have := congrArg List.length h
  rw [List.length_drop, bs_len, List.length_nil] at this
  omega
theorem partW_succ {C : List ByteArray} (t : ByteArray) (p : Nat) {i : Nat} (hi : i < C.length) : partW C t p (i + 1) = partW C t p i + (if headB (t.extract p t.size) (gt C i) = true then wayT C t (p + (gt C i).size) else 0) := by
  unfold partW
  rw [List.take_add_one, List.getElem?_eq_getElem hi, List.map_append, List.sum_append]
  congr 1
  have e : C[i] = gt C i := by unfold gt; rw [List.getD_eq_getElem?_getD, List.getElem?_eq_getElem hi]; rfl
  show (List.map _ [C[i]]).sum = _
  rw [e, List.map_cons, List.map_nil, List.sum_cons, List.sum_nil, Nat.add_zero, hd_eq]
  unfold term wayT
  rw [List.drop_drop]
theorem wayT_le {C : List ByteArray} (v : Valid C) (t : ByteArray) (ht : t.size ≤ 60) (p : Nat) : wayT C t p ≤ 1152921504606846976 := by
  have := ways_le v _ ((bs t).drop p) rfl
  refine Nat.le_trans this (Nat.le_trans (Nat.pow_le_pow_right (by decide) (show _ ≤ 60 by rw [List.length_drop, bs_len]; omega)) (by decide))
theorem sum_take {α : Type} (f : α → Nat) (C : List α) (i : Nat) : ((C.take i).map f).sum ≤ (C.map f).sum := by
  conv => rhs; rw [← List.take_append_drop i C]
  rw [List.map_append, List.sum_append]; omega
theorem partW_le {C : List ByteArray} (v : Valid C) (t : ByteArray) (ht : t.size ≤ 60) {p : Nat} (hp : p < t.size) (i : Nat) : partW C t p i ≤ 1152921504606846976 := by
  refine Nat.le_trans ?_ (wayT_le v t ht p)
  rw [← partW_all v t hp]
  unfold partW
  rw [List.take_length]
  exact sum_take _ C i
/-- The counts, from i on. -/
def fullW (C : List ByteArray) (t : ByteArray) (i : Nat) : List Int := (List.range (t.size + 1)).map fun j => if j < i then 0 else ((wayT C t j : Nat) : Int)
theorem fullW_len (C : List ByteArray) (t : ByteArray) (i : Nat) : (fullW C t i).length = t.size + 1 := by unfold fullW; simp
theorem fullW_rd (C : List ByteArray) (t : ByteArray) (i j : Nat) (hj : j ≤ t.size) : rd (fullW C t i) (j : Int) = if j < i then 0 else ((wayT C t j : Nat) : Int) := by
  rw [rd_nat]
  unfold fullW
  rw [List.getD_eq_getElem?_getD, List.getElem?_map, List.getElem?_range (by omega)]; rfl
theorem rd_set (L : List Int) (i j : Nat) (x : Int) (h : i < L.length) : rd (L.set i x) (j : Int) = if i = j then x else rd L (j : Int) := by
  rw [rd_nat, rd_nat, List.getD_eq_getElem?_getD, List.getD_eq_getElem?_getD, List.getElem?_set]
  by_cases e : i = j
  · rw [if_pos e, if_pos e, if_pos h]; rfl
  · rw [if_neg e, if_neg e]
theorem fullW_get (C : List ByteArray) (t : ByteArray) (i j : Nat) (h : j < (fullW C t i).length) : (fullW C t i)[j] = if j < i then 0 else ((wayT C t j : Nat) : Int) := by
  have e := fullW_rd C t i j (by rw [fullW_len] at h; omega)
  rw [rd_nat, List.getD_eq_getElem?_getD, List.getElem?_eq_getElem h] at e
  exact e
theorem fullW_set (C : List ByteArray) (t : ByteArray) (i : Nat) (hi : i ≤ t.size) : (fullW C t (i + 1)).set i ((wayT C t i : Nat) : Int) = fullW C t i := by
  refine List.ext_getElem (by rw [List.length_set, fullW_len, fullW_len]) fun j h1 h2 => ?_
  rw [List.getElem_set, fullW_get, fullW_get]
  by_cases e : i = j
  · subst e; rw [if_pos rfl, if_neg (by omega)]
  · rw [if_neg e]
    by_cases h : j < i
    · rw [if_pos (by omega), if_pos h]
    · rw [if_neg (by omega), if_neg h]
theorem fullW_zero (C : List ByteArray) (t : ByteArray) (i : Nat) (hi : i ≤ t.size) : (fullW C t (i + 1)).set i 0 = fullW C t (i + 1) := by
  refine List.ext_getElem (by rw [List.length_set]) fun j h1 h2 => ?_
  rw [List.getElem_set, fullW_get]
  by_cases e : i = j
  · subst e; rw [if_pos rfl, if_pos (by omega)]
  · rw [if_neg e]
theorem hd_fits {t s : ByteArray} {p : Nat} (hp : p ≤ t.size) (h : headB (t.extract p t.size) s = true) : p + s.size ≤ t.size := by
  rw [hd_eq] at h
  have := pref_len h
  rw [List.length_drop, bs_len, bs_len] at this
  omega

/-! Which texts may be heard, and their counts, by both. -/

def textP (C : List ByteArray) (t : ByteArray) : Int := if valP C = 0 then (if 60 < t.size then 3 else if notesP t = true then 0 else 1) else valP C
theorem textP_bad {C : List ByteArray} {t : ByteArray} (hv : valP C ≠ 0) : textP C t = valP C := if_neg hv
theorem textP_long {C : List ByteArray} {t : ByteArray} (hv : valP C = 0) (h : 60 < t.size) : textP C t = 3 := by unfold textP; rw [if_pos hv, if_pos h]
theorem textP_ok {C : List ByteArray} {t : ByteArray} (hv : valP C = 0) (h : ¬ 60 < t.size) (hn : notesP t = true) : textP C t = 0 := by unfold textP; rw [if_pos hv, if_neg h, if_pos hn]
theorem textP_no {C : List ByteArray} {t : ByteArray} (hv : valP C = 0) (h : ¬ 60 < t.size) (hn : ¬ notesP t = true) : textP C t = 1 := by unfold textP; rw [if_pos hv, if_neg h, if_neg hn]
theorem heard_ev {C : List ByteArray} (hS : Sized C) (t : ByteArray) (ht : t.size ≤ 140737488351232) : Ev (fun k => whistle_heard.f k C t) (textP C t) := by
  unfold whistle_heard.f
  refine Ev.bind (val_ev C hS) ?_
  by_cases hv : valP C = 0
  · refine Ev.ifp hv ?_
    by_cases h : 60 < t.size
    · rw [textP_long hv h]
      exact Ev.ifp (show (t.size : Int) > 60 by omega) (Ev.val (by rfl))
    · rw [notes_eq ht]
      refine Ev.ifn (show ¬ (t.size : Int) > 60 by omega) (Ev.some_bind ?_)
      by_cases hn : notesP t = true
      · rw [textP_ok hv h hn]; exact Ev.ifp hn (Ev.val (by rfl))
      · rw [textP_no hv h hn]; exact Ev.ifn hn (Ev.val (by rfl))
  · rw [textP_bad hv]
    exact Ev.ifn hv (Ev.val (by rfl))
theorem rtext_ev {C : List ByteArray} (hS : Sized C) (t : ByteArray) (ht : t.size ≤ 140737488351232) : Ev (fun k => wigeonref05_textOK.f k C t) (textP C t) := by
  unfold wigeonref05_textOK.f
  refine Ev.bind (rval_ev C hS) ?_
  by_cases hv : valP C = 0
  · refine Ev.ifp hv ?_
    by_cases h : 60 < t.size
    · rw [textP_long hv h]
      exact Ev.ifp (show (t.size : Int) > 60 by omega) (Ev.val (by rfl))
    · refine Ev.ifn (show ¬ (t.size : Int) > 60 by omega) (Ev.bind (isNotes_ev t (by unfold bigC; omega)) ?_)
      by_cases hn : notesP t = true
      · rw [textP_ok hv h hn]; exact Ev.ifp hn (Ev.val (by rfl))
      · rw [textP_no hv h hn]; exact Ev.ifn hn (Ev.val (by rfl))
  · rw [textP_bad hv]
    exact Ev.ifn hv (Ev.val (by rfl))
structure TextOk (C : List ByteArray) (t : ByteArray) : Prop where
  valid : Valid C
  few : t.size ≤ 60
  notes : notesP t = true
theorem textP_zero {C : List ByteArray} {t : ByteArray} : textP C t = 0 ↔ TextOk C t := by
  unfold textP
  by_cases hv : valP C = 0
  · rw [if_pos hv]
    by_cases h : 60 < t.size
    · rw [if_pos h]
      exact ⟨fun e => absurd e (by decide), fun x => absurd x.few (by omega)⟩
    · rw [if_neg h]
      by_cases hn : notesP t = true
      · rw [if_pos hn]; exact ⟨fun _ => ⟨valP_zero.1 hv, by omega, hn⟩, fun _ => rfl⟩
      · rw [if_neg hn]; exact ⟨fun e => absurd e (by decide), fun x => absurd x.notes hn⟩
  · rw [if_neg hv]
    exact ⟨fun e => absurd e hv, fun x => absurd (valP_zero.2 x.valid) hv⟩
theorem cell_step {C : List ByteArray} {t : ByteArray} (o : TextOk C t) {i j : Nat} (hi : i < t.size) (hj : j < C.length) (h : headB (t.extract i t.size) (gt C j) = true) :
    ((fullW C t (i + 1)).set i ((partW C t i j : Nat) : Int)).set i (wrap64 (rd ((fullW C t (i + 1)).set i ((partW C t i j : Nat) : Int)) (i : Int) + rd ((fullW C t (i + 1)).set i ((partW C t i j : Nat) : Int)) ((i + (gt C j).size : Nat) : Int))) = (fullW C t (i + 1)).set i ((partW C t i (j + 1) : Nat) : Int) := by
  have h1 := o.valid.size1 _ (gt_mem hj)
  have hf := hd_fits (by omega) h
  have hp := partW_le o.valid t o.few hi j
  have hp1 := partW_le o.valid t o.few hi (j + 1)
  have hs := partW_succ (C := C) t i hj
  rw [if_pos h] at hs
  have hL := fullW_len C t (i + 1)
  rw [rd_set _ _ _ _ (by omega), if_pos rfl, rd_set _ _ _ _ (by omega), if_neg (by omega), fullW_rd _ _ _ _ hf, if_neg (by omega), List.set_set, ← Int.natCast_add, ← hs, w64 (by omega) (by omega)]
theorem count_in {C : List ByteArray} {t : ByteArray} (o : TextOk C t) (i : Nat) (hi : i < t.size) (r : List Int) (hr : Ev (fun k => whistle_counts.l0 k C t (fullW C t i) ((i : Int) - 1)) r) (d : Nat) : ∀ j, j + d = C.length →
    Ev (fun k => whistle_counts.l1 k C t ((fullW C t (i + 1)).set i ((partW C t i j : Nat) : Int)) (i : Int) C (C.length : Int) (j : Int)) r := by
  have hC := o.valid.few
  have ht := o.few
  induction d with
  | zero =>
    intro j hj
    obtain rfl : j = C.length := by omega
    rw [partW_all o.valid t hi, fullW_set C t i (by omega)]
    exact Ev.step (fun k => by rw [whistle_counts.l1, w64 (a := (i : Int) - 1) (by omega) (by omega)]) (Ev.ifn (by omega) hr)
  | succ d ih =>
    intro j hj
    have hw := w64s (show j < 1000000000000000000 by omega)
    have e1 : ((i : Int)).toNat = i := Int.toNat_natCast i
    have hlen : ((fullW C t (i + 1)).set i ((partW C t i j : Nat) : Int)).length = t.size + 1 := by rw [List.length_set, fullW_len]
    refine Ev.step (fun k => by rw [whistle_counts.l1, rdOf_gt, hw, e1, hasPrefix_eq]) (Ev.ifp (by omega) (Ev.ifp (by omega) (Ev.ifp (by omega) (Ev.ifp (by omega) (Ev.ifp (by omega) (Ev.some_bind ?_))))))
    by_cases h : headB (t.extract i t.size) (gt C j) = true
    · have hf := hd_fits (by omega) h
      have hq : wrap64 ((i : Int) + ((gt C j).size : Int)) = ((i + (gt C j).size : Nat) : Int) := by rw [w64 (by omega) (by omega)]; omega
      rw [hq, cell_step o hi (by omega) h]
      refine Ev.ifp h ?_
      refine Ev.ifp (show (i : Int) < (((fullW C t (i + 1)).set i ((partW C t i j : Nat) : Int)).length : Int) by omega) (Ev.ifp (by omega) ?_)
      refine Ev.ifp (show ((i + (gt C j).size : Nat) : Int) < (((fullW C t (i + 1)).set i ((partW C t i j : Nat) : Int)).length : Int) by omega) ?_
      exact ih (j + 1) (by omega)
    · have hs := partW_succ (C := C) t i (show j < C.length by omega)
      rw [if_neg h, Nat.add_zero] at hs
      have := ih (j + 1) (by omega)
      rw [hs] at this
      exact Ev.ifn h this
theorem count_out {C : List ByteArray} {t : ByteArray} (o : TextOk C t) : ∀ i, i ≤ t.size → Ev (fun k => whistle_counts.l0 k C t (fullW C t i) ((i : Int) - 1)) (fullW C t 0)
  | 0, _ => Ev.step (fun k => by rw [whistle_counts.l0]) (Ev.ifn (by omega) (Ev.val (by rfl)))
  | i + 1, hi => by
    have := count_in o i (by omega) _ (count_out o i (by omega)) C.length 0 (by omega)
    have e0 : ((partW C t i 0 : Nat) : Int) = 0 := rfl
    rw [e0, fullW_zero C t i (by omega)] at this
    have e : ((i + 1 : Nat) : Int) - 1 = (i : Int) := by omega
    rw [e]
    refine Ev.step (fun k => by rw [whistle_counts.l0]) (Ev.ifp (show (i : Int) ≥ 0 by omega) ?_)
    exact this
theorem start_full (C : List ByteArray) (t : ByteArray) : (List.replicate (t.size + 1) (0 : Int)).set t.size 1 = fullW C t t.size := by
  refine List.ext_getElem (by rw [List.length_set, List.length_replicate, fullW_len]) fun j h1 h2 => ?_
  rw [List.getElem_set, fullW_get]
  by_cases e : t.size = j
  · subst e
    rw [if_pos rfl, if_neg (by omega)]
    have : wayT C t t.size = 1 := by
      unfold wayT
      rw [List.drop_eq_nil_of_le (by rw [bs_len]; exact Nat.le_refl _), ways_nil]
    rw [this]; rfl
  · have hj : j < t.size + 1 := by rw [fullW_len] at h2; exact h2
    rw [if_neg e, if_pos (by omega), List.getElem_replicate]
theorem counts_ev {C : List ByteArray} {t : ByteArray} (o : TextOk C t) : Ev (fun k => whistle_counts.f k C t) (fullW C t 0) := by
  have ht := o.few
  unfold whistle_counts.f
  have e : wrap64 ((t.size : Int) + 1) = ((t.size + 1 : Nat) : Int) := w64s (by omega)
  have e2 : ((t.size : Int)).toNat = t.size := Int.toNat_natCast _
  rw [e, Int.toNat_natCast, e2]
  refine Ev.ifp (by omega) (Ev.ifp (by omega) (Ev.some_bind (Ev.ifp (by omega) (Ev.ifp (by rw [List.length_replicate]; omega) ?_))))
  rw [start_full C t, w64 (by omega) (by omega)]
  exact count_out o t.size (Nat.le_refl _)
theorem rcount_in {C : List ByteArray} {t : ByteArray} (o : TextOk C t) (i : Nat) (hi : i < t.size) (r : List Int) (hr : Ev (fun k => wigeonref05_heard.l0 k C t (fullW C t i) ((i : Int) - 1)) r) (d : Nat) : ∀ j, j + d = C.length →
    Ev (fun k => wigeonref05_heard.l1 k C t ((fullW C t (i + 1)).set i ((partW C t i j : Nat) : Int)) (i : Int) (j : Int)) r := by
  have hC := o.valid.few
  have ht := o.few
  induction d with
  | zero =>
    intro j hj
    obtain rfl : j = C.length := by omega
    rw [partW_all o.valid t hi, fullW_set C t i (by omega)]
    exact Ev.step (fun k => by rw [wigeonref05_heard.l1, w64 (a := (i : Int) - 1) (by omega) (by omega)]) (Ev.ifn (by omega) hr)
  | succ d ih =>
    intro j hj
    have hw := w64s (show j < 1000000000000000000 by omega)
    have e1 : ((i : Int)).toNat = i := Int.toNat_natCast i
    have hlen : ((fullW C t (i + 1)).set i ((partW C t i j : Nat) : Int)).length = t.size + 1 := by rw [List.length_set, fullW_len]
    refine Ev.step (fun k => by rw [wigeonref05_heard.l1, rdOf_gt, hw, e1, begins_eq]) (Ev.ifp (by omega) (Ev.ifp (by omega) (Ev.ifp (by omega) (Ev.ifp (by omega) (Ev.some_bind ?_)))))
    by_cases h : headB (t.extract i t.size) (gt C j) = true
    · have hf := hd_fits (by omega) h
      have hq : wrap64 ((i : Int) + ((gt C j).size : Int)) = ((i + (gt C j).size : Nat) : Int) := by rw [w64 (by omega) (by omega)]; omega
      rw [hq, cell_step o hi (by omega) h]
      refine Ev.ifp h ?_
      refine Ev.ifp (show (i : Int) < (((fullW C t (i + 1)).set i ((partW C t i j : Nat) : Int)).length : Int) by omega) (Ev.ifp (by omega) ?_)
      refine Ev.ifp (show ((i + (gt C j).size : Nat) : Int) < (((fullW C t (i + 1)).set i ((partW C t i j : Nat) : Int)).length : Int) by omega) ?_
      exact ih (j + 1) (by omega)
    · have hs := partW_succ (C := C) t i (show j < C.length by omega)
      rw [if_neg h, Nat.add_zero] at hs
      have := ih (j + 1) (by omega)
      rw [hs] at this
      exact Ev.ifn h this
theorem rcount_out {C : List ByteArray} {t : ByteArray} (o : TextOk C t) : ∀ i, i ≤ t.size → Ev (fun k => wigeonref05_heard.l0 k C t (fullW C t i) ((i : Int) - 1)) (fullW C t 0)
  | 0, _ => Ev.step (fun k => by rw [wigeonref05_heard.l0]) (Ev.ifn (by omega) (Ev.val (by rfl)))
  | i + 1, hi => by
    have := rcount_in o i (by omega) _ (rcount_out o i (by omega)) C.length 0 (by omega)
    have e0 : ((partW C t i 0 : Nat) : Int) = 0 := rfl
    rw [e0, fullW_zero C t i (by omega)] at this
    have e : ((i + 1 : Nat) : Int) - 1 = (i : Int) := by omega
    rw [e]
    refine Ev.step (fun k => by rw [wigeonref05_heard.l0]) (Ev.ifp (show (i : Int) ≥ 0 by omega) ?_)
    exact this
theorem rcounts_ev {C : List ByteArray} {t : ByteArray} (o : TextOk C t) : Ev (fun k => wigeonref05_heard.f k C t) (fullW C t 0) := by
  have ht := o.few
  unfold wigeonref05_heard.f
  have e : wrap64 ((t.size : Int) + 1) = ((t.size + 1 : Nat) : Int) := w64s (by omega)
  have e2 : ((t.size : Int)).toNat = t.size := Int.toNat_natCast _
  rw [e, Int.toNat_natCast, e2]
  refine Ev.ifp (by omega) (Ev.ifp (by omega) (Ev.some_bind (Ev.ifp (by omega) (Ev.ifp (by rw [List.length_replicate]; omega) ?_))))
  rw [start_full C t, w64 (by omega) (by omega)]
  exact rcount_out o t.size (Nat.le_refl _)
def heardP (C : List ByteArray) (t : ByteArray) : Int × Int := if textP C t = 0 then (((wayT C t 0 : Nat) : Int), 0) else (0, textP C t)
theorem full0 (C : List ByteArray) (t : ByteArray) : rd (fullW C t 0) 0 = ((wayT C t 0 : Nat) : Int) := by
  have := fullW_rd C t 0 0 (Nat.zero_le _)
  rw [if_neg (by omega)] at this
  exact this
theorem heardP_ok {C : List ByteArray} {t : ByteArray} (h : textP C t = 0) : heardP C t = (((wayT C t 0 : Nat) : Int), 0) := if_pos h
theorem heardP_no {C : List ByteArray} {t : ByteArray} (h : textP C t ≠ 0) : heardP C t = (0, textP C t) := if_neg h
theorem Heard_ev {C : List ByteArray} (hS : Sized C) (t : ByteArray) (ht : t.size ≤ 140737488351232) : Ev (fun k => whistle_Heard.f k C t) (heardP C t) := by
  unfold whistle_Heard.f
  refine Ev.bind (heard_ev hS t ht) ?_
  by_cases h : textP C t = 0
  · rw [heardP_ok h]
    refine Ev.ifp h (Ev.bind (counts_ev (textP_zero.1 h)) (Ev.ifp ?_ (Ev.val ?_)))
    · rw [fullW_len]; omega
    · rw [full0]
  · rw [heardP_no h]
    exact Ev.ifn h (Ev.val (by rfl))

/-! Decode, by both: the first signal that leaves a rest with a way. -/

theorem ok_iff {C : List ByteArray} {t : ByteArray} {p : Nat} (hp : p ≤ t.size) (s : ByteArray) : okAt (fullW C t 0) t p s = true ↔ headB (t.extract p t.size) s = true ∧ wayT C t (p + s.size) ≠ 0 := by
  unfold okAt
  rw [Bool.and_eq_true]
  refine and_congr_right fun h => ?_
  have hf := hd_fits hp h
  rw [fullW_rd _ _ _ _ hf, if_neg (by omega), decide_eq_true_eq]
  omega
theorem sum_some {α : Type} {f : α → Nat} : ∀ {l : List α}, (l.map f).sum ≠ 0 → ∃ x, x ∈ l ∧ f x ≠ 0
  | [], h => absurd rfl h
  | x :: l, h => by
    by_cases e : f x = 0
    · rw [List.map_cons, List.sum_cons, e, Nat.zero_add] at h
      obtain ⟨y, hy, e2⟩ := sum_some h
      exact ⟨y, List.mem_cons_of_mem _ hy, e2⟩
    · exact ⟨x, List.mem_cons_self .., e⟩
theorem way_found {C : List ByteArray} (v : Valid C) {t : ByteArray} {p : Nat} (hp : p < t.size) (h : wayT C t p ≠ 0) : ∃ i, i < C.length ∧ okAt (fullW C t 0) t p (gt C i) = true := by
  have hw := partW_all v t hp
  unfold partW at hw
  rw [List.take_length] at hw
  rw [← hw] at h
  obtain ⟨s, hs, e⟩ := sum_some h
  obtain ⟨i, hi, rfl⟩ := mem_gt hs
  refine ⟨i, hi, (ok_iff (by omega) _).2 ?_⟩
  unfold term at e
  by_cases hh : (bs (gt C i)).isPrefixOf ((bs t).drop p) = true
  · rw [if_pos hh, List.drop_drop] at e
    exact ⟨by rw [hd_eq]; exact hh, e⟩
  · rw [if_neg hh] at e; exact absurd rfl e
theorem drop_word {t s : ByteArray} {p : Nat} (h : headB (t.extract p t.size) s = true) : bs s ++ (bs t).drop (p + s.size) = (bs t).drop p := by
  rw [hd_eq] at h
  obtain ⟨u, e⟩ := List.isPrefixOf_iff_prefix.1 h
  rw [← e, ← List.drop_drop, ← e, ← bs_len, List.drop_left]
theorem rdec_scan {C : List ByteArray} (hC : C.length ≤ 12) {t : ByteArray} (ht : t.size ≤ 60) (hs12 : ∀ i, (gt C i).size ≤ 140737488351232) {p : Nat} (hp : p ≤ t.size) (o : List Int) (r : List Int × Bool × Int) (m : Nat) (hm : m ≤ C.length) (hr : Ev (fun k => wigeonref05_Decode.l1 k C t (fullW C t 0) o (p : Int) (m : Int)) r) (d : Nat) : ∀ j, j + d = m → (∀ x, j ≤ x → x < m → okAt (fullW C t 0) t p (gt C x) = false) → Ev (fun k => wigeonref05_Decode.l1 k C t (fullW C t 0) o (p : Int) (j : Int)) r := by
  induction d with
  | zero => intro j hj _; obtain rfl : j = m := by omega
            exact hr
  | succ d ih =>
    intro j hj hn
    have hh := hn j (Nat.le_refl _) (by omega)
    have e1 : ((p : Int)).toNat = p := Int.toNat_natCast p
    have next := ih (j + 1) (by omega) fun x a b => hn x (by omega) b
    refine Ev.step (fun k => by rw [wigeonref05_Decode.l1, rdOf_gt, e1, begins_eq, w64s (show j < 1000000000000000000 by omega)]) (Ev.ifp (by omega) (Ev.ifp (by omega) (Ev.ifp (by omega) (Ev.ifp (by omega) (Ev.some_bind ?_)))))
    by_cases hb : headB (t.extract p t.size) (gt C j) = true
    · have hf := hd_fits hp hb
      have hq : wrap64 ((p : Int) + ((gt C j).size : Int)) = ((p + (gt C j).size : Nat) : Int) := by rw [w64 (by omega) (by omega)]; omega
      have hL := fullW_len C t 0
      have hz : wayT C t (p + (gt C j).size) = 0 := by
        by_cases e : wayT C t (p + (gt C j).size) = 0
        · exact e
        · rw [(ok_iff hp (gt C j)).2 ⟨hb, e⟩] at hh; cases hh
      rw [hq]
      refine Ev.ifp hb (Ev.ifp (by omega) (Ev.ifp (by omega) (Ev.ifp ?_ next)))
      rw [fullW_rd _ _ _ _ hf, if_neg (by omega), hz]; rfl
    · exact Ev.ifn hb next
theorem dec_run {C : List ByteArray} {t : ByteArray} (v : Valid C) (ht : t.size ≤ 60) (hs12 : ∀ i, (gt C i).size ≤ 140737488351232) : ∀ (n p : Nat) (o : List Int), t.size - p = n → p ≤ t.size → wayT C t p ≠ 0 → o.length + (t.size - p) ≤ 60 →
    ∃ m, Ev (fun k => decF C t (fullW C t 0) k p o) (o ++ m) ∧ Ev (fun k => wigeonref05_Decode.l0 k C t (fullW C t 0) o (p : Int)) (o ++ m, true, 0) ∧ m.all (inC C) = true ∧ (mws C m).flatten = (bs t).drop p ∧ m.length ≤ t.size - p := by
  have hC := v.few
  intro n
  induction n using Nat.strongRecOn with
  | _ n ih =>
    intro p o hn hp hw ho
    by_cases hlt : p < t.size
    · rcases firstI_cases C (okAt (fullW C t 0) t p) with ⟨e, hno⟩ | ⟨i, hi, e, hok, hno⟩
      · obtain ⟨i, hi, h⟩ := way_found v hlt hw
        have := hno i hi
        rw [show C.getD i ByteArray.empty = gt C i from rfl, h] at this; cases this
      · have hok : okAt (fullW C t 0) t p (gt C i) = true := hok
        obtain ⟨hb, hw2⟩ := (ok_iff hp _).1 hok
        have hf := hd_fits hp hb
        have h1 := v.size1 _ (gt_mem hi)
        obtain ⟨m, e1, e2, h3, h4, h5⟩ := ih (t.size - (p + (gt C i).size)) (by omega) (p + (gt C i).size) (o ++ [(i : Int)]) rfl hf hw2 (by rw [List.length_append]; simp; omega)
        have hass : o ++ ((i : Int) :: m) = o ++ [(i : Int)] ++ m := by simp
        have hL := fullW_len C t 0
        refine ⟨(i : Int) :: m, ?_, ?_, ?_, ?_, ?_⟩
        · rw [hass]
          refine Ev.step (fun k => by rw [decF]) (Ev.ifp hlt ?_)
          rw [e, Int.toNat_natCast]
          exact Ev.ifp (by omega) e1
        · rw [hass]
          refine Ev.step (fun k => by rw [wigeonref05_Decode.l0]) (Ev.ifp (by omega) ?_)
          refine rdec_scan hC ht hs12 hp o _ i (by omega) ?_ i 0 (by omega) fun x _ hx => hno x hx
          have e3 : ((p : Int)).toNat = p := Int.toNat_natCast p
          have hq : wrap64 ((p : Int) + ((gt C i).size : Int)) = ((p + (gt C i).size : Nat) : Int) := by rw [w64 (by omega) (by omega)]; omega
          refine Ev.step (fun k => by rw [wigeonref05_Decode.l1, rdOf_gt, e3, begins_eq, hq]) (Ev.ifp (by omega) (Ev.ifp (by omega) (Ev.ifp (by omega) (Ev.ifp (by omega) (Ev.some_bind ?_)))))
          clear hq e3
          refine Ev.ifp hb ?_
          refine Ev.ifp (Int.natCast_nonneg _) ?_
          refine Ev.ifp (Int.ofNat_lt.2 (show p + (gt C i).size < (fullW C t 0).length by rw [hL]; exact Nat.lt_succ_of_le hf)) ?_
          have hrd : ¬ rd (fullW C t 0) ((p + (gt C i).size : Nat) : Int) = 0 := by
            rw [fullW_rd _ _ _ _ hf, if_neg (Nat.not_lt_zero _)]
            exact fun e => hw2 (Int.ofNat_eq_zero.1 e)
          refine Ev.ifn hrd ?_
          exact Ev.ifp (Nat.lt_of_le_of_lt (show o.length ≤ 60 from Nat.le_trans (Nat.le_add_right _ _) ho) (by decide)) e2
        · rw [List.all_cons, h3, Bool.and_true]
          exact inC_iff.2 (by omega)
        · unfold mws at h4 ⊢
          rw [List.map_cons, List.flatten_cons, h4]
          have e4 : rdS C (i : Int) = gt C i := by unfold rdS; rw [Int.toNat_natCast]; rfl
          rw [e4]
          exact drop_word hb
        · rw [List.length_cons]; omega
    · obtain rfl : p = t.size := by omega
      refine ⟨[], ?_, ?_, rfl, ?_, Nat.zero_le _⟩
      · rw [List.append_nil]
        exact Ev.step (fun k => by rw [decF]) (Ev.ifn hlt (Ev.val (by rfl)))
      · rw [List.append_nil]
        exact Ev.step (fun k => by rw [wigeonref05_Decode.l0]) (Ev.ifn (by omega) (Ev.val (by rfl)))
      · rw [List.drop_eq_nil_of_le (by rw [bs_len]; exact Nat.le_refl _)]; rfl
/-- Decode of a text that can be told apart, by both. -/
theorem decode_both {C : List ByteArray} {t : ByteArray} (hS : Sized C) (o : TextOk C t) (hw : wayT C t 0 ≠ 0) : ∃ m, Ev (fun k => whistle_Decode.f k C t) (m, true, 0) ∧ Ev (fun k => wigeonref05_Decode.f k C t) (m, true, 0) ∧ m.all (inC C) = true ∧ soundB C m = t ∧ m.length ≤ t.size := by
  have hx := textP_zero.2 o
  have ht := o.few
  have hC := o.valid.few
  have hp := o.valid.pos
  obtain ⟨m, e1, e2, h3, h4, h5⟩ := dec_run o.valid ht hS.gt (t.size - 0) 0 [] rfl (Nat.zero_le _) hw (by simpa using ht)
  rw [List.nil_append] at e1 e2
  have hL := fullW_len C t 0
  have h0 : ¬ rd (fullW C t 0) 0 = 0 := by rw [full0]; omega
  refine ⟨m, ?_, ?_, h3, bs_inj (by rw [sound_words, h4, List.drop_zero]), by omega⟩
  · unfold whistle_Decode.f
    refine Ev.bind (heard_ev hS t (by omega)) ?_
    rw [hx]
    exact Ev.ifn (by decide) (Ev.bind (counts_ev o) (Ev.ifp (by omega) (Ev.ifn h0 (Ev.ifp (by omega) (Ev.bind e1 (Ev.val (by rfl)))))))
  · unfold wigeonref05_Decode.f
    refine Ev.bind (rtext_ev hS t (by omega)) ?_
    rw [hx]
    exact Ev.ifp rfl (Ev.bind (rcounts_ev o) (Ev.ifp (by omega) (Ev.ifn h0 e2)))

/-! The counts are numbers of messages: none without a message, one alone if the code is safe. -/

theorem term_le_sum {α : Type} (f : α → Nat) : ∀ {l : List α} {x : α}, x ∈ l → f x ≤ (l.map f).sum
  | y :: l, x, h => by
    rw [List.map_cons, List.sum_cons]
    rcases List.mem_cons.1 h with e | h2
    · rw [e]; exact Nat.le_add_right _ _
    · exact Nat.le_trans (term_le_sum f h2) (Nat.le_add_left _ _)
theorem pref_app (x u : List UInt8) : x.isPrefixOf (x ++ u) = true := List.isPrefixOf_iff_prefix.2 ⟨u, rfl⟩
theorem ways_cons {C : List ByteArray} (v : Valid C) {s : ByteArray} (hs : s ∈ C) (u : List UInt8) : ways C u ≤ ways C (bs s ++ u) := by
  have h1 := v.size1 s hs
  have hne : bs s ++ u ≠ [] := fun e => by
    have := congrArg List.length e
    rw [List.length_append, bs_len, List.length_nil] at this
    omega
  rw [ways_step v.size1 hne]
  refine Nat.le_trans (Nat.le_of_eq ?_) (term_le_sum (term C (bs s ++ u)) hs)
  unfold term
  rw [if_pos (pref_app _ _), ← bs_len, List.drop_left]
/-- A text that is a message has a way. -/
theorem ways_msg {C : List ByteArray} (v : Valid C) : ∀ m : List (List UInt8), Msg (wds C) m → 1 ≤ ways C m.flatten
  | [], _ => Nat.le_refl _
  | x :: m, h => by
    obtain ⟨s, hs, rfl⟩ := mem_wds.1 (h x (List.mem_cons_self ..))
    rw [List.flatten_cons]
    exact Nat.le_trans (ways_msg v m h.tail) (ways_cons v hs _)
theorem two_terms {α : Type} (f : α → Nat) : ∀ {l : List α}, 2 ≤ (l.map f).sum → (∃ x, x ∈ l ∧ 2 ≤ f x) ∨ ∃ x y, x ∈ l ∧ y ∈ l ∧ [x, y].Sublist l ∧ 1 ≤ f x ∧ 1 ≤ f y
  | [], h => absurd h (show ¬ 2 ≤ 0 by decide)
  | a :: l, h => by
    rw [List.map_cons, List.sum_cons] at h
    by_cases h2 : 2 ≤ f a
    · exact .inl ⟨a, List.mem_cons_self .., h2⟩
    · by_cases h3 : 2 ≤ (l.map f).sum
      · rcases two_terms f h3 with ⟨x, hx, e⟩ | ⟨x, y, hx, hy, hs, e1, e2⟩
        · exact .inl ⟨x, List.mem_cons_of_mem _ hx, e⟩
        · exact .inr ⟨x, y, List.mem_cons_of_mem _ hx, List.mem_cons_of_mem _ hy, hs.trans (List.sublist_cons_self ..), e1, e2⟩
      · obtain ⟨y, hy, e⟩ := sum_some (f := f) (l := l) (by omega)
        exact .inr ⟨a, y, List.mem_cons_self .., List.mem_cons_of_mem _ hy, List.Sublist.cons_cons _ (List.singleton_sublist.2 hy), by omega, by omega⟩
theorem term_pos {C : List ByteArray} {l : List UInt8} {s : ByteArray} {n : Nat} (hn : 1 ≤ n) (h : n ≤ term C l s) : bs s ++ l.drop s.size = l ∧ n ≤ ways C (l.drop s.size) := by
  unfold term at h
  by_cases hp : (bs s).isPrefixOf l = true
  · rw [if_pos hp] at h
    obtain ⟨u, rfl⟩ := List.isPrefixOf_iff_prefix.1 hp
    refine ⟨?_, h⟩
    rw [← bs_len, List.drop_left]
  · rw [if_neg hp] at h; omega
theorem some_msg {C : List ByteArray} (v : Valid C) : ∀ (n : Nat) (l : List UInt8), l.length = n → 1 ≤ ways C l → ∃ m, Msg (wds C) m ∧ m.flatten = l := by
  intro n
  induction n using Nat.strongRecOn with
  | _ n ih =>
    intro l hl h
    by_cases e : l = []
    · subst e; exact ⟨[], ⟨fun x hx => absurd hx List.not_mem_nil, rfl⟩⟩
    · rw [ways_step v.size1 e] at h
      obtain ⟨s, hs, hf⟩ := sum_some (f := term C l) (l := C) (by omega)
      obtain ⟨h1, h2⟩ := term_pos (n := 1) (Nat.le_refl _) (show 1 ≤ term C l s by omega)
      have hz := v.size1 s hs
      have hlen := congrArg List.length h1
      rw [List.length_append, bs_len] at hlen
      obtain ⟨m, hm, em⟩ := ih (l.drop s.size).length (by omega) _ rfl h2
      refine ⟨bs s :: m, fun x hx => ?_, by rw [List.flatten_cons, em, h1]⟩
      rcases List.mem_cons.1 hx with rfl | hx
      · exact mem_wds.2 ⟨s, hs, rfl⟩
      · exact hm x hx
theorem cons_msg {C : List ByteArray} {s : ByteArray} (hs : s ∈ C) {m : List (List UInt8)} (hm : Msg (wds C) m) : Msg (wds C) (bs s :: m) := fun x hx => by
  rcases List.mem_cons.1 hx with rfl | hx
  · exact mem_wds.2 ⟨s, hs, rfl⟩
  · exact hm x hx
/-- Two ways: two messages of one sound. -/
theorem two_msgs {C : List ByteArray} (v : Valid C) : ∀ (n : Nat) (l : List UInt8), l.length = n → 2 ≤ ways C l → ∃ a b, Msg (wds C) a ∧ Msg (wds C) b ∧ a ≠ b ∧ a.flatten = l ∧ b.flatten = l := by
  intro n
  induction n using Nat.strongRecOn with
  | _ n ih =>
    intro l hl h
    by_cases e : l = []
    · subst e; rw [ways_nil] at h; omega
    · rw [ways_step v.size1 e] at h
      rcases two_terms (term C l) h with ⟨s, hs, h2⟩ | ⟨x, y, hx, hy, hsub, h1, h2⟩
      · obtain ⟨h1, h3⟩ := term_pos (n := 2) (by decide) h2
        have hz := v.size1 s hs
        have hlen := congrArg List.length h1
        rw [List.length_append, bs_len] at hlen
        obtain ⟨a, b, ha, hb, hne, ea, eb⟩ := ih (l.drop s.size).length (by omega) _ rfl h3
        exact ⟨bs s :: a, bs s :: b, cons_msg hs ha, cons_msg hs hb, fun q => hne (List.cons.inj q).2, by rw [List.flatten_cons, ea, h1], by rw [List.flatten_cons, eb, h1]⟩
      · obtain ⟨p1, p2⟩ := term_pos (n := 1) (Nat.le_refl _) h1
        obtain ⟨q1, q2⟩ := term_pos (n := 1) (Nat.le_refl _) h2
        obtain ⟨a, ha, ea⟩ := some_msg v _ _ rfl p2
        obtain ⟨b, hb, eb⟩ := some_msg v _ _ rfl q2
        have hxy : x ≠ y := by
          have := (v.nodup.sublist hsub)
          simpa using this
        exact ⟨bs x :: a, bs y :: b, cons_msg hx ha, cons_msg hy hb, fun q => hxy (bs_inj (List.cons.inj q).1), by rw [List.flatten_cons, ea, p1], by rw [List.flatten_cons, eb, q1]⟩
theorem safe_one {C : List ByteArray} (v : Valid C) (hs : Safe C) (l : List UInt8) : ways C l ≤ 1 := by
  by_cases h : 2 ≤ ways C l
  · obtain ⟨a, b, ha, hb, hne, ea, eb⟩ := two_msgs v _ l rfl h
    exact absurd ⟨a, b, ha, hb, hne, ea.trans eb.symm⟩ ((safe_iff v).1 hs)
  · omega

end Go.Proofs.Ytpkafcoflgbnaaa.Pure
