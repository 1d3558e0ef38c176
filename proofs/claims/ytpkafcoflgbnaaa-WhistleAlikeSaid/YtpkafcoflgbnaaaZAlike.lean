-- What the plain law WhistleAlike needs, out of the Libs of this seat.
import Derived.Test.YtpkafcoflgbnaaaQx0
import Derived.Test.YtpkafcoflgbnaaaQx2
import Derived.Test.YtpkafcoflgbnaaaQx10
import Derived.Test.YtpkafcoflgbnaaaQx11
import Derived.Test.YtpkafcoflgbnaaaQx12
import Derived.Test.YtpkafcoflgbnaaaQx18
import Derived.Test.YtpkafcoflgbnaaaQx22
import Derived.Test.YtpkafcoflgbnaaaQx24
import Derived.Test.YtpkafcoflgbnaaaQx26
import Derived.Test.YtpkafcoflgbnaaaWh1
import Derived.Test.YtpkafcoflgbnaaaWh4
import Derived.Test.YtpkafcoflgbnaaaLibSP
import Derived.Sort.LotA
import Derived.Sort.Walk0
import Derived.Test.YtpkafcoflgbnaaaLibMc
import Derived.Test.YtpkafcoflgbnaaaWh5
import Derived.Test.YtpkafcoflgbnaaaWh6
import Derived.Test.YtpkafcoflgbnaaaWhP1
import Derived.Test.YtpkafcoflgbnaaaWhR2
namespace Go.Proofs.Ytpkafcoflgbnaaa.Pure
open Go.RowKit Go.Proofs.Ytpkafcoflgbnaaa.Q Go.Proofs.YtpkafcoflgbnaaaW.PrintWords Go.Proofs.YtpkafcoflgbnaaaW.PrintLast
open Go.RowKit Go.Proofs.Ytpkafcoflgbnaaa.Q Go.Proofs.YtpkafcoflgbnaaaW.PrintWords Go.Proofs.YtpkafcoflgbnaaaW.PrintLast Go.Proofs.YtpkafcoflgbnaaaW.PrintMore
set_option linter.unusedVariables false


/-! Rounds; texts and lists; which codes and messages are valid. -/

theorem Ev.ifp {α : Type} {c : Prop} [Decidable c] {f g : Nat → Option α} {r : α} (h : c) (k : Ev f r) : Ev (fun n => if c then f n else g n) r := by
  obtain ⟨K, k⟩ := k
  exact ⟨K, fun n hn => by show (if c then f n else g n) = some r; rw [if_pos h]; exact k n hn⟩
theorem Ev.ifn {α : Type} {c : Prop} [Decidable c] {f g : Nat → Option α} {r : α} (h : ¬ c) (k : Ev g r) : Ev (fun n => if c then f n else g n) r := by
  obtain ⟨K, k⟩ := k
  exact ⟨K, fun n hn => by show (if c then f n else g n) = some r; rw [if_neg h]; exact k n hn⟩
theorem Ev.bindc {α β : Type} {g : Option α} {f : Nat → α → Option β} {a : α} {r : β} (h : g = some a) (k : Ev (fun n => f n a) r) : Ev (fun n => g.bind (f n)) r := by
  subst h
  exact k
theorem Ev.val {α : Type} {a r : α} (h : a = r) : Ev (fun _ => some a) r := by
  subst h
  exact Ev.now _
theorem w64 {a : Int} (h0 : -9223372036854775808 ≤ a) (h1 : a < 9223372036854775808) : wrap64 a = a := by unfold wrap64; omega
theorem w64s {i : Nat} (h : i < 1000000000000000000) : wrap64 ((i : Int) + 1) = ((i + 1 : Nat) : Int) := by rw [w64 (by omega) (by omega)]; omega
theorem rdOf_nat {α : Type} (d : α) (C : List α) (i : Nat) : rdOf d C (i : Int) = C.getD i d := by unfold rdOf; rw [Int.toNat_natCast]
theorem rd_nat (l : List Int) (i : Nat) : rd l (i : Int) = l.getD i 0 := by unfold rd; rw [Int.toNat_natCast]
theorem str_eq {a b : ByteArray} : a.toList = b.toList ↔ a = b := by
  rw [ByteArray.toList_eq, ByteArray.toList_eq]
  constructor
  · intro h
    cases a; cases b
    simp only [Array.toList_inj] at h
    rw [h]
  · intro h; rw [h]
theorem getD_mem {α : Type} {C : List α} {i : Nat} {d : α} (h : i < C.length) : C.getD i d ∈ C := by
  rw [List.getD_eq_getElem?_getD, List.getElem?_eq_getElem h]; exact List.getElem_mem h
theorem mem_getD {α : Type} {C : List α} {x d : α} (h : x ∈ C) : ∃ i, i < C.length ∧ C.getD i d = x := by
  obtain ⟨i, hi, rfl⟩ := List.mem_iff_getElem.1 h
  exact ⟨i, hi, by rw [List.getD_eq_getElem?_getD, List.getElem?_eq_getElem hi]; rfl⟩

/-! Lists of texts: long, the same, what is in them; which texts begin with which. -/

def gt (C : List ByteArray) (i : Nat) : ByteArray := C.getD i ByteArray.empty
theorem rdOf_gt (C : List ByteArray) (i : Nat) : rdOf ByteArray.empty C (i : Int) = gt C i := rdOf_nat _ _ _
theorem drop_gt {C : List ByteArray} {i : Nat} (h : i < C.length) : C.drop i = gt C i :: C.drop (i + 1) := by
  rw [List.drop_eq_getElem_cons h]
  congr 1
  unfold gt
  rw [List.getD_eq_getElem?_getD, List.getElem?_eq_getElem h]; rfl
theorem drop_rd {l : List Int} {i : Nat} (h : i < l.length) : l.drop i = rd l (i : Int) :: l.drop (i + 1) := by
  rw [List.drop_eq_getElem_cons h, rd_nat]
  congr 1
  rw [List.getD_eq_getElem?_getD, List.getElem?_eq_getElem h]; rfl
def bigC : Nat := 1000000000000000000
def longP (C : List ByteArray) : Bool := C.any (fun s => decide (100 < s.size)) || decide (60 < C.length)
theorem long_at (C : List ByteArray) (hC : C.length < bigC) (d : Nat) : ∀ i, i + d = C.length → Ev (fun k => wigeonlaw05_Long.l0 k C (i : Int)) ((C.drop i).any (fun s => decide (100 < s.size)) || decide (60 < C.length)) := by
  unfold bigC at hC
  induction d with
  | zero =>
    intro i hi
    rw [List.drop_eq_nil_of_le (by omega)]
    refine Ev.step (fun k => by rw [wigeonlaw05_Long.l0]) (Ev.ifn (by omega) (Ev.val ?_))
    rw [List.any_nil, Bool.false_or]
    exact decide_eq_decide.2 (by omega)
  | succ d ih =>
    intro i hi
    rw [drop_gt (by omega), List.any_cons]
    refine Ev.step (fun k => by rw [wigeonlaw05_Long.l0, rdOf_gt]) (Ev.ifp (by omega) (Ev.ifp (by omega) ?_))
    by_cases h : 100 < (gt C i).size
    · exact Ev.ifp (by omega) (Ev.val (by rw [decide_eq_true h]; rfl))
    · refine Ev.ifn (by omega) ?_
      rw [decide_eq_false h, Bool.false_or, w64s (by omega)]
      exact ih (i + 1) (by omega)
theorem long_ev (C : List ByteArray) (hC : C.length < bigC) : Ev (fun k => wigeonlaw05_Long.f k C) (longP C) := by
  have := long_at C hC C.length 0 (by omega)
  rw [List.drop_zero] at this
  exact this
theorem sameI_at (a b : List Int) (hl : a.length = b.length) (ha : a.length < bigC) (d : Nat) : ∀ i, i + d = a.length → Ev (fun k => wigeonref05_SameInts.l0 k a b (i : Int)) (decide (a.drop i = b.drop i)) := by
  unfold bigC at ha
  induction d with
  | zero =>
    intro i hi
    rw [List.drop_eq_nil_of_le (by omega), List.drop_eq_nil_of_le (by omega)]
    exact Ev.step (fun k => by rw [wigeonref05_SameInts.l0]) (Ev.ifn (by omega) (Ev.val (by simp)))
  | succ d ih =>
    intro i hi
    rw [drop_rd (show i < a.length by omega), drop_rd (show i < b.length by omega)]
    refine Ev.step (fun k => by rw [wigeonref05_SameInts.l0]) (Ev.ifp (by omega) (Ev.ifp (by omega) (Ev.ifp (by omega) ?_)))
    by_cases h : rd a (i : Int) = rd b (i : Int)
    · refine Ev.ifp h ?_
      rw [w64s (by omega)]
      have := ih (i + 1) (by omega)
      rwa [show decide (rd a (i : Int) :: a.drop (i + 1) = rd b (i : Int) :: b.drop (i + 1)) = decide (a.drop (i + 1) = b.drop (i + 1)) from decide_eq_decide.2 (by rw [h]; simp)]
    · refine Ev.ifn h (Ev.val ?_)
      exact (decide_eq_false (by intro e; exact h (List.cons.inj e).1)).symm
theorem sameI_ev (a b : List Int) (ha : a.length < bigC) : Ev (fun k => wigeonref05_SameInts.f k a b) (decide (a = b)) := by
  unfold wigeonref05_SameInts.f
  by_cases h : a.length = b.length
  · refine Ev.ifp (by omega) ?_
    have := sameI_at a b h ha a.length 0 (by omega)
    rw [List.drop_zero, List.drop_zero] at this
    exact this
  · exact Ev.ifn (by omega) (Ev.val (decide_eq_false (fun e => h (by rw [e]))).symm)
theorem inS_iff {l : List ByteArray} {x : ByteArray} : Go.Lib.containsS l x = true ↔ x ∈ l := Go.Lib.containsS_iff l x
theorem inS_eq {l m : List ByteArray} {x y : ByteArray} (h : x ∈ l ↔ y ∈ m) : Go.Lib.containsS l x = Go.Lib.containsS m y := by rw [Bool.eq_iff_iff, inS_iff, inS_iff]; exact h
theorem inS_true {l : List ByteArray} {x : ByteArray} (h : x ∈ l) : Go.Lib.containsS l x = true := inS_iff.2 h
theorem inS_false {l : List ByteArray} {x : ByteArray} (h : x ∉ l) : Go.Lib.containsS l x = false := by rw [Bool.eq_false_iff]; exact fun e => h (inS_iff.1 e)
theorem index_at (l : List ByteArray) (x : ByteArray) (hl : l.length < bigC) (d : Nat) : ∀ i, i + d = l.length → ∃ r, Ev (fun k => slices_Index_string_string.l0 k l x (l.length : Int) (i : Int)) r ∧ (0 ≤ r ↔ x ∈ l.drop i) := by
  unfold bigC at hl
  induction d with
  | zero =>
    intro i hi
    refine ⟨-1, Ev.step (fun k => by rw [slices_Index_string_string.l0]) (Ev.ifn (by omega) (Ev.now _)), ?_⟩
    rw [List.drop_eq_nil_of_le (by omega)]; simp
  | succ d ih =>
    intro i hi
    rw [drop_gt (show i < l.length by omega)]
    by_cases h : x = gt l i
    · refine ⟨(i : Int), Ev.step (fun k => by rw [slices_Index_string_string.l0, rdOf_gt]) (Ev.ifp (by omega) (Ev.ifp (by omega) (Ev.ifp (by omega) (Ev.ifp (str_eq.2 h) (Ev.now _))))), ?_⟩
      simp [h]
    · obtain ⟨r, h1, h2⟩ := ih (i + 1) (by omega)
      refine ⟨r, Ev.step (fun k => by rw [slices_Index_string_string.l0, rdOf_gt]) (Ev.ifp (by omega) (Ev.ifp (by omega) (Ev.ifp (by omega) (Ev.ifn (fun e => h (str_eq.1 e)) (by rw [w64s (by omega)]; exact h1))))), ?_⟩
      rw [h2]; simp [h]
theorem contains_ev (l : List ByteArray) (x : ByteArray) (hl : l.length < bigC) : Ev (fun k => slices_Contains_string_string.f k l x) (Go.Lib.containsS l x) := by
  unfold slices_Contains_string_string.f slices_Index_string_string.f
  obtain ⟨r, h1, h2⟩ := index_at l x hl l.length 0 (by omega)
  rw [List.drop_zero] at h2
  refine Ev.bind h1 (Ev.val ?_)
  rw [Bool.eq_iff_iff, inS_iff, decide_eq_true_eq]
  exact h2
theorem has_at (l : List ByteArray) (x : ByteArray) (hl : l.length < bigC) (d : Nat) : ∀ i, i + d = l.length → Ev (fun k => wigeonref05_has.l0 k l x (i : Int)) (Go.Lib.containsS (l.drop i) x) := by
  unfold bigC at hl
  induction d with
  | zero =>
    intro i hi
    rw [List.drop_eq_nil_of_le (by omega)]
    exact Ev.step (fun k => by rw [wigeonref05_has.l0]) (Ev.ifn (by omega) (Ev.val (inS_false (by simp)).symm))
  | succ d ih =>
    intro i hi
    rw [drop_gt (show i < l.length by omega)]
    refine Ev.step (fun k => by rw [wigeonref05_has.l0, rdOf_gt]) (Ev.ifp (by omega) (Ev.ifp (by omega) ?_))
    by_cases h : gt l i = x
    · exact Ev.ifp (str_eq.2 h) (Ev.val (inS_true (by rw [h]; simp)).symm)
    · refine Ev.ifn (fun e => h (str_eq.1 e)) ?_
      rw [w64s (by omega)]
      have := ih (i + 1) (by omega)
      rwa [inS_eq (l := gt l i :: l.drop (i + 1)) (m := l.drop (i + 1)) (x := x) (y := x) (by rw [List.mem_cons]; exact ⟨fun e => e.resolve_left (fun e => h e.symm), .inr⟩)]
theorem has_ev (l : List ByteArray) (x : ByteArray) (hl : l.length < bigC) : Ev (fun k => wigeonref05_has.f k l x) (Go.Lib.containsS l x) := by
  have := has_at l x hl l.length 0 (by omega)
  rw [List.drop_zero] at this
  exact this

/-! What the document gives; which codes are valid, by the program and by the reference. -/

theorem mem_sortS {o : List ByteArray} {x : ByteArray} : x ∈ sortS o ↔ x ∈ o := by
  unfold sortS
  rw [List.mem_map]
  constructor
  · rintro ⟨b, hb, rfl⟩
    rw [List.mem_mergeSort, List.mem_map] at hb
    obtain ⟨y, hy, rfl⟩ := hb
    exact hy
  · intro h
    exact ⟨x.data.toList, by rw [List.mem_mergeSort, List.mem_map]; exact ⟨x, h, rfl⟩, rfl⟩
theorem known1 : whistle_FromLengths.f 30 [2, 1, 2] = some ([⟨#[45, 46]⟩, ⟨#[46]⟩, ⟨#[45, 45]⟩], 0) := by decide +kernel
theorem known2v : whistle_Validate.f 30 [⟨#[46]⟩, ⟨#[46, 45]⟩] = some 0 := by decide +kernel
theorem known3v : whistle_Validate.f 30 [⟨#[46]⟩, ⟨#[46, 45]⟩, ⟨#[45, 46]⟩] = some 0 := by decide +kernel
theorem known2e : goB [⟨#[46]⟩, ⟨#[46, 45]⟩] 30 (outA [⟨#[46]⟩, ⟨#[46, 45]⟩] 2) 0 = some [⟨#[45]⟩] := by decide +kernel
theorem known3e : goB [⟨#[46]⟩, ⟨#[46, 45]⟩, ⟨#[45, 46]⟩] 30 (outA [⟨#[46]⟩, ⟨#[46, 45]⟩, ⟨#[45, 46]⟩] 3) 0 = some [⟨#[45]⟩, ⟨#[46]⟩] := by decide +kernel
theorem safe_of {k : Nat} {C o : List ByteArray} (hv : whistle_Validate.f k C = some 0) (hC : C.length ≤ 100) (ho : goB C k (outA C C.length) 0 = some o) : whistle_IsSafe.f k C = some (!(C.any (Go.Lib.containsS o)), 0) := by
  unfold whistle_IsSafe.f endsL
  rw [hv, if_pos hC, ho]
  show some (!(C.any (Go.Lib.containsS (sortS o))), (0 : Int)) = _
  congr 3
  rw [Bool.eq_iff_iff, List.any_eq_true, List.any_eq_true]
  exact ⟨fun ⟨x, h1, h2⟩ => ⟨x, h1, inS_iff.2 (mem_sortS.1 (inS_iff.1 h2))⟩, fun ⟨x, h1, h2⟩ => ⟨x, h1, inS_iff.2 (mem_sortS.2 (inS_iff.1 h2))⟩⟩
theorem known_ev : Ev (fun k => wigeonlaw05_known.f k) true := by
  refine Ev.of (k := 30) (fun k => wigeonlaw05_known.mono k) ?_
  unfold wigeonlaw05_known.f
  rw [known1, safe_of known2v (by decide) known2e, safe_of known3v (by decide) known3e]
  decide +kernel
theorem known_bind {r : Bool} (h : r = true) : Ev (fun k => (wigeonlaw05_known.f k).bind fun t => some t) r := by
  subst h
  exact Ev.bind known_ev (Ev.now _)
/-! Notes. -/
def noteB (b : UInt8) : Bool := b == 46 || b == 45
theorem noteB_iff {b : UInt8} : noteB b = true ↔ b = 46 ∨ b = 45 := by unfold noteB; simp
theorem bt_nat {s : ByteArray} {i : Nat} (h : i < s.data.toList.length) : bt s (i : Int) = ((s.data.toList[i].toNat : Nat) : Int) := by
  have h2 : i < s.size := by rwa [Array.length_toList] at h
  exact w_bt_of h2
theorem noteW_byte (b : UInt8) : noteW ((b.toNat : Nat) : Int) = noteB b := by
  rw [Bool.eq_iff_iff, noteB_iff]
  unfold noteW
  rw [Bool.or_eq_true, decide_eq_true_eq, decide_eq_true_eq]
  constructor
  · rintro (h | h)
    · exact .inl (UInt8.toNat_inj.1 (by show b.toNat = 46; omega))
    · exact .inr (UInt8.toNat_inj.1 (by show b.toNat = 45; omega))
  · rintro (rfl | rfl)
    · exact .inl rfl
    · exact .inr rfl
theorem notesP_list (s : ByteArray) : notesP s = s.data.toList.all noteB := by
  unfold notesP
  rw [Bool.eq_iff_iff, List.all_eq_true, List.all_eq_true]
  constructor
  · intro h b hb
    obtain ⟨i, hi, rfl⟩ := List.mem_iff_getElem.1 hb
    have := h i (List.mem_range.2 (by rwa [Array.length_toList] at hi))
    rwa [bt_nat hi, noteW_byte] at this
  · intro h i hi
    have hi := List.mem_range.1 hi
    have hi2 : i < s.data.toList.length := by rwa [Array.length_toList]
    rw [bt_nat hi2, noteW_byte]
    exact h _ (List.getElem_mem hi2)
theorem notes_eq {s : ByteArray} (h : s.size ≤ 140737488351232) : whistle_notes.f s = some (notesP s) := by unfold whistle_notes.f; rw [if_pos (by omega)]
theorem isNotes_at (s : ByteArray) (hs : s.size < bigC) (d : Nat) : ∀ i, i + d = s.size → Ev (fun k => wigeonref05_isNotes.l0 k s (i : Int)) ((s.data.toList.drop i).all noteB) := by
  unfold bigC at hs
  have hlen : s.data.toList.length = s.size := Array.length_toList
  induction d with
  | zero =>
    intro i hi
    rw [List.drop_eq_nil_of_le (by omega)]
    exact Ev.step (fun k => by rw [wigeonref05_isNotes.l0]) (Ev.ifn (by omega) (Ev.val (by rfl)))
  | succ d ih =>
    intro i hi
    have h2 : i < s.data.toList.length := by omega
    rw [List.drop_eq_getElem_cons h2, List.all_cons]
    refine Ev.step (fun k => by rw [wigeonref05_isNotes.l0]) (Ev.ifp (by omega) (Ev.ifp (by omega) ?_))
    rw [bt_nat h2]
    have hn := noteW_byte s.data.toList[i]
    generalize s.data.toList[i] = b at *
    unfold noteW at hn
    by_cases h : ((b.toNat : Nat) : Int) = 46
    · refine Ev.ifp h ?_
      rw [decide_eq_true h] at hn
      rw [← hn, Bool.true_or, Bool.true_and, w64s (by omega)]
      exact ih (i + 1) (by omega)
    · refine Ev.ifn h ?_
      rw [decide_eq_false h, Bool.false_or] at hn
      by_cases h5 : ((b.toNat : Nat) : Int) = 45
      · refine Ev.ifp h5 ?_
        rw [decide_eq_true h5] at hn
        rw [← hn, Bool.true_and, w64s (by omega)]
        exact ih (i + 1) (by omega)
      · refine Ev.ifn h5 (Ev.val ?_)
        rw [decide_eq_false h5] at hn
        rw [← hn, Bool.false_and]
theorem isNotes_ev (s : ByteArray) (hs : s.size < bigC) : Ev (fun k => wigeonref05_isNotes.f k s) (notesP s) := by
  have := isNotes_at s hs s.size 0 (by omega)
  rw [List.drop_zero, ← notesP_list] at this
  exact this
/-! Validate. -/
def okS (s : ByteArray) : Bool := decide (1 ≤ s.size) && decide (s.size ≤ 12) && notesP s
def valAt (C : List ByteArray) : Nat → Nat → Int
  | 0, _ => 0
  | d + 1, i => if okS (gt C i) = false then 1 else if Go.Lib.containsS (C.take i) (gt C i) = true then 5 else valAt C d (i + 1)
def valP (C : List ByteArray) : Int := if C.length < 1 ∨ 12 < C.length then 3 else valAt C C.length 0
def Sized (C : List ByteArray) : Prop := ∀ s ∈ C, s.size ≤ 140737488351232
theorem Sized.gt {C : List ByteArray} (h : Sized C) (i : Nat) : (gt C i).size ≤ 140737488351232 := by
  by_cases hi : i < C.length
  · exact h _ (getD_mem hi)
  · unfold Pure.gt
    rw [List.getD_eq_getElem?_getD, List.getElem?_eq_none (by omega)]
    decide
theorem val_at (C : List ByteArray) (hC : C.length ≤ 12) (hS : Sized C) (d : Nat) : ∀ i, i + d = C.length → Ev (fun k => whistle_Validate.l0 k C C (C.length : Int) (i : Int)) (valAt C d i) := by
  induction d with
  | zero =>
    intro i hi
    exact Ev.step (fun k => by rw [whistle_Validate.l0]) (Ev.ifn (by omega) (Ev.val (by rfl)))
  | succ d ih =>
    intro i hi
    have hs := hS.gt i
    have hj1 : ∀ v : ByteArray, Ev (fun k => whistle_Validate.j2 k C (i : Int) v C (C.length : Int) (i : Int) true) 1 := fun v => Ev.step (fun k => by rw [whistle_Validate.j2]) (Ev.ifp rfl (Ev.now _))
    unfold valAt
    refine Ev.step (fun k => by rw [whistle_Validate.l0, rdOf_gt]) (Ev.ifp (by omega) (Ev.ifp (by omega) (Ev.ifp (by omega) ?_)))
    by_cases h1 : 1 ≤ (gt C i).size
    · refine Ev.ifn (by omega) ?_
      by_cases h2 : (gt C i).size ≤ 12
      · refine Ev.ifn (by omega) (Ev.bindc (notes_eq hs) ?_)
        have hok : okS (gt C i) = notesP (gt C i) := by unfold okS; rw [decide_eq_true h1, decide_eq_true h2]; rfl
        rw [hok]
        cases hn : notesP (gt C i)
        · rw [if_pos rfl]; exact hj1 _
        · rw [if_neg (by decide)]
          refine Ev.step (fun k => by rw [whistle_Validate.j2]) (Ev.ifn (by decide) (Ev.ifp (by omega) (Ev.ifp (by omega) ?_)))
          rw [Int.toNat_natCast]
          refine Ev.bind (contains_ev (C.take i) (gt C i) (by rw [List.length_take]; unfold bigC; omega)) ?_
          by_cases hc : Go.Lib.containsS (C.take i) (gt C i) = true
          · rw [if_pos hc]
            exact Ev.ifp hc (Ev.now _)
          · rw [if_neg hc]
            refine Ev.ifn hc ?_
            rw [w64s (by omega)]
            exact ih (i + 1) (by omega)
      · refine Ev.ifp (by omega) ?_
        rw [if_pos (by unfold okS; rw [decide_eq_false h2, Bool.and_false, Bool.false_and])]
        exact hj1 _
    · refine Ev.ifp (by omega) ?_
      rw [if_pos (by unfold okS; rw [decide_eq_false h1, Bool.false_and, Bool.false_and])]
      exact hj1 _
theorem val_ev (C : List ByteArray) (hS : Sized C) : Ev (fun k => whistle_Validate.f k C) (valP C) := by
  unfold whistle_Validate.f valP
  have hj : Ev (fun k => whistle_Validate.j0 k C true) 3 := Ev.step (fun k => by rw [whistle_Validate.j0]) (Ev.ifp rfl (Ev.now _))
  by_cases h1 : C.length < 1
  · rw [if_pos (.inl h1)]
    exact Ev.ifp (by omega) hj
  · refine Ev.ifn (by omega) ?_
    by_cases h2 : 12 < C.length
    · rw [if_pos (.inr h2), decide_eq_true (show (C.length : Int) > 12 by omega)]
      exact hj
    · rw [if_neg (by omega), decide_eq_false (show ¬ (C.length : Int) > 12 by omega)]
      have h0 : Ev (fun k => whistle_Validate.l0 k C C (C.length : Int) 0) (valAt C C.length 0) := val_at C (by omega) hS C.length 0 (by omega)
      exact Ev.step (fun k => by rw [whistle_Validate.j0]) (Ev.ifn (by decide) h0)
theorem rval_in (C : List ByteArray) (hC : C.length ≤ 12) (i : Nat) (hi : i < C.length) (r0 : Int) (hr : Ev (fun k => wigeonref05_Validate.l0 k C ((i + 1 : Nat) : Int)) r0) (d : Nat) : ∀ j, j + d = i → Ev (fun k => wigeonref05_Validate.l1 k C (i : Int) (j : Int)) (if Go.Lib.containsS ((C.take i).drop j) (gt C i) = true then 5 else r0) := by
  induction d with
  | zero =>
    intro j hj
    rw [List.drop_eq_nil_of_le (by rw [List.length_take]; omega), inS_false (by simp), if_neg (by decide)]
    refine Ev.step (fun k => by rw [wigeonref05_Validate.l1]) (Ev.ifn (by omega) ?_)
    rw [w64s (by omega)]
    exact hr
  | succ d ih =>
    intro j hj
    have hg : gt (C.take i) j = gt C j := by
      unfold gt
      rw [List.getD_eq_getElem?_getD, List.getD_eq_getElem?_getD, List.getElem?_take_of_lt (by omega)]
    rw [drop_gt (show j < (C.take i).length by rw [List.length_take]; omega), hg]
    refine Ev.step (fun k => by rw [wigeonref05_Validate.l1, rdOf_gt, rdOf_gt]) (Ev.ifp (by omega) (Ev.ifp (by omega) (Ev.ifp (by omega) (Ev.ifp (by omega) (Ev.ifp (by omega) ?_)))))
    by_cases h : gt C j = gt C i
    · rw [inS_true (by rw [h]; simp), if_pos rfl]
      exact Ev.ifp (str_eq.2 h) (Ev.now _)
    · refine Ev.ifn (fun e => h (str_eq.1 e)) ?_
      rw [w64s (by omega)]
      have := ih (j + 1) (by omega)
      rwa [inS_eq (l := gt C j :: (C.take i).drop (j + 1)) (m := (C.take i).drop (j + 1)) (x := gt C i) (y := gt C i) (by rw [List.mem_cons]; exact ⟨fun e => e.resolve_left (fun e => h e.symm), .inr⟩)]
theorem rval_at (C : List ByteArray) (hC : C.length ≤ 12) (hS : Sized C) (d : Nat) : ∀ i, i + d = C.length → Ev (fun k => wigeonref05_Validate.l0 k C (i : Int)) (valAt C d i) := by
  induction d with
  | zero =>
    intro i hi
    exact Ev.step (fun k => by rw [wigeonref05_Validate.l0]) (Ev.ifn (by omega) (Ev.val (by rfl)))
  | succ d ih =>
    intro i hi
    have hs := hS.gt i
    have hj1 : Ev (fun k => wigeonref05_Validate.j2 k C (i : Int) true) 1 := Ev.step (fun k => by rw [wigeonref05_Validate.j2]) (Ev.ifp rfl (Ev.now _))
    unfold valAt
    refine Ev.step (fun k => by rw [wigeonref05_Validate.l0, rdOf_gt]) (Ev.ifp (by omega) (Ev.ifp (by omega) ?_))
    by_cases h1 : 1 ≤ (gt C i).size
    · refine Ev.ifn (by omega) ?_
      by_cases h2 : (gt C i).size ≤ 12
      · refine Ev.ifn (by omega) (Ev.bind (isNotes_ev _ (by unfold bigC; omega)) ?_)
        have hok : okS (gt C i) = notesP (gt C i) := by unfold okS; rw [decide_eq_true h1, decide_eq_true h2]; rfl
        rw [hok]
        cases hn : notesP (gt C i)
        · rw [if_pos rfl]; exact hj1
        · rw [if_neg (by decide)]
          refine Ev.step (fun k => by rw [wigeonref05_Validate.j2]) (Ev.ifn (by decide) ?_)
          have h0 : Ev (fun k => wigeonref05_Validate.l1 k C (i : Int) 0) (if Go.Lib.containsS ((C.take i).drop 0) (gt C i) = true then 5 else valAt C d (i + 1)) := rval_in C hC i (by omega) _ (ih (i + 1) (by omega)) i 0 (by omega)
          rwa [List.drop_zero] at h0
      · refine Ev.ifp (by omega) ?_
        rw [if_pos (by unfold okS; rw [decide_eq_false h2, Bool.and_false, Bool.false_and])]
        exact hj1
    · refine Ev.ifp (by omega) ?_
      rw [if_pos (by unfold okS; rw [decide_eq_false h1, Bool.false_and, Bool.false_and])]
      exact hj1
theorem rval_ev (C : List ByteArray) (hS : Sized C) : Ev (fun k => wigeonref05_Validate.f k C) (valP C) := by
  unfold wigeonref05_Validate.f valP
  have hj : Ev (fun k => wigeonref05_Validate.j0 k C true) 3 := Ev.step (fun k => by rw [wigeonref05_Validate.j0]) (Ev.ifp rfl (Ev.now _))
  by_cases h1 : C.length < 1
  · rw [if_pos (.inl h1)]
    exact Ev.ifp (by omega) hj
  · refine Ev.ifn (by omega) ?_
    by_cases h2 : 12 < C.length
    · rw [if_pos (.inr h2), decide_eq_true (show (C.length : Int) > 12 by omega)]
      exact hj
    · rw [if_neg (by omega), decide_eq_false (show ¬ (C.length : Int) > 12 by omega)]
      have h0 : Ev (fun k => wigeonref05_Validate.l0 k C 0) (valAt C C.length 0) := rval_at C (by omega) hS C.length 0 (by omega)
      exact Ev.step (fun k => by rw [wigeonref05_Validate.j0]) (Ev.ifn (by decide) h0)
/-- A valid code. -/
structure Valid (C : List ByteArray) : Prop where
  pos : 1 ≤ C.length
  few : C.length ≤ 12
  size1 : ∀ s ∈ C, 1 ≤ s.size
  size12 : ∀ s ∈ C, s.size ≤ 12
  notes : ∀ s ∈ C, notesP s = true
  nodup : C.Nodup
theorem okS_iff {s : ByteArray} : okS s = true ↔ 1 ≤ s.size ∧ s.size ≤ 12 ∧ notesP s = true := by
  unfold okS
  rw [Bool.and_eq_true, Bool.and_eq_true, decide_eq_true_eq, decide_eq_true_eq]
  exact and_assoc
theorem valAt_zero (C : List ByteArray) (d : Nat) : ∀ i, i + d = C.length → (valAt C d i = 0 ↔ (∀ j, i ≤ j → j < C.length → okS (gt C j) = true ∧ gt C j ∉ C.take j)) := by
  induction d with
  | zero => intro i hi; exact ⟨fun _ j h1 h2 => by omega, fun _ => rfl⟩
  | succ d ih =>
    intro i hi
    unfold valAt
    by_cases h1 : okS (gt C i) = false
    · rw [if_pos h1]
      exact ⟨fun h => by omega, fun h => by have := (h i (Nat.le_refl _) (by omega)).1; rw [h1] at this; cases this⟩
    · rw [if_neg h1]
      by_cases h2 : Go.Lib.containsS (C.take i) (gt C i) = true
      · rw [if_pos h2]
        exact ⟨fun h => by omega, fun h => absurd (inS_iff.1 h2) (h i (Nat.le_refl _) (by omega)).2⟩
      · rw [if_neg h2, ih (i + 1) (by omega)]
        constructor
        · intro h j h3 h4
          by_cases e : j = i
          · subst e
            exact ⟨by simpa using h1, fun hm => h2 (inS_iff.2 hm)⟩
          · exact h j (by omega) h4
        · intro h j h3 h4; exact h j (by omega) h4
theorem nodup_take {C : List ByteArray} : C.Nodup ↔ ∀ j, j < C.length → gt C j ∉ C.take j := by
  constructor
  · intro h j hj hm
    obtain ⟨i, hi, e⟩ := List.mem_iff_getElem.1 hm
    rw [List.length_take] at hi
    rw [List.getElem_take] at e
    have hij : i < j := by omega
    have e2 : gt C j = C[j] := by unfold gt; rw [List.getD_eq_getElem?_getD, List.getElem?_eq_getElem hj]; rfl
    rw [e2] at e
    have := (List.getElem_inj h).1 e
    omega
  · intro h
    rw [List.nodup_iff_pairwise_ne, List.pairwise_iff_getElem]
    intro i j hi hj hij e
    refine h j hj ?_
    have e2 : gt C j = C[j] := by unfold gt; rw [List.getD_eq_getElem?_getD, List.getElem?_eq_getElem hj]; rfl
    rw [e2, ← e]
    exact List.mem_iff_getElem.2 ⟨i, by rw [List.length_take]; omega, by rw [List.getElem_take]⟩
theorem valP_zero {C : List ByteArray} : valP C = 0 ↔ Valid C := by
  unfold valP
  by_cases h : C.length < 1 ∨ 12 < C.length
  · rw [if_pos h]
    exact ⟨fun e => by omega, fun v => by have := v.pos; have := v.few; omega⟩
  · rw [if_neg h, valAt_zero C C.length 0 (by omega)]
    constructor
    · intro h2
      have hm : ∀ s ∈ C, okS s = true := fun s hs => by
        obtain ⟨i, hi, rfl⟩ := mem_getD (d := ByteArray.empty) hs
        exact (h2 i (Nat.zero_le _) hi).1
      exact ⟨by omega, by omega, fun s hs => (okS_iff.1 (hm s hs)).1, fun s hs => (okS_iff.1 (hm s hs)).2.1, fun s hs => (okS_iff.1 (hm s hs)).2.2, nodup_take.2 fun j hj => (h2 j (Nat.zero_le _) hj).2⟩
    · intro v j _ hj
      have hm := getD_mem (d := ByteArray.empty) hj
      exact ⟨okS_iff.2 ⟨v.size1 _ hm, v.size12 _ hm, v.notes _ hm⟩, nodup_take.1 v.nodup j hj⟩

/-! The bytes of a text. -/

def bs (s : ByteArray) : List UInt8 := s.data.toList
theorem bs_inj {a b : ByteArray} (h : bs a = bs b) : a = b := by
  rw [← str_eq, ByteArray.toList_eq, ByteArray.toList_eq]; exact h
theorem bs_mk (l : List UInt8) : bs ⟨l.toArray⟩ = l := by unfold bs; simp
theorem bs_len (s : ByteArray) : (bs s).length = s.size := Array.length_toList
theorem headB_iff {y x : ByteArray} : headB y x = true ↔ ∃ t, bs y = bs x ++ t := by
  unfold headB Lib.hasPrefix
  rw [List.isPrefixOf_iff_prefix]
  exact ⟨fun ⟨t, h⟩ => ⟨t, h.symm⟩, fun ⟨t, h⟩ => ⟨t, h.symm⟩⟩
theorem toList_bs (s : ByteArray) : s.toList = bs s := ByteArray.toList_eq s
theorem gt_mem {C : List ByteArray} {i : Nat} (h : i < C.length) : gt C i ∈ C := getD_mem h
theorem mem_gt {C : List ByteArray} {x : ByteArray} (h : x ∈ C) : ∃ i, i < C.length ∧ gt C i = x := mem_getD h

/-! What is left over: the program's and the reference's searches find just that. -/

/-- s is left over of y behind x. -/
def Cut (y x s : ByteArray) : Prop := bs y = bs x ++ bs s ∧ bs s ≠ []
theorem restB_of {y x : ByteArray} {t : List UInt8} (h : bs y = bs x ++ t) : bs (restB y x) = t := by
  have hh := headB_iff.2 ⟨t, h⟩
  unfold restB
  rw [bs_mk]
  unfold Lib.trimPrefix
  unfold headB at hh
  rw [hh, if_pos rfl]
  show (bs y).drop (bs x).length = t
  rw [h, List.drop_left]
theorem addB_iff {o : List ByteArray} {t : ByteArray} {b : Bool} : addB o t b = true ↔ b = true ∧ bs t ≠ [] ∧ t ∉ o := by
  unfold addB
  rw [Bool.and_eq_true, Bool.and_eq_true, toList_bs, Bool.not_eq_true', Bool.not_eq_true', List.isEmpty_eq_false_iff, Bool.eq_false_iff]
  constructor
  · rintro ⟨⟨h1, h2⟩, h3⟩; exact ⟨h1, h2, fun h => h3 (inS_iff.2 h)⟩
  · rintro ⟨h1, h2, h3⟩; exact ⟨⟨h1, h2⟩, fun h => h3 (inS_iff.1 h)⟩
theorem mem_addO {o : List ByteArray} {t s : ByteArray} {b : Bool} : s ∈ addO o t b ↔ s ∈ o ∨ (b = true ∧ bs t ≠ [] ∧ s = t) := by
  unfold addO
  by_cases h : addB o t b = true
  · rw [if_pos h, List.mem_append, List.mem_singleton]
    have h2 := addB_iff.1 h
    exact ⟨fun e => e.imp id (fun e => ⟨h2.1, h2.2.1, e⟩), fun e => e.imp id (fun e => e.2.2)⟩
  · rw [if_neg h]
    refine ⟨.inl, fun e => e.elim id ?_⟩
    rintro ⟨h1, h2, rfl⟩
    apply Classical.byContradiction
    intro hn
    exact h (addB_iff.2 ⟨h1, h2, hn⟩)
theorem addO_nodup {o : List ByteArray} {t : ByteArray} {b : Bool} (h : o.Nodup) : (addO o t b).Nodup := by
  unfold addO
  by_cases hb : addB o t b = true
  · rw [if_pos hb]
    have h2 := (addB_iff.1 hb).2.2
    refine List.nodup_append.2 ⟨h, by simp, fun a ha c hc e => ?_⟩
    rw [List.mem_singleton] at hc
    subst hc; subst e; exact h2 ha
  · rw [if_neg hb]; exact h
theorem mem_cutO {o : List ByteArray} {y x s : ByteArray} : s ∈ cutO o y x ↔ s ∈ o ∨ Cut y x s := by
  unfold cutO
  rw [mem_addO]
  constructor
  · rintro (h | ⟨h1, h2, rfl⟩)
    · exact .inl h
    · obtain ⟨t, ht⟩ := headB_iff.1 h1
      refine .inr ⟨?_, h2⟩
      rw [restB_of ht]; exact ht
  · rintro (h | ⟨h1, h2⟩)
    · exact .inl h
    · have := restB_of h1
      exact .inr ⟨headB_iff.2 ⟨_, h1⟩, by rw [this]; exact h2, bs_inj this.symm⟩
theorem cutO_nodup {o : List ByteArray} {y x : ByteArray} (h : o.Nodup) : (cutO o y x).Nodup := addO_nodup h
theorem mem_inA {C : List ByteArray} {x s : ByteArray} {o : List ByteArray} : ∀ {j}, s ∈ inA C x j o ↔ s ∈ o ∨ ∃ i, i < j ∧ Cut (gt C i) x s
  | 0 => ⟨.inl, fun h => h.elim id fun ⟨i, h, _⟩ => by omega⟩
  | j + 1 => by
    show s ∈ cutO (inA C x j o) (gt C j) x ↔ _
    rw [mem_cutO, mem_inA]
    constructor
    · rintro ((h | ⟨i, hi, h⟩) | h)
      · exact .inl h
      · exact .inr ⟨i, by omega, h⟩
      · exact .inr ⟨j, by omega, h⟩
    · rintro (h | ⟨i, hi, h⟩)
      · exact .inl (.inl h)
      · by_cases e : i = j
        · subst e; exact .inr h
        · exact .inl (.inr ⟨i, by omega, h⟩)
theorem inA_nodup {C : List ByteArray} {x : ByteArray} {o : List ByteArray} (h : o.Nodup) : ∀ j, (inA C x j o).Nodup
  | 0 => h
  | j + 1 => cutO_nodup (inA_nodup h j)
theorem mem_outA {C : List ByteArray} {s : ByteArray} : ∀ {k}, s ∈ outA C k ↔ ∃ i, i < k ∧ ∃ j, j < C.length ∧ Cut (gt C j) (gt C i) s
  | 0 => ⟨fun h => by simp [outA] at h, fun ⟨i, h, _⟩ => by omega⟩
  | k + 1 => by
    show s ∈ inA C (gt C k) C.length (outA C k) ↔ _
    rw [mem_inA, mem_outA]
    constructor
    · rintro (⟨i, hi, h⟩ | ⟨j, hj, h⟩)
      · exact ⟨i, by omega, h⟩
      · exact ⟨k, by omega, j, hj, h⟩
    · rintro ⟨i, hi, j, hj, h⟩
      by_cases e : i = k
      · subst e; exact .inr ⟨j, hj, h⟩
      · exact .inl ⟨i, by omega, j, hj, h⟩
theorem outA_nodup {C : List ByteArray} : ∀ k, (outA C k).Nodup
  | 0 => List.nodup_nil
  | k + 1 => inA_nodup (outA_nodup k) _
/-! Words. -/
def wds (C : List ByteArray) : List (List UInt8) := C.map bs
theorem mem_wds {C : List ByteArray} {x : List UInt8} : x ∈ wds C ↔ ∃ s, s ∈ C ∧ bs s = x := List.mem_map
def LeftS (C : List ByteArray) (s : ByteArray) : Prop := Left (wds C) (bs s)
theorem LeftS.base {C : List ByteArray} {x y s : ByteArray} (hx : x ∈ C) (hy : y ∈ C) (h : Cut y x s) : LeftS C s := Left.base (mem_wds.2 ⟨x, hx, rfl⟩) (mem_wds.2 ⟨y, hy, rfl⟩) h.1 h.2
theorem LeftS.on {C : List ByteArray} {e x s : ByteArray} (he : LeftS C e) (hx : x ∈ C) (h : Cut e x s ∨ Cut x e s) : LeftS C s := by
  rcases h with h | h
  · exact Left.cut he (mem_wds.2 ⟨x, hx, rfl⟩) h.1 h.2
  · exact Left.rest he (mem_wds.2 ⟨x, hx, rfl⟩) h.1 h.2
/-- A list from which nothing more is left over has all. -/
theorem closed_has {C E : List ByteArray} (h1 : ∀ x ∈ C, ∀ y ∈ C, ∀ s, Cut y x s → s ∈ E) (h2 : ∀ e ∈ E, ∀ x ∈ C, ∀ s, (Cut e x s ∨ Cut x e s) → s ∈ E) {s : ByteArray} (h : LeftS C s) : s ∈ E := by
  have key : ∀ t, Left (wds C) t → (⟨t.toArray⟩ : ByteArray) ∈ E := by
    intro t ht
    induction ht with
    | base hx hy e hne =>
      obtain ⟨x, hx2, rfl⟩ := mem_wds.1 hx
      obtain ⟨y, hy2, rfl⟩ := mem_wds.1 hy
      exact h1 x hx2 y hy2 _ ⟨by rw [bs_mk]; exact e, by rw [bs_mk]; exact hne⟩
    | cut he hx e hne ih =>
      obtain ⟨x, hx2, rfl⟩ := mem_wds.1 hx
      exact h2 _ ih x hx2 _ (.inl ⟨by rw [bs_mk, bs_mk]; exact e, by rw [bs_mk]; exact hne⟩)
    | rest he hx e hne ih =>
      obtain ⟨x, hx2, rfl⟩ := mem_wds.1 hx
      exact h2 _ ih x hx2 _ (.inr ⟨by rw [bs_mk, bs_mk]; exact e, by rw [bs_mk]; exact hne⟩)
  have := key _ h
  rwa [show (⟨(bs s).toArray⟩ : ByteArray) = s from bs_inj (bs_mk _)] at this
/-- What can be left over is an end of a signal. -/
def tails (C : List ByteArray) : List ByteArray := C.flatMap fun s => (List.range (s.size + 1)).map fun i => ⟨((bs s).drop i).toArray⟩
theorem left_tail {C : List ByteArray} {s : ByteArray} (h : LeftS C s) : s ∈ tails C := by
  have key : ∀ t, Left (wds C) t → ∃ x ∈ C, ∃ a, bs x = a ++ t := by
    intro t ht
    induction ht with
    | base hx hy e _ =>
      obtain ⟨y, hy2, rfl⟩ := mem_wds.1 hy
      exact ⟨y, hy2, _, e⟩
    | cut he hx e _ ih =>
      obtain ⟨z, hz, a, ha⟩ := ih
      exact ⟨z, hz, _, by rw [ha, e, ← List.append_assoc]⟩
    | rest he hx e _ ih =>
      obtain ⟨x, hx2, rfl⟩ := mem_wds.1 hx
      exact ⟨x, hx2, _, e⟩
  obtain ⟨x, hx, a, ha⟩ := key _ h
  unfold tails
  rw [List.mem_flatMap]
  refine ⟨x, hx, ?_⟩
  rw [List.mem_map]
  refine ⟨a.length, List.mem_range.2 ?_, ?_⟩
  · have := congrArg List.length ha
    rw [List.length_append, bs_len] at this; omega
  · rw [ha, List.drop_left]
    exact bs_inj (bs_mk _)
theorem nodup_len {α : Type} {l : List α} : ∀ {m : List α}, l.Nodup → (∀ x ∈ l, x ∈ m) → l.length ≤ m.length := by
  induction l with
  | nil => intro m _ _; exact Nat.zero_le _
  | cons a l ih =>
    intro m h hm
    obtain ⟨p, q, e⟩ := List.append_of_mem (hm a (List.mem_cons_self ..))
    have h2 := List.nodup_cons.1 h
    have := ih (m := p ++ q) h2.2 (fun x hx => by
      have := hm x (List.mem_cons_of_mem _ hx)
      rw [e, List.mem_append, List.mem_cons] at this
      rw [List.mem_append]
      rcases this with h | h | h
      · exact .inl h
      · subst h; exact absurd hx h2.1
      · exact .inr h)
    rw [e, List.length_append, List.length_cons]
    rw [List.length_append] at this
    rw [List.length_cons]; omega
theorem tails_len (C : List ByteArray) (h : ∀ s ∈ C, s.size ≤ 12) : (tails C).length ≤ 13 * C.length := by
  unfold tails
  induction C with
  | nil => exact Nat.zero_le _
  | cons a C ih =>
    have h1 := h a (List.mem_cons_self ..)
    have h2 := ih (fun s hs => h s (List.mem_cons_of_mem _ hs))
    rw [List.flatMap_cons, List.length_append, List.length_map, List.length_range, List.length_cons]
    omega
/-- How a search stands. -/
structure Found (C : List ByteArray) (o : List ByteArray) (i : Nat) : Prop where
  nodup : o.Nodup
  left : ∀ s ∈ o, LeftS C s
  base : ∀ x ∈ C, ∀ y ∈ C, ∀ s, Cut y x s → s ∈ o
  done : ∀ j, j < i → ∀ x ∈ C, ∀ s, (Cut (gt o j) x s ∨ Cut x (gt o j) s) → s ∈ o
  le : i ≤ o.length
theorem Found.len {C o : List ByteArray} {i : Nat} (h : Found C o i) (v : Valid C) : o.length ≤ 156 := by
  have h1 := nodup_len h.nodup (fun s hs => left_tail (h.left s hs))
  have h2 := tails_len C v.size12
  have := v.few
  omega
theorem Found.all {C o : List ByteArray} (h : Found C o o.length) {s : ByteArray} : s ∈ o ↔ LeftS C s := by
  refine ⟨h.left s, fun hs => closed_has h.base (fun e he x hx s h2 => ?_) hs⟩
  obtain ⟨j, hj, rfl⟩ := mem_getD (d := ByteArray.empty) he
  exact h.done j hj x hx s h2
/-- One row of the search more. -/
theorem Found.next {C o o' : List ByteArray} {i : Nat} (h : Found C o i) (hi : i < o.length) (hn : o'.Nodup) (hm : ∀ s, s ∈ o' ↔ s ∈ o ∨ ∃ x, x ∈ C ∧ (Cut (gt o i) x s ∨ Cut x (gt o i) s)) (hg : ∀ j, j < o.length → gt o' j = gt o j) (hl : o.length ≤ o'.length) : Found C o' (i + 1) where
  nodup := hn
  left := fun s hs => by
    rcases (hm s).1 hs with h1 | ⟨x, hx, h1⟩
    · exact h.left s h1
    · exact (h.left _ (gt_mem hi)).on hx h1
  base := fun x hx y hy s hc => (hm s).2 (.inl (h.base x hx y hy s hc))
  done := fun j hj x hx s hc => by
    by_cases e : j = i
    · subst e
      rw [hg j hi] at hc
      exact (hm s).2 (.inr ⟨x, hx, hc⟩)
    · rw [hg j (by omega)] at hc
      exact (hm s).2 (.inl (h.done j (by omega) x hx s hc))
  le := by omega
theorem outA_found {C : List ByteArray} : Found C (outA C C.length) 0 where
  nodup := outA_nodup _
  left := fun s hs => by
    obtain ⟨i, hi, j, hj, h⟩ := mem_outA.1 hs
    exact LeftS.base (gt_mem hi) (gt_mem hj) h
  base := fun x hx y hy s h => by
    obtain ⟨i, hi, rfl⟩ := mem_gt hx
    obtain ⟨j, hj, rfl⟩ := mem_gt hy
    exact mem_outA.2 ⟨i, hi, j, hj, h⟩
  done := fun j hj => by omega
  le := Nat.zero_le _
/-! The reference's ends. -/
theorem leftP_iff {x y s : ByteArray} : ((leftP x y).2 = true ∧ s = (leftP x y).1) ↔ Cut x y s ∨ Cut y x s := by
  unfold leftP
  have sz : ∀ {a b t : ByteArray}, Cut a b t → b.size < a.size := fun {a b t} h => by
    have h1 := congrArg List.length h.1
    rw [List.length_append, bs_len, bs_len] at h1
    have : 0 < (bs t).length := List.length_pos_iff.2 h.2
    omega
  have ex : ∀ {a b : ByteArray} {t : List UInt8}, bs a = bs b ++ t → bs (a.extract b.size a.size) = t := fun {a b t} h => by
    have h1 : bs (a.extract b.size a.size) = (bs a).drop b.size := by
      unfold bs
      rw [ByteArray.data_extract, Array.toList_extract, List.extract_eq_take_drop]
      rw [List.take_of_length_le]
      rw [List.length_drop, Array.length_toList]; exact Nat.le_refl _
    rw [h1, h, ← bs_len b, List.drop_left]
  have key : ∀ {a b : ByteArray}, b.size < a.size → ((headB a b = true ∧ s = a.extract b.size a.size) ↔ Cut a b s) := fun {a b} hlt => by
    constructor
    · rintro ⟨h1, rfl⟩
      obtain ⟨t, ht⟩ := headB_iff.1 h1
      have h2 := ex ht
      refine ⟨by rw [h2]; exact ht, fun e => ?_⟩
      rw [h2] at e
      rw [e, List.append_nil] at ht
      have := congrArg List.length ht
      rw [bs_len, bs_len] at this; omega
    · intro h
      exact ⟨headB_iff.2 ⟨_, h.1⟩, bs_inj (ex h.1).symm⟩
  by_cases h : y.size < x.size
  · rw [if_pos h]
    rw [show ((x.extract y.size x.size, headB x y).2 = true ∧ s = (x.extract y.size x.size, headB x y).1) ↔ (headB x y = true ∧ s = x.extract y.size x.size) from Iff.rfl, key h]
    exact ⟨.inl, fun e => e.elim id fun e => by have := sz e; omega⟩
  · rw [if_neg h]
    by_cases h2 : x.size < y.size
    · rw [decide_eq_true h2, Bool.true_and]
      rw [show ((y.extract x.size y.size, headB y x).2 = true ∧ s = (y.extract x.size y.size, headB y x).1) ↔ (headB y x = true ∧ s = y.extract x.size y.size) from Iff.rfl, key h2]
      exact ⟨.inr, fun e => e.elim (fun e => by have := sz e; omega) id⟩
    · rw [decide_eq_false h2, Bool.false_and]
      constructor
      · rintro ⟨h3, _⟩; cases h3
      · rintro (e | e)
        · have := sz e; omega
        · have := sz e; omega
theorem leftP_ne {x y : ByteArray} (h : (leftP x y).2 = true) : bs (leftP x y).1 ≠ [] := by
  rcases leftP_iff.1 ⟨h, rfl⟩ with h | h
  · exact h.2
  · exact h.2
/-- One step of the reference's searches. -/
def stepL (o : List ByteArray) (x y : ByteArray) : List ByteArray := addO o (leftP x y).1 (leftP x y).2
theorem mem_stepL {o : List ByteArray} {x y s : ByteArray} : s ∈ stepL o x y ↔ s ∈ o ∨ Cut x y s ∨ Cut y x s := by
  unfold stepL
  rw [mem_addO, ← leftP_iff]
  constructor
  · rintro (h | ⟨h1, _, h3⟩)
    · exact .inl h
    · exact .inr ⟨h1, h3⟩
  · rintro (h | ⟨h1, h2⟩)
    · exact .inl h
    · exact .inr ⟨h1, leftP_ne h1, h2⟩
theorem left_eq {x y : ByteArray} (hx : x.size ≤ 140737488351232) (hy : y.size ≤ 140737488351232) : wigeonref05_leftover.f x y = some ((leftP x y).1, (leftP x y).2) := by unfold wigeonref05_leftover.f; rw [if_pos ⟨by omega, by omega⟩]
theorem step_bind {o : List ByteArray} {x y : ByteArray} (hx : x.size ≤ 140737488351232) (hy : y.size ≤ 140737488351232) (ho : o.length < 1000000) {g : Nat → List ByteArray → Option (List ByteArray)} {r : List ByteArray} (h : Ev (fun k => g k (stepL o x y)) r) :
    Ev (fun k => (wigeonref05_leftover.f x y).bind fun bt => if bt.2 = true then (wigeonref05_has.f k o bt.1).bind fun t => if t = true then g k o else (if o.length < 8796093022208 then g k (o ++ [bt.1]) else none) else g k o) r := by
  refine Ev.bindc (left_eq hx hy) ?_
  by_cases h1 : (leftP x y).2 = true
  · refine Ev.ifp h1 (Ev.bind (has_ev o _ (by unfold bigC; omega)) ?_)
    by_cases h2 : Go.Lib.containsS o (leftP x y).1 = true
    · refine Ev.ifp h2 ?_
      rwa [show stepL o x y = o from if_neg (fun e => (addB_iff.1 e).2.2 (inS_iff.1 h2))] at h
    · refine Ev.ifn h2 (Ev.ifp (by omega) ?_)
      rwa [show stepL o x y = o ++ [(leftP x y).1] from if_pos (addB_iff.2 ⟨h1, leftP_ne h1, fun e => h2 (inS_iff.2 e)⟩)] at h
  · refine Ev.ifn h1 ?_
    rwa [show stepL o x y = o from if_neg (fun e => h1 (addB_iff.1 e).1)] at h
/-- Rows of the reference's searches. -/
def rowL (C : List ByteArray) (x : ByteArray) : Nat → List ByteArray → List ByteArray
  | 0, o => o
  | j + 1, o => stepL (rowL C x j o) x (gt C j)
theorem mem_rowL {C : List ByteArray} {x s : ByteArray} {o : List ByteArray} : ∀ {j}, s ∈ rowL C x j o ↔ s ∈ o ∨ ∃ i, i < j ∧ (Cut x (gt C i) s ∨ Cut (gt C i) x s)
  | 0 => ⟨.inl, fun h => h.elim id fun ⟨i, h, _⟩ => by omega⟩
  | j + 1 => by
    show s ∈ stepL (rowL C x j o) x (gt C j) ↔ _
    rw [mem_stepL, mem_rowL]
    constructor
    · rintro ((h | ⟨i, hi, h⟩) | h)
      · exact .inl h
      · exact .inr ⟨i, by omega, h⟩
      · exact .inr ⟨j, by omega, h⟩
    · rintro (h | ⟨i, hi, h⟩)
      · exact .inl (.inl h)
      · by_cases e : i = j
        · subst e; exact .inr h
        · exact .inl (.inr ⟨i, by omega, h⟩)
theorem rowL_nodup {C : List ByteArray} {x : ByteArray} {o : List ByteArray} (h : o.Nodup) : ∀ j, (rowL C x j o).Nodup
  | 0 => h
  | j + 1 => addO_nodup (rowL_nodup h j)
theorem rowL_ge (C : List ByteArray) (x : ByteArray) (o : List ByteArray) : ∀ j, o.length ≤ (rowL C x j o).length
  | 0 => Nat.le_refl _
  | j + 1 => Nat.le_trans (rowL_ge C x o j) (addO_ge _ _ _)
theorem rowL_le (C : List ByteArray) (x : ByteArray) (o : List ByteArray) : ∀ j, (rowL C x j o).length ≤ o.length + j
  | 0 => Nat.le_refl _
  | j + 1 => by have := rowL_le C x o j; have := addO_le (rowL C x j o) (leftP x (gt C j)).1 (leftP x (gt C j)).2; show (addO _ _ _).length ≤ _; omega
theorem rowL_get (C : List ByteArray) (x : ByteArray) (o : List ByteArray) (i : Nat) (h : i < o.length) : ∀ j, gt (rowL C x j o) i = gt o i
  | 0 => rfl
  | j + 1 => (addO_get _ _ _ i (Nat.lt_of_lt_of_le h (rowL_ge C x o j))).trans (rowL_get C x o i h j)
def rbase (C : List ByteArray) : Nat → List ByteArray
  | 0 => []
  | i + 1 => rowL C (gt C i) i (rbase C i)
theorem rbase_le (C : List ByteArray) (hC : C.length ≤ 12) : ∀ i, i ≤ C.length → (rbase C i).length ≤ 12 * i
  | 0, _ => Nat.le_refl _
  | i + 1, h => by have := rbase_le C hC i (by omega); have := rowL_le C (gt C i) (rbase C i) i; show (rowL _ _ _ _).length ≤ _; omega
theorem mem_rbase {C : List ByteArray} {s : ByteArray} : ∀ {k}, s ∈ rbase C k ↔ ∃ i, i < k ∧ ∃ j, j < i ∧ (Cut (gt C i) (gt C j) s ∨ Cut (gt C j) (gt C i) s)
  | 0 => ⟨fun h => by simp [rbase] at h, fun ⟨i, h, _⟩ => by omega⟩
  | k + 1 => by
    show s ∈ rowL C (gt C k) k (rbase C k) ↔ _
    rw [mem_rowL, mem_rbase]
    constructor
    · rintro (⟨i, hi, h⟩ | ⟨j, hj, h⟩)
      · exact ⟨i, by omega, h⟩
      · exact ⟨k, by omega, j, hj, h⟩
    · rintro ⟨i, hi, j, hj, h⟩
      by_cases e : i = k
      · subst e; exact .inr ⟨j, hj, h⟩
      · exact .inl ⟨i, by omega, j, hj, h⟩
theorem rbase_nodup {C : List ByteArray} : ∀ k, (rbase C k).Nodup
  | 0 => List.nodup_nil
  | k + 1 => rowL_nodup (rbase_nodup k) _
theorem rbase_found {C : List ByteArray} : Found C (rbase C C.length) 0 where
  nodup := rbase_nodup _
  left := fun s hs => by
    obtain ⟨i, hi, j, hj, h⟩ := mem_rbase.1 hs
    rcases h with h | h
    · exact LeftS.base (gt_mem (show j < C.length by omega)) (gt_mem hi) h
    · exact LeftS.base (gt_mem hi) (gt_mem (show j < C.length by omega)) h
  base := fun x hx y hy s h => by
    obtain ⟨i, hi, rfl⟩ := mem_gt hx
    obtain ⟨j, hj, rfl⟩ := mem_gt hy
    by_cases e : i = j
    · subst e
      exfalso
      have h1 := congrArg List.length h.1
      rw [List.length_append] at h1
      have : 0 < (bs s).length := List.length_pos_iff.2 h.2
      omega
    · by_cases h3 : i < j
      · exact mem_rbase.2 ⟨j, hj, i, h3, .inl h⟩
      · exact mem_rbase.2 ⟨i, hi, j, by omega, .inr h⟩
  done := fun j hj => by omega
  le := Nat.zero_le _
theorem rl3 {C : List ByteArray} (v : Valid C) (o : List ByteArray) (i : Nat) (hi : i < o.length) (ho : o.length ≤ 156) (ho2 : ∀ s ∈ o, s.size ≤ 140737488351232) (r : List ByteArray) (hr : Ev (fun k => wigeonref05_ends.l2 k C (rowL C (gt o i) C.length o) ((i + 1 : Nat) : Int)) r) (d : Nat) : ∀ j, j + d = C.length → Ev (fun k => wigeonref05_ends.l3 k C (rowL C (gt o i) j o) (i : Int) (j : Int)) r := by
  have hC := v.few
  induction d with
  | zero =>
    intro j hj
    obtain rfl : j = C.length := by omega
    refine Ev.step (fun k => by rw [wigeonref05_ends.l3]) (Ev.ifn (by omega) ?_)
    rw [w64s (by omega)]
    exact hr
  | succ d ih =>
    intro j hj
    have h1 := rowL_ge C (gt o i) o j
    have h2 := rowL_le C (gt o i) o j
    have h3 := rowL_get C (gt o i) o i hi j
    refine Ev.step (fun k => by rw [wigeonref05_ends.l3, rdOf_gt, rdOf_gt, h3, w64s (show j < 1000000000000000000 by omega)]) (Ev.ifp (by omega) (Ev.ifp (by omega) (Ev.ifp (by omega) (Ev.ifp (by omega) ?_))))
    exact step_bind (o := rowL C (gt o i) j o) (x := gt o i) (y := gt C j) (g := fun k o' => wigeonref05_ends.l3 k C o' (i : Int) ((j + 1 : Nat) : Int)) (ho2 _ (gt_mem hi)) (by have := v.size12 _ (gt_mem (show j < C.length by omega)); omega) (by omega) (ih (j + 1) (by omega))
theorem left_size {C : List ByteArray} (v : Valid C) {s : ByteArray} (h : LeftS C s) : s.size ≤ 12 := by
  have h1 := left_tail h
  unfold tails at h1
  rw [List.mem_flatMap] at h1
  obtain ⟨x, hx, h2⟩ := h1
  rw [List.mem_map] at h2
  obtain ⟨i, _, rfl⟩ := h2
  have := v.size12 x hx
  rw [← bs_len, bs_mk, List.length_drop, bs_len]
  omega
theorem rl2 {C : List ByteArray} (v : Valid C) (d : Nat) : ∀ (o : List ByteArray) (i : Nat), Found C o i → 157 ≤ d + i → ∃ E, Ev (fun k => wigeonref05_ends.l2 k C o (i : Int)) E ∧ Found C E E.length := by
  have hC := v.few
  induction d with
  | zero => intro o i h hd; have := h.len v; have := h.le; omega
  | succ d ih =>
    intro o i h hd
    have hl := h.len v
    by_cases hi : i < o.length
    · have hF : Found C (rowL C (gt o i) C.length o) (i + 1) := h.next hi (rowL_nodup h.nodup _) (fun s => by
        rw [mem_rowL]
        constructor
        · rintro (h1 | ⟨j, hj, h1⟩)
          · exact .inl h1
          · exact .inr ⟨gt C j, gt_mem hj, h1⟩
        · rintro (h1 | ⟨x, hx, h1⟩)
          · exact .inl h1
          · obtain ⟨j, hj, rfl⟩ := mem_gt hx
            exact .inr ⟨j, hj, h1⟩) (fun j hj => rowL_get C (gt o i) o j hj _) (rowL_ge _ _ _ _)
      obtain ⟨E, h1, h2⟩ := ih _ (i + 1) hF (by omega)
      refine ⟨E, Ev.step (fun k => by rw [wigeonref05_ends.l2]) (Ev.ifp (by omega) ?_), h2⟩
      exact rl3 v o i hi (by omega) (fun s hs => by have := left_size v (h.left s hs); omega) E h1 C.length 0 (by omega)
    · have := h.le
      obtain rfl : i = o.length := by omega
      exact ⟨o, Ev.step (fun k => by rw [wigeonref05_ends.l2]) (Ev.ifn (by omega) (Ev.now _)), h⟩
theorem rl1 {C : List ByteArray} (v : Valid C) (i : Nat) (hi : i < C.length) (o : List ByteArray) (ho : o.length ≤ 156) (r : List ByteArray) (hr : Ev (fun k => wigeonref05_ends.l0 k C (rowL C (gt C i) i o) ((i + 1 : Nat) : Int)) r) (d : Nat) : ∀ j, j + d = i → Ev (fun k => wigeonref05_ends.l1 k C (rowL C (gt C i) j o) (i : Int) (j : Int)) r := by
  have hC := v.few
  induction d with
  | zero =>
    intro j hj
    obtain rfl : j = i := by omega
    refine Ev.step (fun k => by rw [wigeonref05_ends.l1]) (Ev.ifn (by omega) ?_)
    rw [w64s (by omega)]
    exact hr
  | succ d ih =>
    intro j hj
    have h2 := rowL_le C (gt C i) o j
    refine Ev.step (fun k => by rw [wigeonref05_ends.l1, rdOf_gt, rdOf_gt, w64s (show j < 1000000000000000000 by omega)]) (Ev.ifp (by omega) (Ev.ifp (by omega) (Ev.ifp (by omega) (Ev.ifp (by omega) (Ev.ifp (by omega) ?_)))))
    exact step_bind (o := rowL C (gt C i) j o) (x := gt C i) (y := gt C j) (g := fun k o' => wigeonref05_ends.l1 k C o' (i : Int) ((j + 1 : Nat) : Int)) (by have := v.size12 _ (gt_mem hi); omega) (by have := v.size12 _ (gt_mem (show j < C.length by omega)); omega) (by omega) (ih (j + 1) (by omega))
theorem rl0 {C : List ByteArray} (v : Valid C) (r : List ByteArray) (hr : Ev (fun k => wigeonref05_ends.l2 k C (rbase C C.length) 0) r) (d : Nat) : ∀ i, i + d = C.length → Ev (fun k => wigeonref05_ends.l0 k C (rbase C i) (i : Int)) r := by
  have hC := v.few
  induction d with
  | zero =>
    intro i hi
    obtain rfl : i = C.length := by omega
    exact Ev.step (fun k => by rw [wigeonref05_ends.l0]) (Ev.ifn (by omega) hr)
  | succ d ih =>
    intro i hi
    refine Ev.step (fun k => by rw [wigeonref05_ends.l0]) (Ev.ifp (by omega) ?_)
    exact rl1 v i (by omega) (rbase C i) (by have := rbase_le C hC i (by omega); omega) r (ih (i + 1) (by omega)) i 0 (by omega)
/-- The reference's ends. -/
theorem rends_ev {C : List ByteArray} (v : Valid C) : ∃ E, Ev (fun k => wigeonref05_ends.f k C) E ∧ E.Nodup ∧ (∀ s, s ∈ E ↔ LeftS C s) ∧ E.length ≤ 156 := by
  obtain ⟨E, h1, h2⟩ := rl2 v 157 _ 0 rbase_found (by omega)
  exact ⟨E, rl0 v E h1 C.length 0 (by omega), h2.nodup, fun s => h2.all, h2.len v⟩
/-- A code is safe if no signal can be left over. -/
def Safe (C : List ByteArray) : Prop := ¬ ∃ s, s ∈ C ∧ LeftS C s
noncomputable def safeB (C : List ByteArray) : Bool := @decide (Safe C) (Classical.propDecidable _)
theorem safeB_iff {C : List ByteArray} : safeB C = true ↔ Safe C := by unfold safeB; exact @decide_eq_true_iff _ (Classical.propDecidable _)
noncomputable def safeP (C : List ByteArray) : Bool × Int := if valP C = 0 then (safeB C, 0) else (false, valP C)
theorem rsafe_at {C E : List ByteArray} (v : Valid C) (hE : E.length ≤ 156) (hm : ∀ s, s ∈ E ↔ LeftS C s) (d : Nat) : ∀ i, i + d = C.length → Ev (fun k => wigeonref05_IsSafe.l0 k C E (i : Int)) (!((C.drop i).any (Go.Lib.containsS E)), 0) := by
  have hC := v.few
  induction d with
  | zero =>
    intro i hi
    rw [List.drop_eq_nil_of_le (by omega)]
    exact Ev.step (fun k => by rw [wigeonref05_IsSafe.l0]) (Ev.ifn (by omega) (Ev.val (by rfl)))
  | succ d ih =>
    intro i hi
    rw [drop_gt (show i < C.length by omega), List.any_cons]
    refine Ev.step (fun k => by rw [wigeonref05_IsSafe.l0, rdOf_gt]) (Ev.ifp (by omega) (Ev.ifp (by omega) (Ev.bind (has_ev E _ (by unfold bigC; omega)) ?_)))
    by_cases h : Go.Lib.containsS E (gt C i) = true
    · exact Ev.ifp h (Ev.val (by rw [h]; rfl))
    · refine Ev.ifn h ?_
      rw [Bool.eq_false_iff.2 h, Bool.false_or, w64s (by omega)]
      exact ih (i + 1) (by omega)
theorem rsafe_ev {C : List ByteArray} (hS : Sized C) : Ev (fun k => wigeonref05_IsSafe.f k C) (safeP C) := by
  unfold wigeonref05_IsSafe.f safeP
  refine Ev.bind (rval_ev C hS) ?_
  by_cases h : valP C = 0
  · rw [if_pos (show valP C = 0 from h)]
    have v := valP_zero.1 h
    obtain ⟨E, h1, n1, m1, l1⟩ := rends_ev v
    refine Ev.ifp h (Ev.bind h1 ?_)
    have h0 : Ev (fun k => wigeonref05_IsSafe.l0 k C E 0) (!((C.drop 0).any (Go.Lib.containsS E)), 0) := rsafe_at v l1 m1 C.length 0 (by omega)
    rw [List.drop_zero] at h0
    rwa [show safeB C = !(C.any (Go.Lib.containsS E)) by
      rw [Bool.eq_iff_iff, safeB_iff, Bool.not_eq_true', Bool.eq_false_iff]
      unfold Safe
      refine not_congr ?_
      rw [List.any_eq_true]
      exact ⟨fun ⟨s, h1, h2⟩ => ⟨s, h1, inS_iff.2 ((m1 s).2 h2)⟩, fun ⟨s, h1, h2⟩ => ⟨s, h1, (m1 s).1 (inS_iff.1 h2)⟩⟩]
  · rw [if_neg (show ¬ valP C = 0 from h)]
    exact Ev.ifn h (Ev.now _)
theorem wds_ne {C : List ByteArray} (v : Valid C) : ∀ x ∈ wds C, x ≠ [] := fun x hx e => by
  obtain ⟨s, hs, rfl⟩ := mem_wds.1 hx
  have h1 := v.size1 s hs
  have := bs_len s
  rw [e] at this
  simp at this; omega
theorem safe_iff {C : List ByteArray} (v : Valid C) : Safe C ↔ ¬ Amb (wds C) := by
  unfold Safe
  rw [amb_iff_left (wds_ne v)]
  refine not_congr ⟨fun ⟨s, h1, h2⟩ => ⟨bs s, mem_wds.2 ⟨s, h1, rfl⟩, h2⟩, fun ⟨x, h1, h2⟩ => ?_⟩
  obtain ⟨s, hs, rfl⟩ := mem_wds.1 h1
  exact ⟨s, hs, h2⟩

/-! Messages, and how they sound. -/

def inC (C : List ByteArray) (n : Int) : Bool := decide (0 ≤ n) && decide (n < (C.length : Int))
def msgP (C : List ByteArray) (m : List Int) : Int := if 400 < m.length then 3 else if m.all (inC C) = true then 0 else 4
theorem inC_iff {C : List ByteArray} {n : Int} : inC C n = true ↔ 0 ≤ n ∧ n < (C.length : Int) := by unfold inC; rw [Bool.and_eq_true, decide_eq_true_eq, decide_eq_true_eq]
theorem rdL4_nat (L : List (List Int)) (i : Nat) : rd_L4 L (i : Int) = L.getD i [] := by unfold rd_L4; rw [Int.toNat_natCast]
theorem rmsg_in (C : List ByteArray) (L : List (List Int)) (t : Nat) (ht : t < L.length) (hL : L.length < bigC) (hm : (L.getD t []).length < bigC) (r0 : Int) (hr : Ev (fun k => wigeonref05_messageOK.l1 k C L ((t + 1 : Nat) : Int)) r0) (d : Nat) : ∀ i, i + d = (L.getD t []).length → Ev (fun k => wigeonref05_messageOK.l2 k C L (t : Int) (i : Int)) (if ((L.getD t []).drop i).all (inC C) = true then r0 else 4) := by
  unfold bigC at hm hL
  induction d with
  | zero =>
    intro i hi
    rw [List.drop_eq_nil_of_le (by omega), List.all_nil, if_pos rfl]
    refine Ev.step (fun k => by rw [wigeonref05_messageOK.l2, rdL4_nat]) (Ev.ifp (by omega) (Ev.ifp (by omega) (Ev.ifn (by omega) ?_)))
    rw [w64s (by omega)]
    exact hr
  | succ d ih =>
    intro i hi
    rw [drop_rd (show i < (L.getD t []).length by omega), List.all_cons]
    refine Ev.step (fun k => by rw [wigeonref05_messageOK.l2, rdL4_nat]) (Ev.ifp (by omega) (Ev.ifp (by omega) (Ev.ifp (by omega) (Ev.ifp (by omega) ?_))))
    by_cases h : inC C (rd (L.getD t []) (i : Int)) = true
    · obtain ⟨h0, h1⟩ := inC_iff.1 h
      rw [h, Bool.true_and]
      refine Ev.ifn (by omega) (Ev.ifn (by omega) ?_)
      rw [w64s (by omega)]
      exact ih (i + 1) (by omega)
    · have h' : ¬ (0 ≤ rd (L.getD t []) (i : Int) ∧ rd (L.getD t []) (i : Int) < (C.length : Int)) := fun e => h (inC_iff.2 e)
      rw [Bool.eq_false_iff.2 h, Bool.false_and, if_neg (by decide)]
      by_cases h0 : rd (L.getD t []) (i : Int) < 0
      · exact Ev.ifp h0 (Ev.now _)
      · exact Ev.ifn h0 (Ev.ifp (by omega) (Ev.now _))
def msg2P (C : List ByteArray) (a b : List Int) : Int := if 400 < a.length then 3 else if 400 < b.length then 3 else if a.all (inC C) = true then (if b.all (inC C) = true then 0 else 4) else 4
theorem rmsg2_ev (C : List ByteArray) (a b : List Int) (ha : a.length < bigC) (hb : b.length < bigC) : Ev (fun k => wigeonref05_messageOK.f k C [a, b]) (msg2P C a b) := by
  unfold wigeonref05_messageOK.f msg2P
  have h1 : Ev (fun k => wigeonref05_messageOK.l1 k C [a, b] ((1 + 1 : Nat) : Int)) 0 := Ev.step (fun k => by rw [wigeonref05_messageOK.l1]) (Ev.ifn (by simp) (Ev.now _))
  have h2 : Ev (fun k => wigeonref05_messageOK.l2 k C [a, b] 1 0) (if ((b.drop 0).all (inC C)) = true then 0 else 4) := rmsg_in C [a, b] 1 (by simp) (by unfold bigC; simp) hb 0 h1 b.length 0 (by simp)
  rw [List.drop_zero] at h2
  have h3 : Ev (fun k => wigeonref05_messageOK.l1 k C [a, b] 1) (if b.all (inC C) = true then 0 else 4) := Ev.step (fun k => by rw [wigeonref05_messageOK.l1]) (Ev.ifp (by simp) h2)
  have h3' : Ev (fun k => wigeonref05_messageOK.l1 k C [a, b] ((0 + 1 : Nat) : Int)) (if b.all (inC C) = true then 0 else 4) := h3
  have h4 : Ev (fun k => wigeonref05_messageOK.l2 k C [a, b] 0 0) (if ((a.drop 0).all (inC C)) = true then (if b.all (inC C) = true then 0 else 4) else 4) := rmsg_in C [a, b] 0 (by simp) (by unfold bigC; simp) ha _ h3' a.length 0 (by simp)
  rw [List.drop_zero] at h4
  have h5 : Ev (fun k => wigeonref05_messageOK.l1 k C [a, b] 0) (if a.all (inC C) = true then (if b.all (inC C) = true then 0 else 4) else 4) := Ev.step (fun k => by rw [wigeonref05_messageOK.l1]) (Ev.ifp (by simp) h4)
  have e0 : rd_L4 [a, b] 0 = a := rfl
  have e1 : rd_L4 [a, b] 1 = b := rfl
  have w0 : wrap64 ((0 : Int) + 1) = 1 := by unfold wrap64; omega
  have w1 : wrap64 ((1 : Int) + 1) = 2 := by unfold wrap64; omega
  by_cases h : 400 < a.length
  · rw [if_pos h]
    exact Ev.step (fun k => by rw [wigeonref05_messageOK.l0, e0]) (Ev.ifp (by simp) (Ev.ifp (by decide) (Ev.ifp (by omega) (Ev.now _))))
  · rw [if_neg h]
    refine Ev.step (fun k => by rw [wigeonref05_messageOK.l0, e0]) (Ev.ifp (by simp) (Ev.ifp (by decide) (Ev.ifn (by omega) ?_)))
    rw [w0]
    by_cases hb2 : 400 < b.length
    · rw [if_pos hb2]
      exact Ev.step (fun k => by rw [wigeonref05_messageOK.l0, e1]) (Ev.ifp (by simp) (Ev.ifp (by decide) (Ev.ifp (by omega) (Ev.now _))))
    · rw [if_neg hb2]
      refine Ev.step (fun k => by rw [wigeonref05_messageOK.l0, e1]) (Ev.ifp (by simp) (Ev.ifp (by decide) (Ev.ifn (by omega) ?_)))
      rw [w1]
      exact Ev.step (fun k => by rw [wigeonref05_messageOK.l0]) (Ev.ifn (by simp) h5)
theorem app_bytes (a : List UInt8) (s : ByteArray) : (⟨a.toArray⟩ : ByteArray) ++ s = ⟨(a ++ s.data.toList).toArray⟩ := by
  have h : ((⟨a.toArray⟩ : ByteArray) ++ s).data = a.toArray ++ s.data := ByteArray.data_append
  cases hx : ((⟨a.toArray⟩ : ByteArray) ++ s) with
  | mk d =>
    rw [hx] at h
    congr 1
    have h2 : d = a.toArray ++ s.data := h
    rw [h2]
    apply Array.toList_inj.1
    simp
theorem rsound_at (C : List ByteArray) (m : List Int) (hC : C.length < bigC) (hm : m.length ≤ 500) (hs : ∀ n : Int, (rdS C n).size ≤ 100) (hin : ∀ i, i < m.length → 0 ≤ rd m (i : Int) ∧ rd m (i : Int) < (C.length : Int)) (d : Nat) : ∀ i, i + d = m.length → (sndK C m i).length ≤ 100 * i → Ev (fun k => wigeonref05_sound.l0 k C m ⟨(sndK C m i).toArray⟩ (i : Int)) (soundB C m) := by
  induction d with
  | zero =>
    intro i hi _
    obtain rfl : i = m.length := by omega
    exact Ev.step (fun k => by rw [wigeonref05_sound.l0]) (Ev.ifn (by omega) (Ev.val (by rfl)))
  | succ d ih =>
    intro i hi hl
    obtain ⟨h0, h1⟩ := hin i (by omega)
    have hz := hs (rd m (i : Int))
    have hlen : (rdS C (rd m (i : Int))).data.toList.length = (rdS C (rd m (i : Int))).size := Array.length_toList
    have hbz : (⟨(sndK C m i).toArray⟩ : ByteArray).size = (sndK C m i).length := by simp [ByteArray.size]
    have hnext : (⟨(sndK C m i).toArray⟩ : ByteArray) ++ rdOf ByteArray.empty C (rd m (i : Int)) = ⟨(sndK C m (i + 1)).toArray⟩ := app_bytes _ _
    refine Ev.step (fun k => by rw [wigeonref05_sound.l0, hnext]) (Ev.ifp (by omega) (Ev.ifp (by omega) (Ev.ifp h0 (Ev.ifp h1 (Ev.ifp ?_ ?_)))))
    · rw [hbz]
      show _ + (rdS C (rd m (i : Int))).size ≤ _
      omega
    · rw [w64s (by omega)]
      refine ih (i + 1) (by omega) ?_
      show (sndK C m i ++ _).length ≤ _
      rw [List.length_append, hlen]
      omega
theorem rsound_ev (C : List ByteArray) (m : List Int) (hC : C.length < bigC) (hm : m.length ≤ 500) (hs : ∀ n : Int, (rdS C n).size ≤ 100) (hin : ∀ i, i < m.length → 0 ≤ rd m (i : Int) ∧ rd m (i : Int) < (C.length : Int)) : Ev (fun k => wigeonref05_sound.f k C m) (soundB C m) :=
  rsound_at C m hC hm hs hin m.length 0 (by omega) (Nat.le_refl _)
theorem msgP_zero {C : List ByteArray} {m : List Int} (h : msgP C m = 0) : m.length ≤ 400 ∧ m.all (inC C) = true := by
  unfold msgP at h
  split at h
  · omega
  · split at h
    · rename_i h1 h2; exact ⟨by omega, h2⟩
    · omega
theorem all_in {C : List ByteArray} {m : List Int} (h : m.all (inC C) = true) : ∀ i, i < m.length → 0 ≤ rd m (i : Int) ∧ rd m (i : Int) < (C.length : Int) := fun i hi => by
  rw [List.all_eq_true] at h
  have := h (rd m (i : Int)) (by rw [rd_nat, List.getD_eq_getElem?_getD, List.getElem?_eq_getElem hi]; exact List.getElem_mem hi)
  exact inC_iff.1 this
theorem Valid.rdS {C : List ByteArray} (v : Valid C) (n : Int) : (rdS C n).size ≤ 12 := by
  unfold Q.rdS
  by_cases hn : n.toNat < C.length
  · exact v.size12 _ (getD_mem hn)
  · rw [List.getD_eq_getElem?_getD, List.getElem?_eq_none (by omega)]
    decide
def mws (C : List ByteArray) (m : List Int) : List (List UInt8) := m.map fun n => bs (rdS C n)
theorem sndK_take (C : List ByteArray) (m : List Int) : ∀ k, k ≤ m.length → sndK C m k = (mws C (m.take k)).flatten
  | 0, _ => by simp [sndK, mws]
  | k + 1, h => by
    show sndK C m k ++ _ = _
    rw [sndK_take C m k (by omega)]
    have e : m.take (k + 1) = m.take k ++ [rd m (k : Int)] := by
      rw [List.take_succ_eq_append_getElem (by omega), rd_nat, List.getD_eq_getElem?_getD, List.getElem?_eq_getElem (by omega)]; rfl
    unfold mws
    rw [e, List.map_append, List.flatten_append]
    simp [bs]
theorem sound_words (C : List ByteArray) (m : List Int) : bs (soundB C m) = (mws C m).flatten := by
  unfold soundB
  rw [bs_mk, sndK_take C m m.length (Nat.le_refl _), List.take_length]
theorem rdS_in {C : List ByteArray} {n : Int} (h0 : 0 ≤ n) (h1 : n < (C.length : Int)) : ∃ h : n.toNat < C.length, rdS C n = C[n.toNat] := by
  have h : n.toNat < C.length := by omega
  refine ⟨h, ?_⟩
  unfold Q.rdS
  rw [List.getD_eq_getElem?_getD, List.getElem?_eq_getElem h]; rfl

/-! Messages as words: two messages that are not the same are not the same words. -/

theorem msg_words {C : List ByteArray} {m : List Int} (h : m.all (inC C) = true) : Msg (wds C) (mws C m) := fun x hx => by
  obtain ⟨n, hn, rfl⟩ := List.mem_map.1 hx
  obtain ⟨h0, h1⟩ := inC_iff.1 (List.all_eq_true.1 h n hn)
  obtain ⟨hl, e⟩ := rdS_in h0 h1
  exact mem_wds.2 ⟨_, by rw [e]; exact List.getElem_mem hl, rfl⟩
theorem mws_inj {C : List ByteArray} (hn : C.Nodup) : ∀ {a b : List Int}, a.all (inC C) = true → b.all (inC C) = true → mws C a = mws C b → a = b
  | [], [], _, _, _ => rfl
  | [], y :: b, _, _, h => by simp [mws] at h
  | x :: a, [], _, _, h => by simp [mws] at h
  | x :: a, y :: b, ha, hb, h => by
    rw [List.all_cons, Bool.and_eq_true] at ha hb
    unfold mws at h
    rw [List.map_cons, List.map_cons] at h
    obtain ⟨h1, h2⟩ := List.cons.inj h
    have ih := mws_inj hn ha.2 hb.2 h2
    obtain ⟨x0, x1⟩ := inC_iff.1 ha.1
    obtain ⟨y0, y1⟩ := inC_iff.1 hb.1
    obtain ⟨lx, ex⟩ := rdS_in x0 x1
    obtain ⟨ly, ey⟩ := rdS_in y0 y1
    have h3 := bs_inj h1
    rw [ex, ey] at h3
    have := (List.getElem_inj hn).1 h3
    rw [ih, show x = y by omega]
def chkP (C : List ByteArray) (a b : List Int) : Int := if valP C ≠ 0 then valP C else if msg2P C a b ≠ 0 then msg2P C a b else if a = b then 7 else if soundB C a = soundB C b then 0 else 7
theorem msg2_cases (C : List ByteArray) (a b : List Int) : (400 < a.length ∧ msg2P C a b = 3) ∨ (a.length ≤ 400 ∧ 400 < b.length ∧ msg2P C a b = 3) ∨ (a.length ≤ 400 ∧ b.length ≤ 400 ∧ ((msgP C a ≠ 0 ∧ msg2P C a b = msgP C a) ∨ (msgP C a = 0 ∧ msg2P C a b = msgP C b))) := by
  unfold msg2P msgP
  by_cases h1 : 400 < a.length
  · exact .inl ⟨h1, by rw [if_pos h1]⟩
  · by_cases h2 : 400 < b.length
    · exact .inr (.inl ⟨by omega, h2, by rw [if_neg h1, if_pos h2]⟩)
    · refine .inr (.inr ⟨by omega, by omega, ?_⟩)
      rw [if_neg h1, if_neg h2, if_neg h1, if_neg h2]
      by_cases h3 : a.all (inC C) = true
      · rw [if_pos h3, if_pos h3]; exact .inr ⟨rfl, rfl⟩
      · rw [if_neg h3, if_neg h3]; exact .inl ⟨by decide, rfl⟩
theorem rchk_ev (C : List ByteArray) (a b : List Int) (hS : Sized C) (ha : a.length < bigC) (hb : b.length < bigC) : Ev (fun k => wigeonref05_CheckAlike.f k C a b) (chkP C a b) := by
  unfold wigeonref05_CheckAlike.f chkP
  refine Ev.bind (rval_ev C hS) ?_
  by_cases hv : valP C = 0
  · rw [if_neg (show ¬ (valP C ≠ 0) by simpa using hv)]
    have v := valP_zero.1 hv
    refine Ev.ifn (by simpa using hv) (Ev.bind (rmsg2_ev C a b ha hb) ?_)
    by_cases hm : msg2P C a b = 0
    · rw [if_neg (show ¬ (msg2P C a b ≠ 0) by simpa using hm)]
      refine Ev.ifn (by simpa using hm) (Ev.bind (sameI_ev a b ha) ?_)
      by_cases h7 : a = b
      · rw [if_pos (show a = b from h7)]
        exact Ev.ifp (decide_eq_true h7) (Ev.now _)
      · rw [if_neg (show ¬ a = b from h7)]
        have hz : msgP C a = 0 ∧ msgP C b = 0 := by
          rcases msg2_cases C a b with ⟨h1, h2⟩ | ⟨h1, h2, h3⟩ | ⟨h1, h2, ⟨h4, h5⟩ | ⟨h4, h5⟩⟩
          · omega
          · omega
          · rw [h5] at hm; exact absurd hm h4
          · rw [h5] at hm; exact ⟨h4, hm⟩
        obtain ⟨a1, a2⟩ := msgP_zero hz.1
        obtain ⟨b1, b2⟩ := msgP_zero hz.2
        have hC := v.few
        refine Ev.ifn (by simpa using h7) (Ev.bind (rsound_ev C a (by unfold bigC; omega) (by omega) (fun n => by have := v.rdS n; omega) (all_in a2)) (Ev.bind (rsound_ev C b (by unfold bigC; omega) (by omega) (fun n => by have := v.rdS n; omega) (all_in b2)) ?_))
        by_cases h8 : soundB C a = soundB C b
        · rw [if_pos (show soundB C a = soundB C b from h8)]; exact Ev.ifp (str_eq.2 h8) (Ev.now _)
        · rw [if_neg (show ¬ soundB C a = soundB C b from h8)]; exact Ev.ifn (fun e => h8 (str_eq.1 e)) (Ev.now _)
    · rw [if_pos (show msg2P C a b ≠ 0 from hm)]; exact Ev.ifp hm (Ev.now _)
  · rw [if_pos (show valP C ≠ 0 from hv)]; exact Ev.ifp hv (Ev.now _)
theorem alike_unsafe {C : List ByteArray} {a b : List Int} (h : chkP C a b = 0) : safeP C = (false, 0) := by
  unfold chkP at h
  by_cases hv : valP C = 0
  · rw [if_neg (show ¬ (valP C ≠ 0) by simpa using hv)] at h
    have v := valP_zero.1 hv
    by_cases hm : msg2P C a b = 0
    · rw [if_neg (show ¬ (msg2P C a b ≠ 0) by simpa using hm)] at h
      have hz : msgP C a = 0 ∧ msgP C b = 0 := by
        rcases msg2_cases C a b with ⟨h1, h2⟩ | ⟨h1, h2, h3⟩ | ⟨h1, h2, ⟨h4, h5⟩ | ⟨h4, h5⟩⟩
        · omega
        · omega
        · rw [h5] at hm; exact absurd hm h4
        · rw [h5] at hm; exact ⟨h4, hm⟩
      obtain ⟨a1, a2⟩ := msgP_zero hz.1
      obtain ⟨b1, b2⟩ := msgP_zero hz.2
      by_cases h7 : a = b
      · rw [if_pos h7] at h; omega
      · rw [if_neg h7] at h
        by_cases h8 : soundB C a = soundB C b
        · unfold safeP
          rw [if_pos hv]
          congr 1
          rw [Bool.eq_false_iff]
          intro hs
          refine (safe_iff v).1 (safeB_iff.1 hs) ⟨_, _, msg_words a2, msg_words b2, fun e => h7 (mws_inj v.nodup a2 b2 e), ?_⟩
          rw [← sound_words, ← sound_words, h8]
        · rw [if_neg h8] at h; omega
    · rw [if_pos (show msg2P C a b ≠ 0 from hm)] at h; exact absurd h hm
  · rw [if_pos (show valP C ≠ 0 from hv)] at h; exact absurd h hv
def Huf.longP (P : List (Nat × Nat)) : Nat := (P.map fun p => p.2).sum

/-! Alike: the search over pairs of messages finds two that sound alike, or the code is safe. -/

def sndN (C : List ByteArray) (m : List Nat) : List UInt8 := (m.map fun n => bs (Q.sig C n)).flatten
theorem sndN_app (C : List ByteArray) (a b : List Nat) : sndN C (a ++ b) = sndN C a ++ sndN C b := by unfold sndN; rw [List.map_append, List.flatten_append]
theorem sndN_one (C : List ByteArray) (n : Nat) : sndN C [n] = bs (Q.sig C n) := by simp [sndN]
def totQ (q : PQ) : Nat := q.1.length + q.2.1.length
/-- Two messages of which the one sounds as the other and a rest. -/
structure POk (C : List ByteArray) (q : PQ) : Prop where
  a : ∀ n ∈ q.1, n < C.length
  b : ∀ n ∈ q.2.1, n < C.length
  ne : ∃ x y s t, q.1 = x :: s ∧ q.2.1 = y :: t ∧ x ≠ y
  snd : sndN C q.2.1 = sndN C q.1 ++ bs q.2.2
theorem all_snoc {C : List ByteArray} {l : List Nat} {n : Nat} (h : ∀ m ∈ l, m < C.length) (hn : n < C.length) : ∀ m ∈ l ++ [n], m < C.length := fun m hm => by
  rcases List.mem_append.1 hm with hm | hm
  · exact h m hm
  · rw [List.mem_singleton] at hm; subst hm; exact hn
theorem POk.swap {C : List ByteArray} {p : PQ} (h : POk C p) {n : Nat} (hn : n < C.length) {t : List UInt8} (e : bs (Q.sig C n) = bs p.2.2 ++ t) : POk C (p.2.1, p.1 ++ [n], restB (Q.sig C n) p.2.2) where
  a := h.b
  b := all_snoc h.a hn
  ne := by
    obtain ⟨x, y, s, t, e1, e2, hne⟩ := h.ne
    exact ⟨y, x, t, s ++ [n], e2, by show p.1 ++ [n] = _; rw [e1]; rfl, fun e => hne e.symm⟩
  snd := by
    show sndN C (p.1 ++ [n]) = sndN C p.2.1 ++ bs (restB (Q.sig C n) p.2.2)
    rw [sndN_app, sndN_one, restB_of e, h.snd, e, List.append_assoc]
theorem POk.on {C : List ByteArray} {p : PQ} (h : POk C p) {n : Nat} (hn : n < C.length) {t : List UInt8} (e : bs p.2.2 = bs (Q.sig C n) ++ t) : POk C (p.1 ++ [n], p.2.1, restB p.2.2 (Q.sig C n)) where
  a := all_snoc h.a hn
  b := h.b
  ne := by
    obtain ⟨x, y, s, t, e1, e2, hne⟩ := h.ne
    exact ⟨x, y, s ++ [n], t, by show p.1 ++ [n] = _; rw [e1]; rfl, e2, hne⟩
  snd := by
    show sndN C p.2.1 = sndN C (p.1 ++ [n]) ++ bs (restB p.2.2 (Q.sig C n))
    rw [sndN_app, sndN_one, restB_of e, h.snd, e, List.append_assoc]
theorem rests_add {qs : List PQ} {q : PQ} (h : bs q.2.2 ≠ []) : restsQ (addQ qs q) = addO (restsQ qs) q.2.2 true := by
  unfold addQ addO
  by_cases hc : Lib.containsS (restsQ qs) q.2.2 = true
  · rw [if_pos hc, if_neg (fun e => (addB_iff.1 e).2.2 (inS_iff.1 hc))]
  · rw [if_neg hc, if_pos (addB_iff.2 ⟨rfl, h, fun e => hc (inS_iff.2 e)⟩)]
    unfold restsQ
    rw [List.map_append]; rfl
theorem rests_cut {qs : List PQ} {q : PQ} {y x : ByteArray} (hq : q.2.2 = restB y x) (h : bs y ≠ bs x) : restsQ (if headB y x = true then addQ qs q else qs) = cutO (restsQ qs) y x := by
  unfold cutO
  by_cases hh : headB y x = true
  · obtain ⟨t, ht⟩ := headB_iff.1 hh
    rw [if_pos hh, hh, ← hq]
    refine rests_add ?_
    rw [hq, restB_of ht]
    rintro rfl
    exact h (by rw [ht, List.append_nil])
  · rw [if_neg hh]
    unfold addO
    rw [if_neg (fun e => hh (addB_iff.1 e).1)]
theorem addQ_ext (qs : List PQ) (q : PQ) : ∃ e, addQ qs q = qs ++ e ∧ ∀ z ∈ e, z = q := by
  unfold addQ
  split
  · exact ⟨[], by simp, by simp⟩
  · exact ⟨[q], rfl, by simp⟩
/-- What a signal adds. -/
theorem oneQ_step {C : List ByteArray} {p : PQ} (hp : POk C p) {n : Nat} (hn : n < C.length) (hne : bs (Q.sig C n) ≠ bs p.2.2) (qs : List PQ) :
    restsQ (oneQ p n (Q.sig C n) qs) = cutO (cutO (restsQ qs) (Q.sig C n) p.2.2) p.2.2 (Q.sig C n) ∧ ∃ e, oneQ p n (Q.sig C n) qs = qs ++ e ∧ ∀ z ∈ e, POk C z ∧ totQ z = totQ p + 1 := by
  have h1 : restsQ (oneQ1 p n (Q.sig C n) qs) = cutO (restsQ qs) (Q.sig C n) p.2.2 := rests_cut (q := (p.2.1, p.1 ++ [n], restB (Q.sig C n) p.2.2)) rfl hne
  have h2 : restsQ (oneQ2 p n (Q.sig C n) (oneQ1 p n (Q.sig C n) qs)) = cutO (restsQ (oneQ1 p n (Q.sig C n) qs)) p.2.2 (Q.sig C n) := rests_cut (q := (p.1 ++ [n], p.2.1, restB p.2.2 (Q.sig C n))) rfl (fun e => hne e.symm)
  refine ⟨by unfold oneQ; rw [h2, h1], ?_⟩
  have e1 : ∃ e, oneQ1 p n (Q.sig C n) qs = qs ++ e ∧ ∀ z ∈ e, POk C z ∧ totQ z = totQ p + 1 := by
    unfold oneQ1
    split
    · rename_i hh
      obtain ⟨t, ht⟩ := headB_iff.1 hh
      obtain ⟨e, h3, h4⟩ := addQ_ext qs (p.2.1, p.1 ++ [n], restB (Q.sig C n) p.2.2)
      refine ⟨e, h3, fun z hz => ?_⟩
      rw [h4 z hz]
      refine ⟨hp.swap hn ht, ?_⟩
      unfold totQ
      simp only [List.length_append, List.length_singleton]; omega
    · exact ⟨[], by simp, by simp⟩
  obtain ⟨e, h3, h4⟩ := e1
  unfold oneQ
  rw [h3]
  unfold oneQ2
  split
  · rename_i hh
    obtain ⟨t, ht⟩ := headB_iff.1 hh
    obtain ⟨e', h5, h6⟩ := addQ_ext (qs ++ e) (p.1 ++ [n], p.2.1, restB p.2.2 (Q.sig C n))
    refine ⟨e ++ e', by rw [h5, List.append_assoc], fun z hz => ?_⟩
    rcases List.mem_append.1 hz with hz | hz
    · exact h4 z hz
    · rw [h6 z hz]
      refine ⟨hp.on hn ht, ?_⟩
      unfold totQ
      simp only [List.length_append, List.length_singleton]; omega
  · exact ⟨e, rfl, h4⟩
theorem folI_none {C : List ByteArray} {p : PQ} (hp : POk C p) (d : Nat) : ∀ (n : Nat) (qs : List PQ), n + d = C.length → (restsQ qs).Nodup → (folI C p d n qs).1 = none →
    (∃ e, (folI C p d n qs).2 = qs ++ e ∧ ∀ z ∈ e, POk C z ∧ totQ z = totQ p + 1) ∧ (restsQ (folI C p d n qs).2).Nodup ∧ (∀ s, s ∈ restsQ (folI C p d n qs).2 ↔ s ∈ restsQ qs ∨ ∃ j, n ≤ j ∧ j < C.length ∧ (Cut p.2.2 (gt C j) s ∨ Cut (gt C j) p.2.2 s)) ∧ ∀ j, n ≤ j → j < C.length → gt C j ≠ p.2.2 := by
  induction d with
  | zero =>
    intro n qs hn hN _
    exact ⟨⟨[], by simp [folI], by simp⟩, hN, fun s => ⟨.inl, fun h => h.elim id fun ⟨j, h1, h2, _⟩ => by omega⟩, fun j h1 h2 => by omega⟩
  | succ d ih =>
    intro n qs hn hN h
    rw [folI] at h ⊢
    by_cases he : (Q.sig C n).toList = p.2.2.toList
    · rw [if_pos he] at h; cases h
    · rw [if_neg he] at h ⊢
      have hne : bs (Q.sig C n) ≠ bs p.2.2 := fun e => he (str_eq.2 (bs_inj e))
      obtain ⟨hr, e, h1, h2⟩ := oneQ_step hp (show n < C.length by omega) hne qs
      obtain ⟨⟨e', h3, h4⟩, h5, h6, h7⟩ := ih (n + 1) _ (by omega) (by rw [hr]; exact cutO_nodup (cutO_nodup hN)) h
      refine ⟨⟨e ++ e', by rw [h3, h1, List.append_assoc], fun z hz => (List.mem_append.1 hz).elim (h2 z) (h4 z)⟩, h5, fun s => ?_, fun j hj1 hj2 => ?_⟩
      · rw [h6, hr, mem_cutO, mem_cutO]
        constructor
        · rintro (((h | h) | h) | ⟨j, h8, h9, h10⟩)
          · exact .inl h
          · exact .inr ⟨n, Nat.le_refl _, by omega, .inr h⟩
          · exact .inr ⟨n, Nat.le_refl _, by omega, .inl h⟩
          · exact .inr ⟨j, by omega, h9, h10⟩
        · rintro (h | ⟨j, h8, h9, h10⟩)
          · exact .inl (.inl (.inl h))
          · by_cases e : j = n
            · subst e
              rcases h10 with h | h
              · exact .inl (.inr h)
              · exact .inl (.inl (.inr h))
            · exact .inr ⟨j, by omega, h9, h10⟩
      · by_cases e : j = n
        · subst e
          exact fun e => hne (congrArg bs e)
        · exact h7 j (by omega) hj2
theorem folI_some {C : List ByteArray} {p : PQ} (d : Nat) : ∀ (n : Nat) (qs : List PQ) (m : Nat), n + d = C.length → (folI C p d n qs).1 = some m → m < C.length ∧ Q.sig C m = p.2.2 := by
  induction d with
  | zero => intro n qs m _ h; cases h
  | succ d ih =>
    intro n qs m hn h
    rw [folI] at h
    by_cases he : (Q.sig C n).toList = p.2.2.toList
    · rw [if_pos he] at h
      injection h with h
      subst h
      exact ⟨by omega, str_eq.1 he⟩
    · rw [if_neg he] at h
      exact ih (n + 1) _ m (by omega) h
/-! Where it starts. -/
theorem startI_rests {C : List ByteArray} (v : Valid C) {i : Nat} (hi : i < C.length) (qs : List PQ) : ∀ n, n ≤ C.length → restsQ (startI C i n qs) = inA C (gt C i) n (restsQ qs) ∧ ∃ e, startI C i n qs = qs ++ e ∧ ∀ z ∈ e, POk C z ∧ totQ z = 2
  | 0, _ => ⟨rfl, [], by simp [startI], by simp⟩
  | n + 1, hn => by
    obtain ⟨h1, e, h2, h3⟩ := startI_rests v hi qs n (by omega)
    rw [startI]
    by_cases hin : i = n
    · subst hin
      rw [show (headB (Q.sig C i) (Q.sig C i) && decide (i ≠ i)) = false by simp, if_neg (by decide)]
      refine ⟨?_, e, h2, h3⟩
      rw [h1]
      show _ = cutO _ (gt C i) (gt C i)
      unfold cutO addO
      rw [if_neg]
      intro h
      obtain ⟨h4, h5, -⟩ := addB_iff.1 h
      rw [restB_of (show bs (gt C i) = bs (gt C i) ++ [] by simp)] at h5
      exact h5 rfl
    · have hb : bs (Q.sig C n) ≠ bs (Q.sig C i) := fun e => by
        have h4 := bs_inj e
        have e1 : ∀ {j}, (hj : j < C.length) → Q.sig C j = C[j] := fun {j} hj => by unfold Q.sig; rw [List.getD_eq_getElem?_getD, List.getElem?_eq_getElem hj]; rfl
        rw [e1 hi, e1 (by omega)] at h4
        exact hin ((List.getElem_inj v.nodup).1 h4).symm
      rw [decide_eq_true (show i ≠ n from hin), Bool.and_true]
      constructor
      · rw [rests_cut (q := ([i], [n], restB (Q.sig C n) (Q.sig C i))) rfl hb, h1]; rfl
      · split
        · rename_i hh
          obtain ⟨t, ht⟩ := headB_iff.1 hh
          obtain ⟨e', h5, h6⟩ := addQ_ext (startI C i n qs) ([i], [n], restB (Q.sig C n) (Q.sig C i))
          refine ⟨e ++ e', by rw [h5, h2, List.append_assoc], fun z hz => ?_⟩
          rcases List.mem_append.1 hz with hz | hz
          · exact h3 z hz
          · rw [h6 z hz]
            refine ⟨⟨by simpa using hi, by simp; omega, ⟨i, n, [], [], rfl, rfl, hin⟩, ?_⟩, rfl⟩
            show sndN C [n] = sndN C [i] ++ bs (restB (Q.sig C n) (Q.sig C i))
            rw [sndN_one, sndN_one, restB_of ht, ht]
        · exact ⟨e, h2, h3⟩
theorem startO_rests {C : List ByteArray} (v : Valid C) : ∀ i, i ≤ C.length → restsQ (startO C i) = outA C i ∧ ∀ z ∈ startO C i, POk C z ∧ totQ z = 2
  | 0, _ => ⟨rfl, fun z hz => by simp [startO] at hz⟩
  | i + 1, hi => by
    obtain ⟨h1, h2⟩ := startO_rests v i (by omega)
    obtain ⟨h3, e, h4, h5⟩ := startI_rests v (show i < C.length by omega) (startO C i) C.length (Nat.le_refl _)
    rw [startO]
    refine ⟨by rw [h3, h1]; rfl, fun z hz => ?_⟩
    rw [h4] at hz
    exact (List.mem_append.1 hz).elim (h2 z) (h5 z)
/-- How the search stands. -/
structure PF (C : List ByteArray) (qs : List PQ) (i : Nat) : Prop where
  found : Found C (restsQ qs) i
  ok : ∀ q ∈ qs, POk C q
  len : ∀ p, p < qs.length → totQ (qAt qs p) ≤ p + 2
  no : ∀ j, j < i → ∀ x ∈ C, x ≠ gt (restsQ qs) j
theorem rests_len (qs : List PQ) : (restsQ qs).length = qs.length := by unfold restsQ; rw [List.length_map]
theorem qAt_mem {qs : List PQ} {i : Nat} (h : i < qs.length) : qAt qs i ∈ qs := getD_mem h
theorem rests_at {qs : List PQ} {i : Nat} (h : i < qs.length) : gt (restsQ qs) i = (qAt qs i).2.2 := by
  unfold gt restsQ qAt
  rw [List.getD_eq_getElem?_getD, List.getD_eq_getElem?_getD, List.getElem?_map, List.getElem?_eq_getElem h]; rfl
theorem qAt_app {qs e : List PQ} {i : Nat} (h : i < qs.length) : qAt (qs ++ e) i = qAt qs i := by
  unfold qAt
  rw [List.getD_eq_getElem?_getD, List.getD_eq_getElem?_getD, List.getElem?_append_left h]
theorem PF.start {C : List ByteArray} (v : Valid C) : PF C (startO C C.length) 0 := by
  obtain ⟨h1, h2⟩ := startO_rests v C.length (Nat.le_refl _)
  refine ⟨by rw [h1]; exact outA_found, fun q hq => (h2 q hq).1, fun p hp => ?_, fun j hj => by omega⟩
  have := (h2 _ (qAt_mem hp)).2
  omega
theorem PF.next {C : List ByteArray} {qs : List PQ} {i : Nat} (h : PF C qs i) (hi : i < qs.length) (hn : (folI C (qAt qs i) C.length 0 qs).1 = none) : PF C (folI C (qAt qs i) C.length 0 qs).2 (i + 1) := by
  obtain ⟨⟨e, h1, h2⟩, h3, h4, h5⟩ := folI_none (h.ok _ (qAt_mem hi)) C.length 0 qs (by omega) h.found.nodup hn
  generalize (folI C (qAt qs i) C.length 0 qs).2 = qs' at *
  subst h1
  have hi2 : i < (restsQ qs).length := by rw [rests_len]; exact hi
  refine ⟨h.found.next hi2 h3 (fun s => ?_) (fun j hj => ?_) ?_, fun q hq => ?_, fun p hp => ?_, fun j hj x hx => ?_⟩
  · rw [h4, rests_at hi]
    constructor
    · rintro (h | ⟨j, _, h6, h7⟩)
      · exact .inl h
      · exact .inr ⟨gt C j, gt_mem h6, h7⟩
    · rintro (h | ⟨x, hx, h7⟩)
      · exact .inl h
      · obtain ⟨j, hj, rfl⟩ := mem_gt hx
        exact .inr ⟨j, Nat.zero_le _, hj, h7⟩
  · rw [rests_len] at hj
    rw [rests_at hj, rests_at (by rw [List.length_append]; omega), qAt_app hj]
  · rw [rests_len, rests_len, List.length_append]; omega
  · exact (List.mem_append.1 hq).elim (h.ok q) (fun hq => (h2 q hq).1)
  · by_cases hp2 : p < qs.length
    · rw [qAt_app hp2]; exact h.len p hp2
    · have hm : qAt (qs ++ e) p ∈ e := by
        unfold qAt
        rw [List.getD_eq_getElem?_getD, List.getElem?_append_right (by omega), ← List.getD_eq_getElem?_getD]
        rw [List.length_append] at hp
        exact getD_mem (by omega)
      have := (h2 _ hm).2
      have := h.len i hi
      omega
  · by_cases e2 : j = i
    · subst e2
      rw [rests_at (by rw [List.length_append]; omega), qAt_app hi]
      obtain ⟨n, hn, rfl⟩ := mem_gt hx
      exact h5 n (Nat.zero_le _) hn
    · have hj2 : j < qs.length := by omega
      have := h.no j (by omega) x hx
      rwa [rests_at hj2, ← qAt_app (e := e) hj2, ← rests_at (by rw [List.length_append]; omega)] at this
/-! What it finds. -/
def ints (m : List Nat) : List Int := m.map fun n : Nat => (n : Int)
theorem ints_inj {a b : List Nat} (h : ints a = ints b) : a = b := by
  have := congrArg (List.map Int.toNat) h
  unfold ints at this
  rw [List.map_map, List.map_map] at this
  simpa [Function.comp_def] using this
theorem ints_in {C : List ByteArray} {a : List Nat} (h : ∀ n ∈ a, n < C.length) : (ints a).all (inC C) = true := by
  rw [List.all_eq_true]
  intro x hx
  obtain ⟨n, hn, rfl⟩ := List.mem_map.1 hx
  exact inC_iff.2 ⟨by omega, by have := h n hn; omega⟩
theorem ints_snd (C : List ByteArray) (a : List Nat) : bs (soundB C (ints a)) = sndN C a := by
  rw [sound_words]
  unfold mws ints sndN
  rw [List.map_map]
  rfl
theorem chk_good {C : List ByteArray} (v : Valid C) {a b : List Nat} (ha : ∀ n ∈ a, n < C.length) (hb : ∀ n ∈ b, n < C.length) (la : a.length ≤ 400) (lb : b.length ≤ 400) (hne : a ≠ b) (hs : sndN C a = sndN C b) : chkP C (ints a) (ints b) = 0 := by
  have l1 : (ints a).length = a.length := by unfold ints; rw [List.length_map]
  have l2 : (ints b).length = b.length := by unfold ints; rw [List.length_map]
  have hm : msg2P C (ints a) (ints b) = 0 := by
    unfold msg2P
    rw [if_neg (by omega), if_neg (by omega), if_pos (ints_in ha), if_pos (ints_in hb)]
  unfold chkP
  rw [if_neg (by rw [valP_zero.2 v]; simp), if_neg (by rw [hm]; simp), if_neg (fun e => hne (ints_inj e)), if_pos (bs_inj (by rw [ints_snd, ints_snd, hs]))]
theorem follow_goes {C : List ByteArray} (v : Valid C) : ∀ (d i : Nat) (qs : List PQ), PF C qs i → 157 ≤ d + i → (followF C d i qs = some none ∧ Safe C) ∨ ∃ a b, followF C d i qs = some (some (a, b)) ∧ a.length ≤ 400 ∧ b.length ≤ 400 ∧ chkP C (ints a) (ints b) = 0 := by
  intro d
  induction d with
  | zero =>
    intro i qs h hd
    have h1 := h.found.len v
    have h2 := h.found.le
    omega
  | succ d ih =>
    intro i qs h hd
    have h1 := h.found.len v
    have h2 := h.found.le
    rw [rests_len] at h1 h2
    rw [followF]
    by_cases hi : i = qs.length
    · rw [if_pos hi]
      refine .inl ⟨rfl, ?_⟩
      rintro ⟨s, hs, hl⟩
      have hf := h.found
      rw [hi, ← rests_len] at hf
      obtain ⟨j, hj, rfl⟩ := mem_gt (hf.all.2 hl)
      exact h.no j (by rw [rests_len] at hj; omega) _ hs rfl
    · rw [if_neg hi]
      have hi2 : i < qs.length := by omega
      have hp := h.ok _ (qAt_mem hi2)
      have hl := h.len i hi2
      unfold totQ at hl
      rw [if_pos ⟨hi2, by omega, by omega, by omega⟩]
      cases hn : (folI C (qAt qs i) C.length 0 qs).1 with
      | none => exact ih (i + 1) _ (h.next hi2 hn) (by omega)
      | some n =>
        obtain ⟨h3, h4⟩ := folI_some C.length 0 qs n (by omega) hn
        refine .inr ⟨_, _, rfl, by rw [List.length_append, List.length_singleton]; omega, by omega, ?_⟩
        refine chk_good v (all_snoc hp.a h3) hp.b (by rw [List.length_append, List.length_singleton]; omega) (by omega) ?_ ?_
        · obtain ⟨x, y, s, t, e1, e2, hne⟩ := hp.ne
          rw [e1, e2]
          intro e
          exact hne (List.cons.inj e).1
        · rw [sndN_app, sndN_one, h4, hp.snd]

/-! What Alike answers. -/

theorem alike_bad_ev {C : List ByteArray} (hS : Sized C) (h : valP C ≠ 0) : Ev (fun k => whistle_Alike.f k C) ([], [], false, valP C) := by
  unfold whistle_Alike.f
  exact Ev.bind (val_ev C hS) (Ev.ifn h (Ev.now _))
def alikeV : Option (List Nat × List Nat) → List Int × List Int × Bool × Int
  | none => ([], [], false, 0)
  | some r => (ints r.1, ints r.2, true, 0)
theorem alike_good {C : List ByteArray} (hS : Sized C) (h : valP C = 0) {d : Nat} {res : Option (List Nat × List Nat)} (hf : followF C d 0 (startO C C.length) = some res) : Ev (fun k => whistle_Alike.f k C) (alikeV res) := by
  have v := valP_zero.1 h
  have hc : C.length ≤ 60 ∧ ∀ j, j < C.length → (Q.sig C j).size ≤ 1000 := ⟨by have := v.few; omega, fun j hj => by have := v.size12 _ (gt_mem hj); show (gt C j).size ≤ 1000; omega⟩
  unfold whistle_Alike.f
  have hv := val_ev C hS
  rw [h] at hv
  refine Ev.bind hv (Ev.ifp rfl (Ev.ifp hc ?_))
  have h2 : Ev (fun k => followF C k 0 (startO C C.length)) res := Ev.of (k := d) (fun k r h => followF_mono C k 0 _ r h) hf
  obtain ⟨K, h3⟩ := h2
  exact ⟨K, fun n hn => by
    have h4 : followF C n 0 (startO C C.length) = some res := h3 n hn
    cases res
    · show Option.map _ (followF C n 0 (startO C C.length)) = _
      rw [h4]; rfl
    · show Option.map _ (followF C n 0 (startO C C.length)) = _
      rw [h4]; rfl⟩

end Go.Proofs.Ytpkafcoflgbnaaa.Pure
