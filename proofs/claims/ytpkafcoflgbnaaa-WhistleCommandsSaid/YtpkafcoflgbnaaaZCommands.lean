-- What the plain law WhistleCommands needs, out of the Libs of this seat.
import Derived.Test.YtpkafcoflgbnaaaQx2
import Derived.Test.YtpkafcoflgbnaaaQx10
import Derived.Test.YtpkafcoflgbnaaaQx11
import Derived.Test.YtpkafcoflgbnaaaQx17
import Derived.Test.YtpkafcoflgbnaaaQx26
import Derived.Test.YtpkafcoflgbnaaaQx27
import Derived.Test.YtpkafcoflgbnaaaWh1
import Derived.Test.YtpkafcoflgbnaaaWh4
import Derived.Test.YtpkafcoflgbnaaaLibSP
import Derived.Sort.LotA
import Derived.Sort.Walk0
import Derived.Test.YtpkafcoflgbnaaaLibMc
import Derived.Test.YtpkafcoflgbnaaaWh5
import Derived.Test.YtpkafcoflgbnaaaWh6
namespace Go.Proofs.Ytpkafcoflgbnaaa.Pure
open Go.RowKit Go.Proofs.Ytpkafcoflgbnaaa.Q Go.Proofs.YtpkafcoflgbnaaaW.PrintWords Go.Proofs.YtpkafcoflgbnaaaW.PrintLast
open Go.RowKit Go.Proofs.Ytpkafcoflgbnaaa.Q Go.Proofs.YtpkafcoflgbnaaaW.PrintWords Go.Proofs.YtpkafcoflgbnaaaW.PrintLast Go.Proofs.YtpkafcoflgbnaaaW.PrintMore
set_option linter.unusedVariables false


/-! Rounds; texts and lists; which codes and messages are valid. -/

theorem Ev.ifp {α : Type} {c : Prop} [Decidable c] {f g : Nat → Option α} {r : α} (h : c) (k : Ev f r) : Ev (fun n => if c then f n else g n) r := by
  obtain ⟨K, k⟩ := k
  exact ⟨K, fun n hn => by show (if c then f n else g n) = some r; rw [if_pos h]; exact k n hn⟩
theorem Ev.ifn {α : Type} {c : Prop} [Decidable c] {f g : Nat → Option α} {r : α} (h : ¬ c) (k : Ev g r) : Ev (fun n => if c then f n else g n) r := by
  obtain ⟨K, k⟩ := k
  exact ⟨K, fun n hn => by show (if c then f n else g n) = some r; rw [if_neg h]; exact k n hn⟩
theorem Ev.some_bind {α β : Type} {f : Nat → α → Option β} {a : α} {r : β} (k : Ev (fun n => f n a) r) : Ev (fun n => (some a).bind (f n)) r := k
theorem Ev.bindc {α β : Type} {g : Option α} {f : Nat → α → Option β} {a : α} {r : β} (h : g = some a) (k : Ev (fun n => f n a) r) : Ev (fun n => g.bind (f n)) r := by
  subst h
  exact k
theorem Ev.val {α : Type} {a r : α} (h : a = r) : Ev (fun _ => some a) r := by
  subst h
  exact Ev.now _
theorem w64 {a : Int} (h0 : -9223372036854775808 ≤ a) (h1 : a < 9223372036854775808) : wrap64 a = a := by unfold wrap64; omega
theorem w64s {i : Nat} (h : i < 1000000000000000000) : wrap64 ((i : Int) + 1) = ((i + 1 : Nat) : Int) := by rw [w64 (by omega) (by omega)]; omega
theorem rdOf_nat {α : Type} (d : α) (C : List α) (i : Nat) : rdOf d C (i : Int) = C.getD i d := by unfold rdOf; rw [Int.toNat_natCast]
theorem rd_nat (l : List Int) (i : Nat) : rd l (i : Int) = l.getD i 0 := by unfold rd; rw [Int.toNat_natCast]
theorem str_eq {a b : ByteArray} : a.toList = b.toList ↔ a = b := by
  rw [ByteArray.toList_eq, ByteArray.toList_eq]
  constructor
  · intro h
    cases a; cases b
    simp only [Array.toList_inj] at h
    rw [h]
  · intro h; rw [h]
theorem getD_mem {α : Type} {C : List α} {i : Nat} {d : α} (h : i < C.length) : C.getD i d ∈ C := by
  rw [List.getD_eq_getElem?_getD, List.getElem?_eq_getElem h]; exact List.getElem_mem h
theorem mem_getD {α : Type} {C : List α} {x d : α} (h : x ∈ C) : ∃ i, i < C.length ∧ C.getD i d = x := by
  obtain ⟨i, hi, rfl⟩ := List.mem_iff_getElem.1 h
  exact ⟨i, hi, by rw [List.getD_eq_getElem?_getD, List.getElem?_eq_getElem hi]; rfl⟩

/-! Lists of texts: long, the same, what is in them; which texts begin with which. -/

def gt (C : List ByteArray) (i : Nat) : ByteArray := C.getD i ByteArray.empty
theorem rdOf_gt (C : List ByteArray) (i : Nat) : rdOf ByteArray.empty C (i : Int) = gt C i := rdOf_nat _ _ _
theorem drop_gt {C : List ByteArray} {i : Nat} (h : i < C.length) : C.drop i = gt C i :: C.drop (i + 1) := by
  rw [List.drop_eq_getElem_cons h]
  congr 1
  unfold gt
  rw [List.getD_eq_getElem?_getD, List.getElem?_eq_getElem h]; rfl
def bigC : Nat := 1000000000000000000
def longP (C : List ByteArray) : Bool := C.any (fun s => decide (100 < s.size)) || decide (60 < C.length)
theorem long_at (C : List ByteArray) (hC : C.length < bigC) (d : Nat) : ∀ i, i + d = C.length → Ev (fun k => wigeonlaw05_Long.l0 k C (i : Int)) ((C.drop i).any (fun s => decide (100 < s.size)) || decide (60 < C.length)) := by
  unfold bigC at hC
  induction d with
  | zero =>
    intro i hi
    rw [List.drop_eq_nil_of_le (by omega)]
    refine Ev.step (fun k => by rw [wigeonlaw05_Long.l0]) (Ev.ifn (by omega) (Ev.val ?_))
    rw [List.any_nil, Bool.false_or]
    exact decide_eq_decide.2 (by omega)
  | succ d ih =>
    intro i hi
    rw [drop_gt (by omega), List.any_cons]
    refine Ev.step (fun k => by rw [wigeonlaw05_Long.l0, rdOf_gt]) (Ev.ifp (by omega) (Ev.ifp (by omega) ?_))
    by_cases h : 100 < (gt C i).size
    · exact Ev.ifp (by omega) (Ev.val (by rw [decide_eq_true h]; rfl))
    · refine Ev.ifn (by omega) ?_
      rw [decide_eq_false h, Bool.false_or, w64s (by omega)]
      exact ih (i + 1) (by omega)
theorem long_ev (C : List ByteArray) (hC : C.length < bigC) : Ev (fun k => wigeonlaw05_Long.f k C) (longP C) := by
  have := long_at C hC C.length 0 (by omega)
  rw [List.drop_zero] at this
  exact this
theorem sameT_at (a b : List ByteArray) (hl : a.length = b.length) (ha : a.length < bigC) (d : Nat) : ∀ i, i + d = a.length → Ev (fun k => wigeonref05_SameTexts.l0 k a b (i : Int)) (decide (a.drop i = b.drop i)) := by
  unfold bigC at ha
  induction d with
  | zero =>
    intro i hi
    rw [List.drop_eq_nil_of_le (by omega), List.drop_eq_nil_of_le (by omega)]
    exact Ev.step (fun k => by rw [wigeonref05_SameTexts.l0]) (Ev.ifn (by omega) (Ev.val (by simp)))
  | succ d ih =>
    intro i hi
    rw [drop_gt (show i < a.length by omega), drop_gt (show i < b.length by omega)]
    refine Ev.step (fun k => by rw [wigeonref05_SameTexts.l0, rdOf_gt, rdOf_gt]) (Ev.ifp (by omega) (Ev.ifp (by omega) (Ev.ifp (by omega) ?_)))
    by_cases h : gt a i = gt b i
    · refine Ev.ifp (str_eq.2 h) ?_
      rw [w64s (by omega)]
      have := ih (i + 1) (by omega)
      rwa [show decide (gt a i :: a.drop (i + 1) = gt b i :: b.drop (i + 1)) = decide (a.drop (i + 1) = b.drop (i + 1)) from decide_eq_decide.2 (by rw [h]; simp)]
    · refine Ev.ifn (fun e => h (str_eq.1 e)) (Ev.val ?_)
      exact (decide_eq_false (by intro e; exact h (List.cons.inj e).1)).symm
theorem sameT_ev (a b : List ByteArray) (ha : a.length < bigC) : Ev (fun k => wigeonref05_SameTexts.f k a b) (decide (a = b)) := by
  unfold wigeonref05_SameTexts.f
  by_cases h : a.length = b.length
  · refine Ev.ifp (by omega) ?_
    have := sameT_at a b h ha a.length 0 (by omega)
    rw [List.drop_zero, List.drop_zero] at this
    exact this
  · exact Ev.ifn (by omega) (Ev.val (decide_eq_false (fun e => h (by rw [e]))).symm)
theorem inS_iff {l : List ByteArray} {x : ByteArray} : Go.Lib.containsS l x = true ↔ x ∈ l := Go.Lib.containsS_iff l x
theorem inS_eq {l m : List ByteArray} {x y : ByteArray} (h : x ∈ l ↔ y ∈ m) : Go.Lib.containsS l x = Go.Lib.containsS m y := by rw [Bool.eq_iff_iff, inS_iff, inS_iff]; exact h
theorem inS_true {l : List ByteArray} {x : ByteArray} (h : x ∈ l) : Go.Lib.containsS l x = true := inS_iff.2 h
theorem inS_false {l : List ByteArray} {x : ByteArray} (h : x ∉ l) : Go.Lib.containsS l x = false := by rw [Bool.eq_false_iff]; exact fun e => h (inS_iff.1 e)
theorem index_at (l : List ByteArray) (x : ByteArray) (hl : l.length < bigC) (d : Nat) : ∀ i, i + d = l.length → ∃ r, Ev (fun k => slices_Index_string_string.l0 k l x (l.length : Int) (i : Int)) r ∧ (0 ≤ r ↔ x ∈ l.drop i) := by
  unfold bigC at hl
  induction d with
  | zero =>
    intro i hi
    refine ⟨-1, Ev.step (fun k => by rw [slices_Index_string_string.l0]) (Ev.ifn (by omega) (Ev.now _)), ?_⟩
    rw [List.drop_eq_nil_of_le (by omega)]; simp
  | succ d ih =>
    intro i hi
    rw [drop_gt (show i < l.length by omega)]
    by_cases h : x = gt l i
    · refine ⟨(i : Int), Ev.step (fun k => by rw [slices_Index_string_string.l0, rdOf_gt]) (Ev.ifp (by omega) (Ev.ifp (by omega) (Ev.ifp (by omega) (Ev.ifp (str_eq.2 h) (Ev.now _))))), ?_⟩
      simp [h]
    · obtain ⟨r, h1, h2⟩ := ih (i + 1) (by omega)
      refine ⟨r, Ev.step (fun k => by rw [slices_Index_string_string.l0, rdOf_gt]) (Ev.ifp (by omega) (Ev.ifp (by omega) (Ev.ifp (by omega) (Ev.ifn (fun e => h (str_eq.1 e)) (by rw [w64s (by omega)]; exact h1))))), ?_⟩
      rw [h2]; simp [h]
theorem contains_ev (l : List ByteArray) (x : ByteArray) (hl : l.length < bigC) : Ev (fun k => slices_Contains_string_string.f k l x) (Go.Lib.containsS l x) := by
  unfold slices_Contains_string_string.f slices_Index_string_string.f
  obtain ⟨r, h1, h2⟩ := index_at l x hl l.length 0 (by omega)
  rw [List.drop_zero] at h2
  refine Ev.bind h1 (Ev.val ?_)
  rw [Bool.eq_iff_iff, inS_iff, decide_eq_true_eq]
  exact h2
theorem head_raw (a b : ByteArray) : headB a b = (decide (b.size ≤ a.size) && ((a.extract 0 b.size).toList == b.toList)) := (Go.Lib.hasPrefix_raw a b).symm
theorem begins_eq (a b : ByteArray) : wigeonref05_begins.f a b = some (headB a b) := by
  unfold wigeonref05_begins.f
  rw [head_raw]
  by_cases h : b.size ≤ a.size
  · rw [if_pos (by omega), if_pos (by omega), if_pos (by omega), decide_eq_true h, Bool.true_and, Int.toNat_natCast]
  · rw [if_neg (by omega), decide_eq_false h, Bool.false_and]
theorem hasPrefix_eq (a b : ByteArray) : strings_HasPrefix.f a b = some (headB a b) := by
  unfold strings_HasPrefix.f stringslite_HasPrefix.f
  rw [head_raw]
  by_cases h : b.size ≤ a.size
  · rw [if_pos (by omega), if_pos (by omega), if_pos (by omega), decide_eq_true h, Bool.true_and, Int.toNat_natCast]; rfl
  · rw [if_neg (by omega), decide_eq_false h, Bool.false_and]; rfl

/-! What the document gives; which codes are valid, by the program and by the reference. -/

theorem mem_sortS {o : List ByteArray} {x : ByteArray} : x ∈ sortS o ↔ x ∈ o := by
  unfold sortS
  rw [List.mem_map]
  constructor
  · rintro ⟨b, hb, rfl⟩
    rw [List.mem_mergeSort, List.mem_map] at hb
    obtain ⟨y, hy, rfl⟩ := hb
    exact hy
  · intro h
    exact ⟨x.data.toList, by rw [List.mem_mergeSort, List.mem_map]; exact ⟨x, h, rfl⟩, rfl⟩
theorem known1 : whistle_FromLengths.f 30 [2, 1, 2] = some ([⟨#[45, 46]⟩, ⟨#[46]⟩, ⟨#[45, 45]⟩], 0) := by decide +kernel
theorem known2v : whistle_Validate.f 30 [⟨#[46]⟩, ⟨#[46, 45]⟩] = some 0 := by decide +kernel
theorem known3v : whistle_Validate.f 30 [⟨#[46]⟩, ⟨#[46, 45]⟩, ⟨#[45, 46]⟩] = some 0 := by decide +kernel
theorem known2e : goB [⟨#[46]⟩, ⟨#[46, 45]⟩] 30 (outA [⟨#[46]⟩, ⟨#[46, 45]⟩] 2) 0 = some [⟨#[45]⟩] := by decide +kernel
theorem known3e : goB [⟨#[46]⟩, ⟨#[46, 45]⟩, ⟨#[45, 46]⟩] 30 (outA [⟨#[46]⟩, ⟨#[46, 45]⟩, ⟨#[45, 46]⟩] 3) 0 = some [⟨#[45]⟩, ⟨#[46]⟩] := by decide +kernel
theorem safe_of {k : Nat} {C o : List ByteArray} (hv : whistle_Validate.f k C = some 0) (hC : C.length ≤ 100) (ho : goB C k (outA C C.length) 0 = some o) : whistle_IsSafe.f k C = some (!(C.any (Go.Lib.containsS o)), 0) := by
  unfold whistle_IsSafe.f endsL
  rw [hv, if_pos hC, ho]
  show some (!(C.any (Go.Lib.containsS (sortS o))), (0 : Int)) = _
  congr 3
  rw [Bool.eq_iff_iff, List.any_eq_true, List.any_eq_true]
  exact ⟨fun ⟨x, h1, h2⟩ => ⟨x, h1, inS_iff.2 (mem_sortS.1 (inS_iff.1 h2))⟩, fun ⟨x, h1, h2⟩ => ⟨x, h1, inS_iff.2 (mem_sortS.2 (inS_iff.1 h2))⟩⟩
theorem known_ev : Ev (fun k => wigeonlaw05_known.f k) true := by
  refine Ev.of (k := 30) (fun k => wigeonlaw05_known.mono k) ?_
  unfold wigeonlaw05_known.f
  rw [known1, safe_of known2v (by decide) known2e, safe_of known3v (by decide) known3e]
  decide +kernel
theorem known_bind {r : Bool} (h : r = true) : Ev (fun k => (wigeonlaw05_known.f k).bind fun t => some t) r := by
  subst h
  exact Ev.bind known_ev (Ev.now _)
/-! Notes. -/
def noteB (b : UInt8) : Bool := b == 46 || b == 45
theorem noteB_iff {b : UInt8} : noteB b = true ↔ b = 46 ∨ b = 45 := by unfold noteB; simp
theorem bt_nat {s : ByteArray} {i : Nat} (h : i < s.data.toList.length) : bt s (i : Int) = ((s.data.toList[i].toNat : Nat) : Int) := by
  have h2 : i < s.size := by rwa [Array.length_toList] at h
  exact w_bt_of h2
theorem noteW_byte (b : UInt8) : noteW ((b.toNat : Nat) : Int) = noteB b := by
  rw [Bool.eq_iff_iff, noteB_iff]
  unfold noteW
  rw [Bool.or_eq_true, decide_eq_true_eq, decide_eq_true_eq]
  constructor
  · rintro (h | h)
    · exact .inl (UInt8.toNat_inj.1 (by show b.toNat = 46; omega))
    · exact .inr (UInt8.toNat_inj.1 (by show b.toNat = 45; omega))
  · rintro (rfl | rfl)
    · exact .inl rfl
    · exact .inr rfl
theorem notesP_list (s : ByteArray) : notesP s = s.data.toList.all noteB := by
  unfold notesP
  rw [Bool.eq_iff_iff, List.all_eq_true, List.all_eq_true]
  constructor
  · intro h b hb
    obtain ⟨i, hi, rfl⟩ := List.mem_iff_getElem.1 hb
    have := h i (List.mem_range.2 (by rwa [Array.length_toList] at hi))
    rwa [bt_nat hi, noteW_byte] at this
  · intro h i hi
    have hi := List.mem_range.1 hi
    have hi2 : i < s.data.toList.length := by rwa [Array.length_toList]
    rw [bt_nat hi2, noteW_byte]
    exact h _ (List.getElem_mem hi2)
theorem notes_eq {s : ByteArray} (h : s.size ≤ 140737488351232) : whistle_notes.f s = some (notesP s) := by unfold whistle_notes.f; rw [if_pos (by omega)]
theorem isNotes_at (s : ByteArray) (hs : s.size < bigC) (d : Nat) : ∀ i, i + d = s.size → Ev (fun k => wigeonref05_isNotes.l0 k s (i : Int)) ((s.data.toList.drop i).all noteB) := by
  unfold bigC at hs
  have hlen : s.data.toList.length = s.size := Array.length_toList
  induction d with
  | zero =>
    intro i hi
    rw [List.drop_eq_nil_of_le (by omega)]
    exact Ev.step (fun k => by rw [wigeonref05_isNotes.l0]) (Ev.ifn (by omega) (Ev.val (by rfl)))
  | succ d ih =>
    intro i hi
    have h2 : i < s.data.toList.length := by omega
    rw [List.drop_eq_getElem_cons h2, List.all_cons]
    refine Ev.step (fun k => by rw [wigeonref05_isNotes.l0]) (Ev.ifp (by omega) (Ev.ifp (by omega) ?_))
    rw [bt_nat h2]
    have hn := noteW_byte s.data.toList[i]
    generalize s.data.toList[i] = b at *
    unfold noteW at hn
    by_cases h : ((b.toNat : Nat) : Int) = 46
    · refine Ev.ifp h ?_
      rw [decide_eq_true h] at hn
      rw [← hn, Bool.true_or, Bool.true_and, w64s (by omega)]
      exact ih (i + 1) (by omega)
    · refine Ev.ifn h ?_
      rw [decide_eq_false h, Bool.false_or] at hn
      by_cases h5 : ((b.toNat : Nat) : Int) = 45
      · refine Ev.ifp h5 ?_
        rw [decide_eq_true h5] at hn
        rw [← hn, Bool.true_and, w64s (by omega)]
        exact ih (i + 1) (by omega)
      · refine Ev.ifn h5 (Ev.val ?_)
        rw [decide_eq_false h5] at hn
        rw [← hn, Bool.false_and]
theorem isNotes_ev (s : ByteArray) (hs : s.size < bigC) : Ev (fun k => wigeonref05_isNotes.f k s) (notesP s) := by
  have := isNotes_at s hs s.size 0 (by omega)
  rw [List.drop_zero, ← notesP_list] at this
  exact this
/-! Validate. -/
def okS (s : ByteArray) : Bool := decide (1 ≤ s.size) && decide (s.size ≤ 12) && notesP s
def valAt (C : List ByteArray) : Nat → Nat → Int
  | 0, _ => 0
  | d + 1, i => if okS (gt C i) = false then 1 else if Go.Lib.containsS (C.take i) (gt C i) = true then 5 else valAt C d (i + 1)
def valP (C : List ByteArray) : Int := if C.length < 1 ∨ 12 < C.length then 3 else valAt C C.length 0
def Sized (C : List ByteArray) : Prop := ∀ s ∈ C, s.size ≤ 140737488351232
theorem Sized.gt {C : List ByteArray} (h : Sized C) (i : Nat) : (gt C i).size ≤ 140737488351232 := by
  by_cases hi : i < C.length
  · exact h _ (getD_mem hi)
  · unfold Pure.gt
    rw [List.getD_eq_getElem?_getD, List.getElem?_eq_none (by omega)]
    decide
theorem val_at (C : List ByteArray) (hC : C.length ≤ 12) (hS : Sized C) (d : Nat) : ∀ i, i + d = C.length → Ev (fun k => whistle_Validate.l0 k C C (C.length : Int) (i : Int)) (valAt C d i) := by
  induction d with
  | zero =>
    intro i hi
    exact Ev.step (fun k => by rw [whistle_Validate.l0]) (Ev.ifn (by omega) (Ev.val (by rfl)))
  | succ d ih =>
    intro i hi
    have hs := hS.gt i
    have hj1 : ∀ v : ByteArray, Ev (fun k => whistle_Validate.j2 k C (i : Int) v C (C.length : Int) (i : Int) true) 1 := fun v => Ev.step (fun k => by rw [whistle_Validate.j2]) (Ev.ifp rfl (Ev.now _))
    unfold valAt
    refine Ev.step (fun k => by rw [whistle_Validate.l0, rdOf_gt]) (Ev.ifp (by omega) (Ev.ifp (by omega) (Ev.ifp (by omega) ?_)))
    by_cases h1 : 1 ≤ (gt C i).size
    · refine Ev.ifn (by omega) ?_
      by_cases h2 : (gt C i).size ≤ 12
      · refine Ev.ifn (by omega) (Ev.bindc (notes_eq hs) ?_)
        have hok : okS (gt C i) = notesP (gt C i) := by unfold okS; rw [decide_eq_true h1, decide_eq_true h2]; rfl
        rw [hok]
        cases hn : notesP (gt C i)
        · rw [if_pos rfl]; exact hj1 _
        · rw [if_neg (by decide)]
          refine Ev.step (fun k => by rw [whistle_Validate.j2]) (Ev.ifn (by decide) (Ev.ifp (by omega) (Ev.ifp (by omega) ?_)))
          rw [Int.toNat_natCast]
          refine Ev.bind (contains_ev (C.take i) (gt C i) (by rw [List.length_take]; unfold bigC; omega)) ?_
          by_cases hc : Go.Lib.containsS (C.take i) (gt C i) = true
          · rw [if_pos hc]
            exact Ev.ifp hc (Ev.now _)
          · rw [if_neg hc]
            refine Ev.ifn hc ?_
            rw [w64s (by omega)]
            exact ih (i + 1) (by omega)
      · refine Ev.ifp (by omega) ?_
        rw [if_pos (by unfold okS; rw [decide_eq_false h2, Bool.and_false, Bool.false_and])]
        exact hj1 _
    · refine Ev.ifp (by omega) ?_
      rw [if_pos (by unfold okS; rw [decide_eq_false h1, Bool.false_and, Bool.false_and])]
      exact hj1 _
theorem val_ev (C : List ByteArray) (hS : Sized C) : Ev (fun k => whistle_Validate.f k C) (valP C) := by
  unfold whistle_Validate.f valP
  have hj : Ev (fun k => whistle_Validate.j0 k C true) 3 := Ev.step (fun k => by rw [whistle_Validate.j0]) (Ev.ifp rfl (Ev.now _))
  by_cases h1 : C.length < 1
  · rw [if_pos (.inl h1)]
    exact Ev.ifp (by omega) hj
  · refine Ev.ifn (by omega) ?_
    by_cases h2 : 12 < C.length
    · rw [if_pos (.inr h2), decide_eq_true (show (C.length : Int) > 12 by omega)]
      exact hj
    · rw [if_neg (by omega), decide_eq_false (show ¬ (C.length : Int) > 12 by omega)]
      have h0 : Ev (fun k => whistle_Validate.l0 k C C (C.length : Int) 0) (valAt C C.length 0) := val_at C (by omega) hS C.length 0 (by omega)
      exact Ev.step (fun k => by rw [whistle_Validate.j0]) (Ev.ifn (by decide) h0)
theorem rval_in (C : List ByteArray) (hC : C.length ≤ 12) (i : Nat) (hi : i < C.length) (r0 : Int) (hr : Ev (fun k => wigeonref05_Validate.l0 k C ((i + 1 : Nat) : Int)) r0) (d : Nat) : ∀ j, j + d = i → Ev (fun k => wigeonref05_Validate.l1 k C (i : Int) (j : Int)) (if Go.Lib.containsS ((C.take i).drop j) (gt C i) = true then 5 else r0) := by
  induction d with
  | zero =>
    intro j hj
    rw [List.drop_eq_nil_of_le (by rw [List.length_take]; omega), inS_false (by simp), if_neg (by decide)]
    refine Ev.step (fun k => by rw [wigeonref05_Validate.l1]) (Ev.ifn (by omega) ?_)
    rw [w64s (by omega)]
    exact hr
  | succ d ih =>
    intro j hj
    have hg : gt (C.take i) j = gt C j := by
      unfold gt
      rw [List.getD_eq_getElem?_getD, List.getD_eq_getElem?_getD, List.getElem?_take_of_lt (by omega)]
    rw [drop_gt (show j < (C.take i).length by rw [List.length_take]; omega), hg]
    refine Ev.step (fun k => by rw [wigeonref05_Validate.l1, rdOf_gt, rdOf_gt]) (Ev.ifp (by omega) (Ev.ifp (by omega) (Ev.ifp (by omega) (Ev.ifp (by omega) (Ev.ifp (by omega) ?_)))))
    by_cases h : gt C j = gt C i
    · rw [inS_true (by rw [h]; simp), if_pos rfl]
      exact Ev.ifp (str_eq.2 h) (Ev.now _)
    · refine Ev.ifn (fun e => h (str_eq.1 e)) ?_
      rw [w64s (by omega)]
      have := ih (j + 1) (by omega)
      rwa [inS_eq (l := gt C j :: (C.take i).drop (j + 1)) (m := (C.take i).drop (j + 1)) (x := gt C i) (y := gt C i) (by rw [List.mem_cons]; exact ⟨fun e => e.resolve_left (fun e => h e.symm), .inr⟩)]
theorem rval_at (C : List ByteArray) (hC : C.length ≤ 12) (hS : Sized C) (d : Nat) : ∀ i, i + d = C.length → Ev (fun k => wigeonref05_Validate.l0 k C (i : Int)) (valAt C d i) := by
  induction d with
  | zero =>
    intro i hi
    exact Ev.step (fun k => by rw [wigeonref05_Validate.l0]) (Ev.ifn (by omega) (Ev.val (by rfl)))
  | succ d ih =>
    intro i hi
    have hs := hS.gt i
    have hj1 : Ev (fun k => wigeonref05_Validate.j2 k C (i : Int) true) 1 := Ev.step (fun k => by rw [wigeonref05_Validate.j2]) (Ev.ifp rfl (Ev.now _))
    unfold valAt
    refine Ev.step (fun k => by rw [wigeonref05_Validate.l0, rdOf_gt]) (Ev.ifp (by omega) (Ev.ifp (by omega) ?_))
    by_cases h1 : 1 ≤ (gt C i).size
    · refine Ev.ifn (by omega) ?_
      by_cases h2 : (gt C i).size ≤ 12
      · refine Ev.ifn (by omega) (Ev.bind (isNotes_ev _ (by unfold bigC; omega)) ?_)
        have hok : okS (gt C i) = notesP (gt C i) := by unfold okS; rw [decide_eq_true h1, decide_eq_true h2]; rfl
        rw [hok]
        cases hn : notesP (gt C i)
        · rw [if_pos rfl]; exact hj1
        · rw [if_neg (by decide)]
          refine Ev.step (fun k => by rw [wigeonref05_Validate.j2]) (Ev.ifn (by decide) ?_)
          have h0 : Ev (fun k => wigeonref05_Validate.l1 k C (i : Int) 0) (if Go.Lib.containsS ((C.take i).drop 0) (gt C i) = true then 5 else valAt C d (i + 1)) := rval_in C hC i (by omega) _ (ih (i + 1) (by omega)) i 0 (by omega)
          rwa [List.drop_zero] at h0
      · refine Ev.ifp (by omega) ?_
        rw [if_pos (by unfold okS; rw [decide_eq_false h2, Bool.and_false, Bool.false_and])]
        exact hj1
    · refine Ev.ifp (by omega) ?_
      rw [if_pos (by unfold okS; rw [decide_eq_false h1, Bool.false_and, Bool.false_and])]
      exact hj1
theorem rval_ev (C : List ByteArray) (hS : Sized C) : Ev (fun k => wigeonref05_Validate.f k C) (valP C) := by
  unfold wigeonref05_Validate.f valP
  have hj : Ev (fun k => wigeonref05_Validate.j0 k C true) 3 := Ev.step (fun k => by rw [wigeonref05_Validate.j0]) (Ev.ifp rfl (Ev.now _))
  by_cases h1 : C.length < 1
  · rw [if_pos (.inl h1)]
    exact Ev.ifp (by omega) hj
  · refine Ev.ifn (by omega) ?_
    by_cases h2 : 12 < C.length
    · rw [if_pos (.inr h2), decide_eq_true (show (C.length : Int) > 12 by omega)]
      exact hj
    · rw [if_neg (by omega), decide_eq_false (show ¬ (C.length : Int) > 12 by omega)]
      have h0 : Ev (fun k => wigeonref05_Validate.l0 k C 0) (valAt C C.length 0) := rval_at C (by omega) hS C.length 0 (by omega)
      exact Ev.step (fun k => by rw [wigeonref05_Validate.j0]) (Ev.ifn (by decide) h0)
/-- A valid code. -/
structure Valid (C : List ByteArray) : Prop where
  pos : 1 ≤ C.length
  few : C.length ≤ 12
  size1 : ∀ s ∈ C, 1 ≤ s.size
  size12 : ∀ s ∈ C, s.size ≤ 12
  notes : ∀ s ∈ C, notesP s = true
  nodup : C.Nodup
theorem okS_iff {s : ByteArray} : okS s = true ↔ 1 ≤ s.size ∧ s.size ≤ 12 ∧ notesP s = true := by
  unfold okS
  rw [Bool.and_eq_true, Bool.and_eq_true, decide_eq_true_eq, decide_eq_true_eq]
  exact and_assoc
theorem valAt_zero (C : List ByteArray) (d : Nat) : ∀ i, i + d = C.length → (valAt C d i = 0 ↔ (∀ j, i ≤ j → j < C.length → okS (gt C j) = true ∧ gt C j ∉ C.take j)) := by
  induction d with
  | zero => intro i hi; exact ⟨fun _ j h1 h2 => by omega, fun _ => rfl⟩
  | succ d ih =>
    intro i hi
    unfold valAt
    by_cases h1 : okS (gt C i) = false
    · rw [if_pos h1]
      exact ⟨fun h => by omega, fun h => by have := (h i (Nat.le_refl _) (by omega)).1; rw [h1] at this; cases this⟩
    · rw [if_neg h1]
      by_cases h2 : Go.Lib.containsS (C.take i) (gt C i) = true
      · rw [if_pos h2]
        exact ⟨fun h => by omega, fun h => absurd (inS_iff.1 h2) (h i (Nat.le_refl _) (by omega)).2⟩
      · rw [if_neg h2, ih (i + 1) (by omega)]
        constructor
        · intro h j h3 h4
          by_cases e : j = i
          · subst e
            exact ⟨by simpa using h1, fun hm => h2 (inS_iff.2 hm)⟩
          · exact h j (by omega) h4
        · intro h j h3 h4; exact h j (by omega) h4
theorem nodup_take {C : List ByteArray} : C.Nodup ↔ ∀ j, j < C.length → gt C j ∉ C.take j := by
  constructor
  · intro h j hj hm
    obtain ⟨i, hi, e⟩ := List.mem_iff_getElem.1 hm
    rw [List.length_take] at hi
    rw [List.getElem_take] at e
    have hij : i < j := by omega
    have e2 : gt C j = C[j] := by unfold gt; rw [List.getD_eq_getElem?_getD, List.getElem?_eq_getElem hj]; rfl
    rw [e2] at e
    have := (List.getElem_inj h).1 e
    omega
  · intro h
    rw [List.nodup_iff_pairwise_ne, List.pairwise_iff_getElem]
    intro i j hi hj hij e
    refine h j hj ?_
    have e2 : gt C j = C[j] := by unfold gt; rw [List.getD_eq_getElem?_getD, List.getElem?_eq_getElem hj]; rfl
    rw [e2, ← e]
    exact List.mem_iff_getElem.2 ⟨i, by rw [List.length_take]; omega, by rw [List.getElem_take]⟩
theorem valP_zero {C : List ByteArray} : valP C = 0 ↔ Valid C := by
  unfold valP
  by_cases h : C.length < 1 ∨ 12 < C.length
  · rw [if_pos h]
    exact ⟨fun e => by omega, fun v => by have := v.pos; have := v.few; omega⟩
  · rw [if_neg h, valAt_zero C C.length 0 (by omega)]
    constructor
    · intro h2
      have hm : ∀ s ∈ C, okS s = true := fun s hs => by
        obtain ⟨i, hi, rfl⟩ := mem_getD (d := ByteArray.empty) hs
        exact (h2 i (Nat.zero_le _) hi).1
      exact ⟨by omega, by omega, fun s hs => (okS_iff.1 (hm s hs)).1, fun s hs => (okS_iff.1 (hm s hs)).2.1, fun s hs => (okS_iff.1 (hm s hs)).2.2, nodup_take.2 fun j hj => (h2 j (Nat.zero_le _) hj).2⟩
    · intro v j _ hj
      have hm := getD_mem (d := ByteArray.empty) hj
      exact ⟨okS_iff.2 ⟨v.size1 _ hm, v.size12 _ hm, v.notes _ hm⟩, nodup_take.1 v.nodup j hj⟩

/-! The bytes of a text. -/

def bs (s : ByteArray) : List UInt8 := s.data.toList
theorem bs_inj {a b : ByteArray} (h : bs a = bs b) : a = b := by
  rw [← str_eq, ByteArray.toList_eq, ByteArray.toList_eq]; exact h
theorem bs_mk (l : List UInt8) : bs ⟨l.toArray⟩ = l := by unfold bs; simp
theorem bs_len (s : ByteArray) : (bs s).length = s.size := Array.length_toList
theorem headB_iff {y x : ByteArray} : headB y x = true ↔ ∃ t, bs y = bs x ++ t := by
  unfold headB Lib.hasPrefix
  rw [List.isPrefixOf_iff_prefix]
  exact ⟨fun ⟨t, h⟩ => ⟨t, h.symm⟩, fun ⟨t, h⟩ => ⟨t, h.symm⟩⟩
theorem toList_bs (s : ByteArray) : s.toList = bs s := ByteArray.toList_eq s
theorem gt_mem {C : List ByteArray} {i : Nat} (h : i < C.length) : gt C i ∈ C := getD_mem h
theorem mem_gt {C : List ByteArray} {x : ByteArray} (h : x ∈ C) : ∃ i, i < C.length ∧ gt C i = x := mem_getD h
theorem bs_app (a b : ByteArray) : bs (a ++ b) = bs a ++ bs b := by
  unfold bs
  rw [ByteArray.data_append, Array.toList_append]
theorem bs_ext (s : ByteArray) (i j : Nat) : bs (s.extract i j) = ((bs s).take j).drop i := by
  unfold bs
  rw [ByteArray.data_extract, Array.toList_extract, List.extract_eq_take_drop, List.drop_take]

/-! What is left over: the program's and the reference's searches find just that. -/

/-- s is left over of y behind x. -/
def Cut (y x s : ByteArray) : Prop := bs y = bs x ++ bs s ∧ bs s ≠ []
/-! Words. -/
def wds (C : List ByteArray) : List (List UInt8) := C.map bs
theorem mem_wds {C : List ByteArray} {x : List UInt8} : x ∈ wds C ↔ ∃ s, s ∈ C ∧ bs s = x := List.mem_map
def LeftS (C : List ByteArray) (s : ByteArray) : Prop := Left (wds C) (bs s)
theorem LeftS.base {C : List ByteArray} {x y s : ByteArray} (hx : x ∈ C) (hy : y ∈ C) (h : Cut y x s) : LeftS C s := Left.base (mem_wds.2 ⟨x, hx, rfl⟩) (mem_wds.2 ⟨y, hy, rfl⟩) h.1 h.2
/-- A list from which nothing more is left over has all. -/
theorem closed_has {C E : List ByteArray} (h1 : ∀ x ∈ C, ∀ y ∈ C, ∀ s, Cut y x s → s ∈ E) (h2 : ∀ e ∈ E, ∀ x ∈ C, ∀ s, (Cut e x s ∨ Cut x e s) → s ∈ E) {s : ByteArray} (h : LeftS C s) : s ∈ E := by
  have key : ∀ t, Left (wds C) t → (⟨t.toArray⟩ : ByteArray) ∈ E := by
    intro t ht
    induction ht with
    | base hx hy e hne =>
      obtain ⟨x, hx2, rfl⟩ := mem_wds.1 hx
      obtain ⟨y, hy2, rfl⟩ := mem_wds.1 hy
      exact h1 x hx2 y hy2 _ ⟨by rw [bs_mk]; exact e, by rw [bs_mk]; exact hne⟩
    | cut he hx e hne ih =>
      obtain ⟨x, hx2, rfl⟩ := mem_wds.1 hx
      exact h2 _ ih x hx2 _ (.inl ⟨by rw [bs_mk, bs_mk]; exact e, by rw [bs_mk]; exact hne⟩)
    | rest he hx e hne ih =>
      obtain ⟨x, hx2, rfl⟩ := mem_wds.1 hx
      exact h2 _ ih x hx2 _ (.inr ⟨by rw [bs_mk, bs_mk]; exact e, by rw [bs_mk]; exact hne⟩)
  have := key _ h
  rwa [show (⟨(bs s).toArray⟩ : ByteArray) = s from bs_inj (bs_mk _)] at this
/-- How a search stands. -/
structure Found (C : List ByteArray) (o : List ByteArray) (i : Nat) : Prop where
  nodup : o.Nodup
  left : ∀ s ∈ o, LeftS C s
  base : ∀ x ∈ C, ∀ y ∈ C, ∀ s, Cut y x s → s ∈ o
  done : ∀ j, j < i → ∀ x ∈ C, ∀ s, (Cut (gt o j) x s ∨ Cut x (gt o j) s) → s ∈ o
  le : i ≤ o.length
theorem Found.all {C o : List ByteArray} (h : Found C o o.length) {s : ByteArray} : s ∈ o ↔ LeftS C s := by
  refine ⟨h.left s, fun hs => closed_has h.base (fun e he x hx s h2 => ?_) hs⟩
  obtain ⟨j, hj, rfl⟩ := mem_getD (d := ByteArray.empty) he
  exact h.done j hj x hx s h2
/-! No signal begins with another one, by both. -/
def preI (C : List ByteArray) (i j d : Nat) : Bool := (List.range' j d).all fun t => i == t || !headB (gt C i) (gt C t)
def preO (C : List ByteArray) (i d : Nat) : Bool := (List.range' i d).all fun t => preI C t 0 C.length
def preB (C : List ByteArray) : Bool := preO C 0 C.length
def preP (C : List ByteArray) : Bool × Int := if valP C = 0 then (preB C, 0) else (false, valP C)
theorem preI_succ (C : List ByteArray) (i j d : Nat) : preI C i j (d + 1) = ((i == j || !headB (gt C i) (gt C j)) && preI C i (j + 1) d) := by unfold preI; rw [List.range'_succ, List.all_cons]
theorem preO_succ (C : List ByteArray) (i d : Nat) : preO C i (d + 1) = (preI C i 0 C.length && preO C (i + 1) d) := by unfold preO; rw [List.range'_succ, List.all_cons]
theorem pre_in {C : List ByteArray} (hC : C.length ≤ 12) (i : Nat) (hi : i < C.length) (r : Bool) (hr : Ev (fun k => whistle_IsPrefix.l0 k C C (C.length : Int) ((i + 1 : Nat) : Int)) (r, 0)) (d : Nat) : ∀ j, j + d = C.length → Ev (fun k => whistle_IsPrefix.l1 k C (i : Int) (gt C i) C (C.length : Int) (i : Int) C (C.length : Int) (j : Int)) (preI C i j d && r, 0) := by
  induction d with
  | zero =>
    intro j hj
    rw [show preI C i j 0 = true from rfl, Bool.true_and]
    refine Ev.step (fun k => by rw [whistle_IsPrefix.l1]) (Ev.ifn (by omega) ?_)
    rw [w64s (by omega)]
    exact hr
  | succ d ih =>
    intro j hj
    rw [preI_succ]
    refine Ev.step (fun k => by rw [whistle_IsPrefix.l1, rdOf_gt, w64s (show j < 1000000000000000000 by omega)]) (Ev.ifp (by omega) (Ev.ifp (by omega) (Ev.ifp (by omega) ?_)))
    by_cases e : i = j
    · refine Ev.ifp (by omega) ?_
      rw [show (i == j) = true from beq_iff_eq.2 e, Bool.true_or, Bool.true_and]
      exact ih (j + 1) (by omega)
    · refine Ev.ifn (by omega) (Ev.bindc (hasPrefix_eq _ _) ?_)
      rw [show (i == j) = false from beq_eq_false_iff_ne.2 e, Bool.false_or]
      cases h : headB (gt C i) (gt C j)
      · refine Ev.ifn (by decide) ?_
        exact ih (j + 1) (by omega)
      · exact Ev.ifp rfl (Ev.now _)
theorem pre_at {C : List ByteArray} (hC : C.length ≤ 12) (d : Nat) : ∀ i, i + d = C.length → Ev (fun k => whistle_IsPrefix.l0 k C C (C.length : Int) (i : Int)) (preO C i d, 0) := by
  induction d with
  | zero =>
    intro i hi
    exact Ev.step (fun k => by rw [whistle_IsPrefix.l0]) (Ev.ifn (by omega) (Ev.val (by rfl)))
  | succ d ih =>
    intro i hi
    rw [preO_succ]
    refine Ev.step (fun k => by rw [whistle_IsPrefix.l0, rdOf_gt]) (Ev.ifp (by omega) (Ev.ifp (by omega) (Ev.ifp (by omega) ?_)))
    exact pre_in hC i (by omega) _ (ih (i + 1) (by omega)) C.length 0 (by omega)
theorem pre_ev {C : List ByteArray} (hS : Sized C) : Ev (fun k => whistle_IsPrefix.f k C) (preP C) := by
  unfold whistle_IsPrefix.f preP
  refine Ev.bind (val_ev C hS) ?_
  by_cases h : valP C = 0
  · rw [if_pos (show valP C = 0 from h)]
    have h0 : Ev (fun k => whistle_IsPrefix.l0 k C C (C.length : Int) 0) (preO C 0 C.length, 0) := pre_at (valP_zero.1 h).few C.length 0 (by omega)
    exact Ev.ifp h h0
  · rw [if_neg (show ¬ valP C = 0 from h)]; exact Ev.ifn h (Ev.now _)
theorem preB_iff {C : List ByteArray} : preB C = true ↔ ∀ i j, i < C.length → j < C.length → i ≠ j → headB (gt C i) (gt C j) = false := by
  unfold preB preO preI
  rw [List.all_eq_true]
  constructor
  · intro h i j hi hj hij
    have h1 := h i (by rw [List.mem_range'_1]; omega)
    rw [List.all_eq_true] at h1
    have h2 := h1 j (by rw [List.mem_range'_1]; omega)
    rw [show (i == j) = false from beq_eq_false_iff_ne.2 hij, Bool.false_or, Bool.not_eq_true'] at h2
    exact h2
  · intro h i hi
    rw [List.all_eq_true]
    intro j hj
    rw [List.mem_range'_1] at hi hj
    by_cases e : i = j
    · rw [show (i == j) = true from beq_iff_eq.2 e, Bool.true_or]
    · rw [h i j (by omega) (by omega) e]; simp

/-! In how many ways a text can be told apart into signals; both count just that. -/

def wayB (C : List ByteArray) : Nat → List UInt8 → Nat
  | 0, l => if l.isEmpty then 1 else 0
  | k + 1, l => if l.isEmpty then 1 else (C.map fun s => if (bs s).isPrefixOf l then wayB C k (l.drop s.size) else 0).sum
def ways (C : List ByteArray) (l : List UInt8) : Nat := wayB C l.length l
theorem sum_congr {α : Type} {f g : α → Nat} : ∀ {l : List α}, (∀ x ∈ l, f x = g x) → (l.map f).sum = (l.map g).sum
  | [], _ => rfl
  | x :: l, h => by
    rw [List.map_cons, List.map_cons, List.sum_cons, List.sum_cons, h x (List.mem_cons_self ..), sum_congr fun y hy => h y (List.mem_cons_of_mem _ hy)]
theorem sum_le {α : Type} {f g : α → Nat} : ∀ {l : List α}, (∀ x ∈ l, f x ≤ g x) → (l.map f).sum ≤ (l.map g).sum
  | [], _ => Nat.le_refl _
  | x :: l, h => by
    rw [List.map_cons, List.map_cons, List.sum_cons, List.sum_cons]
    exact Nat.add_le_add (h x (List.mem_cons_self ..)) (sum_le fun y hy => h y (List.mem_cons_of_mem _ hy))
theorem sum_filter {α : Type} (p : α → Bool) (f : α → Nat) : ∀ l : List α, (l.map fun x => if p x then f x else 0).sum = ((l.filter p).map f).sum
  | [] => rfl
  | x :: l => by
    rw [List.map_cons, List.sum_cons, sum_filter p f l, List.filter_cons]
    cases p x <;> simp
theorem wayB_same {C : List ByteArray} (hC : ∀ s ∈ C, 1 ≤ s.size) : ∀ (k m : Nat) (l : List UInt8), l.length ≤ k → l.length ≤ m → wayB C k l = wayB C m l
  | k, m, [], _, _ => by cases k <;> cases m <;> rfl
  | k + 1, m + 1, x :: l, h1, h2 => by
    show (C.map _).sum = (C.map _).sum
    refine sum_congr fun s hs => ?_
    have := hC s hs
    rw [wayB_same hC k m ((x :: l).drop s.size) (by rw [List.length_drop]; omega) (by rw [List.length_drop]; omega)]
def term (C : List ByteArray) (l : List UInt8) (s : ByteArray) : Nat := if (bs s).isPrefixOf l then ways C (l.drop s.size) else 0
theorem ways_nil (C : List ByteArray) : ways C [] = 1 := rfl
theorem ways_step {C : List ByteArray} (hC : ∀ s ∈ C, 1 ≤ s.size) {l : List UInt8} (h : l ≠ []) : ways C l = (C.map (term C l)).sum := by
  cases l with
  | nil => exact absurd rfl h
  | cons x l =>
    show (C.map _).sum = _
    refine sum_congr fun s hs => ?_
    have := hC s hs
    unfold term ways
    rw [wayB_same hC l.length ((x :: l).drop s.size).length ((x :: l).drop s.size) (by rw [List.length_drop, List.length_cons]; omega) (Nat.le_refl _)]
theorem pows_lt : ∀ (n : Nat) (J : List Nat), J.Nodup → (∀ j ∈ J, 1 ≤ j ∧ j ≤ n) → (J.map fun j => 2 ^ (n - j)).sum < 2 ^ n
  | 0, J, _, h => by
    cases J with
    | nil => decide
    | cons j J => have := h j (List.mem_cons_self ..); omega
  | n + 1, J, hn, h => by
    have key : ∀ K : List Nat, K.Nodup → (∀ j ∈ K, 1 ≤ j ∧ j ≤ n) → (K.map fun j => 2 ^ (n + 1 - j)).sum + 2 ≤ 2 ^ (n + 1) := fun K h1 h2 => by
      have e : (K.map fun j => 2 ^ (n + 1 - j)).sum = 2 * (K.map fun j => 2 ^ (n - j)).sum := by
        clear h1
        induction K with
        | nil => rfl
        | cons j K ih =>
          have := h2 j (List.mem_cons_self ..)
          rw [List.map_cons, List.map_cons, List.sum_cons, List.sum_cons, ih fun y hy => h2 y (List.mem_cons_of_mem _ hy), Nat.mul_add, show n + 1 - j = (n - j) + 1 by omega, Nat.pow_succ, Nat.mul_comm (2 ^ (n - j)) 2]
      have := pows_lt n K h1 h2
      rw [e, Nat.pow_succ]; omega
    by_cases hm : n + 1 ∈ J
    · have hp := List.perm_cons_erase hm
      rw [(hp.map _).sum_nat, List.map_cons, List.sum_cons, Nat.sub_self, Nat.pow_zero]
      have := key (J.erase (n + 1)) (hn.erase _) fun j hj => by
        have h1 := h j (List.mem_of_mem_erase hj)
        have h2 : j ≠ n + 1 := (hn.mem_erase_iff.1 hj).1
        omega
      omega
    · have := key J hn fun j hj => by
        have h1 := h j hj
        have h2 : j ≠ n + 1 := fun e => hm (e ▸ hj)
        omega
      omega
theorem pref_take {x l : List UInt8} (h : x.isPrefixOf l = true) : x = l.take x.length := by
  obtain ⟨t, rfl⟩ := List.isPrefixOf_iff_prefix.1 h
  rw [List.take_left]
theorem pref_len {x l : List UInt8} (h : x.isPrefixOf l = true) : x.length ≤ l.length := (List.isPrefixOf_iff_prefix.1 h).length_le
theorem terms_le {C : List ByteArray} (v : Valid C) (l : List UInt8) (hl : l ≠ []) (ih : ∀ l' : List UInt8, l'.length < l.length → ways C l' ≤ 2 ^ l'.length) : (C.map (term C l)).sum ≤ 2 ^ l.length := by
  have h1 : (C.map (term C l)).sum ≤ (C.map fun s => if (bs s).isPrefixOf l then 2 ^ (l.length - s.size) else 0).sum := sum_le fun s hs => by
    unfold term
    by_cases h : (bs s).isPrefixOf l = true
    · rw [if_pos h, if_pos h]
      have := v.size1 s hs
      have h2 : 0 < l.length := List.length_pos_iff.2 hl
      have := ih (l.drop s.size) (by rw [List.length_drop]; omega)
      rwa [List.length_drop] at this
    · rw [if_neg h, if_neg h]; exact Nat.le_refl _
  refine Nat.le_trans h1 ?_
  rw [sum_filter (fun s => (bs s).isPrefixOf l) (fun s => 2 ^ (l.length - s.size))]
  have e : ((C.filter fun s => (bs s).isPrefixOf l).map fun s => 2 ^ (l.length - s.size)) = (((C.filter fun s => (bs s).isPrefixOf l).map ByteArray.size).map fun j => 2 ^ (l.length - j)) := by rw [List.map_map]; rfl
  rw [e]
  refine Nat.le_of_lt (pows_lt _ _ ?_ fun j hj => ?_)
  · refine List.nodup_iff_pairwise_ne.2 (List.pairwise_map.2 ?_)
    refine List.Pairwise.imp_of_mem (R := (· ≠ ·)) (fun {a b} ha hb h hs => h ?_) (List.nodup_iff_pairwise_ne.1 (v.nodup.filter _))
    have pa := pref_take (List.mem_filter.1 ha).2
    have pb := pref_take (List.mem_filter.1 hb).2
    rw [bs_len] at pa pb
    exact bs_inj (by rw [pa, pb, hs])
  · obtain ⟨s, hs, rfl⟩ := List.mem_map.1 hj
    have hs2 := List.mem_filter.1 hs
    have := pref_len hs2.2
    rw [bs_len] at this
    exact ⟨v.size1 s hs2.1, this⟩
theorem ways_le {C : List ByteArray} (v : Valid C) : ∀ (n : Nat) (l : List UInt8), l.length = n → ways C l ≤ 2 ^ n := by
  intro n
  induction n using Nat.strongRecOn with
  | _ n ih =>
    intro l hl
    by_cases h : l = []
    · subst h; subst hl; exact Nat.le_refl _
    · rw [ways_step v.size1 h, ← hl]
      exact terms_le v l h fun l' hl' => ih _ (by omega) l' rfl
theorem hd_eq (t s : ByteArray) (p : Nat) : headB (t.extract p t.size) s = (bs s).isPrefixOf ((bs t).drop p) := by
  show (bs s).isPrefixOf (bs (t.extract p t.size)) = _
  rw [bs_ext, List.take_of_length_le (by rw [bs_len]; exact Nat.le_refl _)]
/-- In how many ways the text from p on can be told apart. -/
def wayT (C : List ByteArray) (t : ByteArray) (p : Nat) : Nat := ways C ((bs t).drop p)
def partW (C : List ByteArray) (t : ByteArray) (p i : Nat) : Nat := ((C.take i).map (term C ((bs t).drop p))).sum
theorem partW_all {C : List ByteArray} (v : Valid C) (t : ByteArray) {p : Nat} (hp : p < t.size) : partW C t p C.length = wayT C t p := by
  unfold partW wayT
  rw [List.take_length, ways_step v.size1]
  intro h
  have := congrArg List.length h
  rw [List.length_drop, bs_len, List.length_nil] at this
  omega
theorem partW_succ {C : List ByteArray} (t : ByteArray) (p : Nat) {i : Nat} (hi : i < C.length) : partW C t p (i + 1) = partW C t p i + (if headB (t.extract p t.size) (gt C i) = true then wayT C t (p + (gt C i).size) else 0) := by
  unfold partW
  rw [List.take_add_one, List.getElem?_eq_getElem hi, List.map_append, List.sum_append]
  congr 1
  have e : C[i] = gt C i := by unfold gt; rw [List.getD_eq_getElem?_getD, List.getElem?_eq_getElem hi]; rfl
  show (List.map _ [C[i]]).sum = _
  rw [e, List.map_cons, List.map_nil, List.sum_cons, List.sum_nil, Nat.add_zero, hd_eq]
  unfold term wayT
  rw [List.drop_drop]
theorem wayT_le {C : List ByteArray} (v : Valid C) (t : ByteArray) (ht : t.size ≤ 60) (p : Nat) : wayT C t p ≤ 1152921504606846976 := by
  have := ways_le v _ ((bs t).drop p) rfl
  refine Nat.le_trans this (Nat.le_trans (Nat.pow_le_pow_right (by decide) (show _ ≤ 60 by rw [List.length_drop, bs_len]; omega)) (by decide))
theorem sum_take {α : Type} (f : α → Nat) (C : List α) (i : Nat) : ((C.take i).map f).sum ≤ (C.map f).sum := by
  conv => rhs; rw [← List.take_append_drop i C]
  rw [List.map_append, List.sum_append]; omega
theorem partW_le {C : List ByteArray} (v : Valid C) (t : ByteArray) (ht : t.size ≤ 60) {p : Nat} (hp : p < t.size) (i : Nat) : partW C t p i ≤ 1152921504606846976 := by
  refine Nat.le_trans ?_ (wayT_le v t ht p)
  rw [← partW_all v t hp]
  unfold partW
  rw [List.take_length]
  exact sum_take _ C i
/-- The counts, from i on. -/
def fullW (C : List ByteArray) (t : ByteArray) (i : Nat) : List Int := (List.range (t.size + 1)).map fun j => if j < i then 0 else ((wayT C t j : Nat) : Int)
theorem fullW_len (C : List ByteArray) (t : ByteArray) (i : Nat) : (fullW C t i).length = t.size + 1 := by unfold fullW; simp
theorem fullW_rd (C : List ByteArray) (t : ByteArray) (i j : Nat) (hj : j ≤ t.size) : rd (fullW C t i) (j : Int) = if j < i then 0 else ((wayT C t j : Nat) : Int) := by
  rw [rd_nat]
  unfold fullW
  rw [List.getD_eq_getElem?_getD, List.getElem?_map, List.getElem?_range (by omega)]; rfl
theorem rd_set (L : List Int) (i j : Nat) (x : Int) (h : i < L.length) : rd (L.set i x) (j : Int) = if i = j then x else rd L (j : Int) := by
  rw [rd_nat, rd_nat, List.getD_eq_getElem?_getD, List.getD_eq_getElem?_getD, List.getElem?_set]
  by_cases e : i = j
  · rw [if_pos e, if_pos e, if_pos h]; rfl
  · rw [if_neg e, if_neg e]
theorem fullW_get (C : List ByteArray) (t : ByteArray) (i j : Nat) (h : j < (fullW C t i).length) : (fullW C t i)[j] = if j < i then 0 else ((wayT C t j : Nat) : Int) := by
  have e := fullW_rd C t i j (by rw [fullW_len] at h; omega)
  rw [rd_nat, List.getD_eq_getElem?_getD, List.getElem?_eq_getElem h] at e
  exact e
theorem fullW_set (C : List ByteArray) (t : ByteArray) (i : Nat) (hi : i ≤ t.size) : (fullW C t (i + 1)).set i ((wayT C t i : Nat) : Int) = fullW C t i := by
  refine List.ext_getElem (by rw [List.length_set, fullW_len, fullW_len]) fun j h1 h2 => ?_
  rw [List.getElem_set, fullW_get, fullW_get]
  by_cases e : i = j
  · subst e; rw [if_pos rfl, if_neg (by omega)]
  · rw [if_neg e]
    by_cases h : j < i
    · rw [if_pos (by omega), if_pos h]
    · rw [if_neg (by omega), if_neg h]
theorem fullW_zero (C : List ByteArray) (t : ByteArray) (i : Nat) (hi : i ≤ t.size) : (fullW C t (i + 1)).set i 0 = fullW C t (i + 1) := by
  refine List.ext_getElem (by rw [List.length_set]) fun j h1 h2 => ?_
  rw [List.getElem_set, fullW_get]
  by_cases e : i = j
  · subst e; rw [if_pos rfl, if_pos (by omega)]
  · rw [if_neg e]
theorem hd_fits {t s : ByteArray} {p : Nat} (hp : p ≤ t.size) (h : headB (t.extract p t.size) s = true) : p + s.size ≤ t.size := by
  rw [hd_eq] at h
  have := pref_len h
  rw [List.length_drop, bs_len, bs_len] at this
  omega

/-! Which texts may be heard, and their counts, by both. -/

def textP (C : List ByteArray) (t : ByteArray) : Int := if valP C = 0 then (if 60 < t.size then 3 else if notesP t = true then 0 else 1) else valP C
theorem textP_bad {C : List ByteArray} {t : ByteArray} (hv : valP C ≠ 0) : textP C t = valP C := if_neg hv
theorem textP_long {C : List ByteArray} {t : ByteArray} (hv : valP C = 0) (h : 60 < t.size) : textP C t = 3 := by unfold textP; rw [if_pos hv, if_pos h]
theorem textP_ok {C : List ByteArray} {t : ByteArray} (hv : valP C = 0) (h : ¬ 60 < t.size) (hn : notesP t = true) : textP C t = 0 := by unfold textP; rw [if_pos hv, if_neg h, if_pos hn]
theorem textP_no {C : List ByteArray} {t : ByteArray} (hv : valP C = 0) (h : ¬ 60 < t.size) (hn : ¬ notesP t = true) : textP C t = 1 := by unfold textP; rw [if_pos hv, if_neg h, if_neg hn]
theorem heard_ev {C : List ByteArray} (hS : Sized C) (t : ByteArray) (ht : t.size ≤ 140737488351232) : Ev (fun k => whistle_heard.f k C t) (textP C t) := by
  unfold whistle_heard.f
  refine Ev.bind (val_ev C hS) ?_
  by_cases hv : valP C = 0
  · refine Ev.ifp hv ?_
    by_cases h : 60 < t.size
    · rw [textP_long hv h]
      exact Ev.ifp (show (t.size : Int) > 60 by omega) (Ev.val (by rfl))
    · rw [notes_eq ht]
      refine Ev.ifn (show ¬ (t.size : Int) > 60 by omega) (Ev.some_bind ?_)
      by_cases hn : notesP t = true
      · rw [textP_ok hv h hn]; exact Ev.ifp hn (Ev.val (by rfl))
      · rw [textP_no hv h hn]; exact Ev.ifn hn (Ev.val (by rfl))
  · rw [textP_bad hv]
    exact Ev.ifn hv (Ev.val (by rfl))
theorem rtext_ev {C : List ByteArray} (hS : Sized C) (t : ByteArray) (ht : t.size ≤ 140737488351232) : Ev (fun k => wigeonref05_textOK.f k C t) (textP C t) := by
  unfold wigeonref05_textOK.f
  refine Ev.bind (rval_ev C hS) ?_
  by_cases hv : valP C = 0
  · refine Ev.ifp hv ?_
    by_cases h : 60 < t.size
    · rw [textP_long hv h]
      exact Ev.ifp (show (t.size : Int) > 60 by omega) (Ev.val (by rfl))
    · refine Ev.ifn (show ¬ (t.size : Int) > 60 by omega) (Ev.bind (isNotes_ev t (by unfold bigC; omega)) ?_)
      by_cases hn : notesP t = true
      · rw [textP_ok hv h hn]; exact Ev.ifp hn (Ev.val (by rfl))
      · rw [textP_no hv h hn]; exact Ev.ifn hn (Ev.val (by rfl))
  · rw [textP_bad hv]
    exact Ev.ifn hv (Ev.val (by rfl))
structure TextOk (C : List ByteArray) (t : ByteArray) : Prop where
  valid : Valid C
  few : t.size ≤ 60
  notes : notesP t = true
theorem textP_zero {C : List ByteArray} {t : ByteArray} : textP C t = 0 ↔ TextOk C t := by
  unfold textP
  by_cases hv : valP C = 0
  · rw [if_pos hv]
    by_cases h : 60 < t.size
    · rw [if_pos h]
      exact ⟨fun e => absurd e (by decide), fun x => absurd x.few (by omega)⟩
    · rw [if_neg h]
      by_cases hn : notesP t = true
      · rw [if_pos hn]; exact ⟨fun _ => ⟨valP_zero.1 hv, by omega, hn⟩, fun _ => rfl⟩
      · rw [if_neg hn]; exact ⟨fun e => absurd e (by decide), fun x => absurd x.notes hn⟩
  · rw [if_neg hv]
    exact ⟨fun e => absurd e hv, fun x => absurd (valP_zero.2 x.valid) hv⟩
theorem cell_step {C : List ByteArray} {t : ByteArray} (o : TextOk C t) {i j : Nat} (hi : i < t.size) (hj : j < C.length) (h : headB (t.extract i t.size) (gt C j) = true) :
    ((fullW C t (i + 1)).set i ((partW C t i j : Nat) : Int)).set i (wrap64 (rd ((fullW C t (i + 1)).set i ((partW C t i j : Nat) : Int)) (i : Int) + rd ((fullW C t (i + 1)).set i ((partW C t i j : Nat) : Int)) ((i + (gt C j).size : Nat) : Int))) = (fullW C t (i + 1)).set i ((partW C t i (j + 1) : Nat) : Int) := by
  have h1 := o.valid.size1 _ (gt_mem hj)
  have hf := hd_fits (by omega) h
  have hp := partW_le o.valid t o.few hi j
  have hp1 := partW_le o.valid t o.few hi (j + 1)
  have hs := partW_succ (C := C) t i hj
  rw [if_pos h] at hs
  have hL := fullW_len C t (i + 1)
  rw [rd_set _ _ _ _ (by omega), if_pos rfl, rd_set _ _ _ _ (by omega), if_neg (by omega), fullW_rd _ _ _ _ hf, if_neg (by omega), List.set_set, ← Int.natCast_add, ← hs, w64 (by omega) (by omega)]
theorem count_in {C : List ByteArray} {t : ByteArray} (o : TextOk C t) (i : Nat) (hi : i < t.size) (r : List Int) (hr : Ev (fun k => whistle_counts.l0 k C t (fullW C t i) ((i : Int) - 1)) r) (d : Nat) : ∀ j, j + d = C.length →
    Ev (fun k => whistle_counts.l1 k C t ((fullW C t (i + 1)).set i ((partW C t i j : Nat) : Int)) (i : Int) C (C.length : Int) (j : Int)) r := by
  have hC := o.valid.few
  have ht := o.few
  induction d with
  | zero =>
    intro j hj
    obtain rfl : j = C.length := by omega
    rw [partW_all o.valid t hi, fullW_set C t i (by omega)]
    exact Ev.step (fun k => by rw [whistle_counts.l1, w64 (a := (i : Int) - 1) (by omega) (by omega)]) (Ev.ifn (by omega) hr)
  | succ d ih =>
    intro j hj
    have hw := w64s (show j < 1000000000000000000 by omega)
    have e1 : ((i : Int)).toNat = i := Int.toNat_natCast i
    have hlen : ((fullW C t (i + 1)).set i ((partW C t i j : Nat) : Int)).length = t.size + 1 := by rw [List.length_set, fullW_len]
    refine Ev.step (fun k => by rw [whistle_counts.l1, rdOf_gt, hw, e1, hasPrefix_eq]) (Ev.ifp (by omega) (Ev.ifp (by omega) (Ev.ifp (by omega) (Ev.ifp (by omega) (Ev.ifp (by omega) (Ev.some_bind ?_))))))
    by_cases h : headB (t.extract i t.size) (gt C j) = true
    · have hf := hd_fits (by omega) h
      have hq : wrap64 ((i : Int) + ((gt C j).size : Int)) = ((i + (gt C j).size : Nat) : Int) := by rw [w64 (by omega) (by omega)]; omega
      rw [hq, cell_step o hi (by omega) h]
      refine Ev.ifp h ?_
      refine Ev.ifp (show (i : Int) < (((fullW C t (i + 1)).set i ((partW C t i j : Nat) : Int)).length : Int) by omega) (Ev.ifp (by omega) ?_)
      refine Ev.ifp (show ((i + (gt C j).size : Nat) : Int) < (((fullW C t (i + 1)).set i ((partW C t i j : Nat) : Int)).length : Int) by omega) ?_
      exact ih (j + 1) (by omega)
    · have hs := partW_succ (C := C) t i (show j < C.length by omega)
      rw [if_neg h, Nat.add_zero] at hs
      have := ih (j + 1) (by omega)
      rw [hs] at this
      exact Ev.ifn h this
theorem count_out {C : List ByteArray} {t : ByteArray} (o : TextOk C t) : ∀ i, i ≤ t.size → Ev (fun k => whistle_counts.l0 k C t (fullW C t i) ((i : Int) - 1)) (fullW C t 0)
  | 0, _ => Ev.step (fun k => by rw [whistle_counts.l0]) (Ev.ifn (by omega) (Ev.val (by rfl)))
  | i + 1, hi => by
    have := count_in o i (by omega) _ (count_out o i (by omega)) C.length 0 (by omega)
    have e0 : ((partW C t i 0 : Nat) : Int) = 0 := rfl
    rw [e0, fullW_zero C t i (by omega)] at this
    have e : ((i + 1 : Nat) : Int) - 1 = (i : Int) := by omega
    rw [e]
    refine Ev.step (fun k => by rw [whistle_counts.l0]) (Ev.ifp (show (i : Int) ≥ 0 by omega) ?_)
    exact this
theorem start_full (C : List ByteArray) (t : ByteArray) : (List.replicate (t.size + 1) (0 : Int)).set t.size 1 = fullW C t t.size := by
  refine List.ext_getElem (by rw [List.length_set, List.length_replicate, fullW_len]) fun j h1 h2 => ?_
  rw [List.getElem_set, fullW_get]
  by_cases e : t.size = j
  · subst e
    rw [if_pos rfl, if_neg (by omega)]
    have : wayT C t t.size = 1 := by
      unfold wayT
      rw [List.drop_eq_nil_of_le (by rw [bs_len]; exact Nat.le_refl _), ways_nil]
    rw [this]; rfl
  · have hj : j < t.size + 1 := by rw [fullW_len] at h2; exact h2
    rw [if_neg e, if_pos (by omega), List.getElem_replicate]
theorem counts_ev {C : List ByteArray} {t : ByteArray} (o : TextOk C t) : Ev (fun k => whistle_counts.f k C t) (fullW C t 0) := by
  have ht := o.few
  unfold whistle_counts.f
  have e : wrap64 ((t.size : Int) + 1) = ((t.size + 1 : Nat) : Int) := w64s (by omega)
  have e2 : ((t.size : Int)).toNat = t.size := Int.toNat_natCast _
  rw [e, Int.toNat_natCast, e2]
  refine Ev.ifp (by omega) (Ev.ifp (by omega) (Ev.some_bind (Ev.ifp (by omega) (Ev.ifp (by rw [List.length_replicate]; omega) ?_))))
  rw [start_full C t, w64 (by omega) (by omega)]
  exact count_out o t.size (Nat.le_refl _)
def heardP (C : List ByteArray) (t : ByteArray) : Int × Int := if textP C t = 0 then (((wayT C t 0 : Nat) : Int), 0) else (0, textP C t)
theorem full0 (C : List ByteArray) (t : ByteArray) : rd (fullW C t 0) 0 = ((wayT C t 0 : Nat) : Int) := by
  have := fullW_rd C t 0 0 (Nat.zero_le _)
  rw [if_neg (by omega)] at this
  exact this
theorem heardP_ok {C : List ByteArray} {t : ByteArray} (h : textP C t = 0) : heardP C t = (((wayT C t 0 : Nat) : Int), 0) := if_pos h
theorem heardP_no {C : List ByteArray} {t : ByteArray} (h : textP C t ≠ 0) : heardP C t = (0, textP C t) := if_neg h
theorem Heard_ev {C : List ByteArray} (hS : Sized C) (t : ByteArray) (ht : t.size ≤ 140737488351232) : Ev (fun k => whistle_Heard.f k C t) (heardP C t) := by
  unfold whistle_Heard.f
  refine Ev.bind (heard_ev hS t ht) ?_
  by_cases h : textP C t = 0
  · rw [heardP_ok h]
    refine Ev.ifp h (Ev.bind (counts_ev (textP_zero.1 h)) (Ev.ifp ?_ (Ev.val ?_)))
    · rw [fullW_len]; omega
    · rw [full0]
  · rw [heardP_no h]
    exact Ev.ifn h (Ev.val (by rfl))

/-! The first signal that the text begins with, again and again, by both. -/

theorem sum_single {α : Type} (f : α → Nat) (dd : α) : ∀ (C : List α) (i : Nat), i < C.length → (∀ j, j < C.length → j ≠ i → f (C.getD j dd) = 0) → (C.map f).sum = f (C.getD i dd)
  | x :: C, 0, _, h => by
    have : ∀ D : List α, (∀ j, j < D.length → f (D.getD j dd) = 0) → (D.map f).sum = 0 := fun D => by
      induction D with
      | nil => intro _; rfl
      | cons y D ih =>
        intro h
        have h0 : f y = 0 := h 0 (by simp)
        rw [List.map_cons, List.sum_cons, h0, ih fun j hj => h (j + 1) (by simpa using hj)]
    rw [List.map_cons, List.sum_cons, this C fun j hj => h (j + 1) (by simpa using hj) (by omega)]
    rfl
  | x :: C, i + 1, hi, h => by
    have h0 : f x = 0 := h 0 (by simp) (by omega)
    rw [List.map_cons, List.sum_cons, h0, Nat.zero_add, sum_single f dd C i (by simpa using hi) fun j hj hne => h (j + 1) (by simpa using hj) (by omega)]
    rfl
def restT (t s : ByteArray) : ByteArray := t.extract s.size t.size
theorem bs_rest (t s : ByteArray) : bs (restT t s) = (bs t).drop s.size := by
  unfold restT
  rw [bs_ext, List.take_of_length_le (by rw [bs_len]; exact Nat.le_refl _)]
theorem rest_split {t s : ByteArray} (h : headB t s = true) : bs s ++ bs (restT t s) = bs t := by
  obtain ⟨u, e⟩ := headB_iff.1 h
  rw [bs_rest, e, ← bs_len, List.drop_left]
theorem rest_size {t s : ByteArray} (h : headB t s = true) : (restT t s).size + s.size = t.size := by
  have := congrArg List.length (rest_split h)
  rw [List.length_append, bs_len, bs_len, bs_len] at this
  omega
theorem rcmd_scan (C : List ByteArray) (hC : C.length ≤ 12) (t : ByteArray) (o : List ByteArray) (r : List ByteArray × ByteArray × Int) (m : Nat) (hm : m ≤ C.length) (hr : Ev (fun k => wigeonref05_Commands.l1 k C t o false (m : Int)) r) (d : Nat) : ∀ j, j + d = m → (∀ x, j ≤ x → x < m → headB t (gt C x) = false) → Ev (fun k => wigeonref05_Commands.l1 k C t o false (j : Int)) r := by
  induction d with
  | zero => intro j hj _; obtain rfl : j = m := by omega
            exact hr
  | succ d ih =>
    intro j hj hn
    have hh := hn j (Nat.le_refl _) (by omega)
    refine Ev.step (fun k => by rw [wigeonref05_Commands.l1]) (Ev.ifp (by omega) ?_)
    refine Ev.step (fun k => by rw [wigeonref05_Commands.j2, rdOf_gt, begins_eq, w64s (show j < 1000000000000000000 by omega)]) (Ev.ifp (show (!false) = true from rfl) (Ev.ifp (by omega) (Ev.ifp (by omega) (Ev.some_bind ?_))))
    rw [hh]
    exact Ev.ifn (by decide) (ih (j + 1) (by omega) fun x a b => hn x (by omega) b)
theorem rcmd_again (C : List ByteArray) (t : ByteArray) (o : List ByteArray) (j : Int) (r : List ByteArray × ByteArray × Int) (hr : Ev (fun k => wigeonref05_Commands.l0 k C t o true) r) : Ev (fun k => wigeonref05_Commands.l1 k C t o true j) r := by
  by_cases h : j < (C.length : Int)
  · exact Ev.step (fun k => by rw [wigeonref05_Commands.l1]) (Ev.ifp h (Ev.step (fun k => by rw [wigeonref05_Commands.j2]) (Ev.ifn (by decide) hr)))
  · exact Ev.step (fun k => by rw [wigeonref05_Commands.l1]) (Ev.ifn h (Ev.step (fun k => by rw [wigeonref05_Commands.j2]) (Ev.ifn (by decide) hr)))
theorem ways_one {C : List ByteArray} (v : Valid C) (hp : preB C = true) {t : ByteArray} {i : Nat} (hi : i < C.length) (h : headB t (gt C i) = true) : ways C (bs t) = ways C (bs (restT t (gt C i))) := by
  have h1 := v.size1 _ (gt_mem hi)
  have hne : bs t ≠ [] := fun e => by
    have := headB_size h
    rw [← bs_len t, e, List.length_nil] at this
    omega
  rw [ways_step v.size1 hne, sum_single (term C (bs t)) ByteArray.empty C i hi fun j hj hji => ?_]
  · show term C (bs t) (gt C i) = _
    unfold term
    rw [if_pos (show (bs (gt C i)).isPrefixOf (bs t) = true from h), bs_rest]
  · show term C (bs t) (gt C j) = 0
    unfold term
    refine if_neg fun hh => ?_
    have hh : headB t (gt C j) = true := hh
    obtain ⟨u, eu⟩ := headB_iff.1 h
    obtain ⟨w, ew⟩ := headB_iff.1 hh
    rcases append_cases (eu.symm.trans ew) with ⟨x, e1, _⟩ | ⟨x, e1, _⟩
    · have := preB_iff.1 hp j i hj hi hji
      rw [headB_iff.2 ⟨x, e1⟩] at this; cases this
    · have := preB_iff.1 hp i j hi hj (Ne.symm hji)
      rw [headB_iff.2 ⟨x, e1⟩] at this; cases this
theorem ways_stop {C : List ByteArray} (v : Valid C) {r : ByteArray} (h : ∀ j, j < C.length → headB r (gt C j) = false) : ways C (bs r) = if bs r = [] then 1 else 0 := by
  by_cases e : bs r = []
  · rw [if_pos e, e, ways_nil]
  · have hz : ∀ s ∈ C, term C (bs r) s = 0 := fun s hs => by
      obtain ⟨j, hj, rfl⟩ := mem_gt hs
      exact if_neg fun hh => by
        have hh : headB r (gt C j) = true := hh
        rw [h j hj] at hh; cases hh
    rw [if_neg e, ways_step v.size1 e, sum_congr hz]
    have : ∀ D : List ByteArray, (D.map fun _ => 0).sum = 0 := fun D => by
      induction D with
      | nil => rfl
      | cons y D ih => rw [List.map_cons, List.sum_cons, ih]
    exact this C
structure Told (C : List ByteArray) (t : ByteArray) (q : List ByteArray) (r : ByteArray) : Prop where
  whole : (q.map bs).flatten ++ bs r = bs t
  few : q.length ≤ t.size
  stop : ∀ j, j < C.length → headB r (gt C j) = false
  ways : preB C = true → ways C (bs t) = ways C (bs r)
theorem cmd_run {C : List ByteArray} (v : Valid C) : ∀ (n : Nat) (t : ByteArray) (o : List ByteArray), t.size = n → o.length + t.size ≤ 60 →
    ∃ q r, Ev (fun k => cmdF C k t o) (o ++ q, r) ∧ Ev (fun k => wigeonref05_Commands.l0 k C t o true) (o ++ q, r, 0) ∧ Told C t q r := by
  have hC := v.few
  intro n
  induction n using Nat.strongRecOn with
  | _ n ih =>
    intro t o hn ho
    rcases firstI_cases C (headB t) with ⟨e, hno⟩ | ⟨i, hi, e, ht, hno⟩
    · refine ⟨[], t, ?_, ?_, ⟨rfl, Nat.zero_le _, hno, fun _ => rfl⟩⟩
      · rw [List.append_nil]
        refine Ev.step (fun k => by rw [cmdF]) (Ev.ifp (by omega) ?_)
        rw [e]
        exact Ev.ifp (by decide) (Ev.val (by rfl))
      · rw [List.append_nil]
        refine Ev.step (fun k => by rw [wigeonref05_Commands.l0]) (Ev.ifp rfl ?_)
        refine rcmd_scan C hC t o _ C.length (Nat.le_refl _) ?_ C.length 0 (by omega) fun x _ hx => hno x hx
        refine Ev.step (fun k => by rw [wigeonref05_Commands.l1]) (Ev.ifn (by omega) ?_)
        refine Ev.step (fun k => by rw [wigeonref05_Commands.j2]) (Ev.ifn (by decide) ?_)
        exact Ev.step (fun k => by rw [wigeonref05_Commands.l0]) (Ev.ifn (by decide) (Ev.val (by rfl)))
    · have ht : headB t (gt C i) = true := ht
      have h1 := v.size1 _ (gt_mem hi)
      have hsz := rest_size ht
      obtain ⟨q, r, e1, e2, w⟩ := ih (restT t (gt C i)).size (by omega) (restT t (gt C i)) (o ++ [gt C i]) rfl (by rw [List.length_append]; simp; omega)
      have hass : o ++ (gt C i :: q) = o ++ [gt C i] ++ q := by simp
      refine ⟨gt C i :: q, r, ?_, ?_, ⟨?_, ?_, w.stop, fun hp => ?_⟩⟩
      · rw [hass]
        refine Ev.step (fun k => by rw [cmdF]) (Ev.ifp (by omega) ?_)
        rw [e, Int.toNat_natCast]
        exact Ev.ifn (by omega) e1
      · rw [hass]
        refine Ev.step (fun k => by rw [wigeonref05_Commands.l0]) (Ev.ifp rfl ?_)
        refine rcmd_scan C hC t o _ i (by omega) ?_ i 0 (by omega) fun x _ hx => hno x hx
        refine Ev.step (fun k => by rw [wigeonref05_Commands.l1]) (Ev.ifp (by omega) ?_)
        refine Ev.step (fun k => by rw [wigeonref05_Commands.j2, rdOf_gt, begins_eq, Int.toNat_natCast]) (Ev.ifp (show (!false) = true from rfl) (Ev.ifp (by omega) (Ev.ifp (by omega) (Ev.some_bind ?_))))
        rw [ht]
        exact Ev.ifp rfl (Ev.ifp (by omega) (Ev.ifp (by omega) (Ev.ifp (by omega) (rcmd_again C _ _ _ _ e2))))
      · rw [List.map_cons, List.flatten_cons, List.append_assoc, w.whole]
        exact rest_split ht
      · have := w.few
        rw [List.length_cons]; omega
      · rw [ways_one v hp hi ht]; exact w.ways hp
/-- Commands, by both. -/
theorem commands_both {C : List ByteArray} {t : ByteArray} (hS : Sized C) (o : TextOk C t) : ∃ q r, Ev (fun k => whistle_Commands.f k C t) (q, r, 0) ∧ Ev (fun k => wigeonref05_Commands.f k C t) (q, r, 0) ∧ Told C t q r := by
  have hx := textP_zero.2 o
  have ht := o.few
  have hC := o.valid.few
  have hp := o.valid.pos
  obtain ⟨q, r, e1, e2, w⟩ := cmd_run o.valid t.size t [] rfl (by simpa using ht)
  rw [List.nil_append] at e1 e2
  refine ⟨q, r, ?_, ?_, w⟩
  · unfold whistle_Commands.f
    refine Ev.bind (heard_ev hS t (by omega)) ?_
    rw [hx]
    exact Ev.ifn (by decide) (Ev.ifp (by omega) (Ev.bind e1 (Ev.val (by rfl))))
  · unfold wigeonref05_Commands.f
    refine Ev.bind (rtext_ev hS t (by omega)) ?_
    rw [hx]
    exact Ev.ifp rfl e2
theorem commands_none {C : List ByteArray} {t : ByteArray} (hS : Sized C) (ht : t.size ≤ 140737488351232) (h : textP C t ≠ 0) : Ev (fun k => whistle_Commands.f k C t) ([], ⟨#[]⟩, textP C t) ∧ Ev (fun k => wigeonref05_Commands.f k C t) ([], ⟨#[]⟩, textP C t) := by
  constructor
  · unfold whistle_Commands.f
    exact Ev.bind (heard_ev hS t ht) (Ev.ifp h (Ev.val (by rfl)))
  · unfold wigeonref05_Commands.f
    exact Ev.bind (rtext_ev hS t ht) (Ev.ifn h (Ev.val (by rfl)))

end Go.Proofs.Ytpkafcoflgbnaaa.Pure
