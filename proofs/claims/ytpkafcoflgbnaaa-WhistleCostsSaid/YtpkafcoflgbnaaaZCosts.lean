-- What the plain law WhistleCosts needs, out of the Libs of this seat.
import Derived.Test.YtpkafcoflgbnaaaQx2
import Derived.Test.YtpkafcoflgbnaaaQx10
import Derived.Test.YtpkafcoflgbnaaaQx11
import Derived.Test.YtpkafcoflgbnaaaQx17
import Derived.Test.YtpkafcoflgbnaaaQx29
import Derived.Test.YtpkafcoflgbnaaaQx31
import Derived.Test.YtpkafcoflgbnaaaQx33
import Derived.Test.YtpkafcoflgbnaaaWh1
import Derived.Test.YtpkafcoflgbnaaaWh4
import Derived.Test.YtpkafcoflgbnaaaLibSP
import Derived.Sort.LotA
import Derived.Sort.Walk0
import Derived.Test.YtpkafcoflgbnaaaLibMc
import Derived.Test.YtpkafcoflgbnaaaWh5
import Derived.Test.YtpkafcoflgbnaaaWh6
import Derived.Test.YtpkafcoflgbnaaaWhP1
namespace Go.Proofs.Ytpkafcoflgbnaaa.Pure
open Go.RowKit Go.Proofs.Ytpkafcoflgbnaaa.Q Go.Proofs.YtpkafcoflgbnaaaW.PrintWords Go.Proofs.YtpkafcoflgbnaaaW.PrintLast
open Go.RowKit Go.Proofs.Ytpkafcoflgbnaaa.Q Go.Proofs.YtpkafcoflgbnaaaW.PrintWords Go.Proofs.YtpkafcoflgbnaaaW.PrintLast Go.Proofs.YtpkafcoflgbnaaaW.PrintMore
set_option linter.unusedVariables false


/-! Rounds; texts and lists; which codes and messages are valid. -/

theorem Ev.ifp {α : Type} {c : Prop} [Decidable c] {f g : Nat → Option α} {r : α} (h : c) (k : Ev f r) : Ev (fun n => if c then f n else g n) r := by
  obtain ⟨K, k⟩ := k
  exact ⟨K, fun n hn => by show (if c then f n else g n) = some r; rw [if_pos h]; exact k n hn⟩
theorem Ev.ifn {α : Type} {c : Prop} [Decidable c] {f g : Nat → Option α} {r : α} (h : ¬ c) (k : Ev g r) : Ev (fun n => if c then f n else g n) r := by
  obtain ⟨K, k⟩ := k
  exact ⟨K, fun n hn => by show (if c then f n else g n) = some r; rw [if_neg h]; exact k n hn⟩
theorem Ev.some_bind {α β : Type} {f : Nat → α → Option β} {a : α} {r : β} (k : Ev (fun n => f n a) r) : Ev (fun n => (some a).bind (f n)) r := k
theorem Ev.bindc {α β : Type} {g : Option α} {f : Nat → α → Option β} {a : α} {r : β} (h : g = some a) (k : Ev (fun n => f n a) r) : Ev (fun n => g.bind (f n)) r := by
  subst h
  exact k
theorem Ev.val {α : Type} {a r : α} (h : a = r) : Ev (fun _ => some a) r := by
  subst h
  exact Ev.now _
theorem w64 {a : Int} (h0 : -9223372036854775808 ≤ a) (h1 : a < 9223372036854775808) : wrap64 a = a := by unfold wrap64; omega
theorem w64s {i : Nat} (h : i < 1000000000000000000) : wrap64 ((i : Int) + 1) = ((i + 1 : Nat) : Int) := by rw [w64 (by omega) (by omega)]; omega
theorem rdOf_nat {α : Type} (d : α) (C : List α) (i : Nat) : rdOf d C (i : Int) = C.getD i d := by unfold rdOf; rw [Int.toNat_natCast]
theorem rd_nat (l : List Int) (i : Nat) : rd l (i : Int) = l.getD i 0 := by unfold rd; rw [Int.toNat_natCast]
theorem str_eq {a b : ByteArray} : a.toList = b.toList ↔ a = b := by
  rw [ByteArray.toList_eq, ByteArray.toList_eq]
  constructor
  · intro h
    cases a; cases b
    simp only [Array.toList_inj] at h
    rw [h]
  · intro h; rw [h]
theorem getD_mem {α : Type} {C : List α} {i : Nat} {d : α} (h : i < C.length) : C.getD i d ∈ C := by
  rw [List.getD_eq_getElem?_getD, List.getElem?_eq_getElem h]; exact List.getElem_mem h
theorem mem_getD {α : Type} {C : List α} {x d : α} (h : x ∈ C) : ∃ i, i < C.length ∧ C.getD i d = x := by
  obtain ⟨i, hi, rfl⟩ := List.mem_iff_getElem.1 h
  exact ⟨i, hi, by rw [List.getD_eq_getElem?_getD, List.getElem?_eq_getElem hi]; rfl⟩

/-! Lists of texts: long, the same, what is in them; which texts begin with which. -/

def gt (C : List ByteArray) (i : Nat) : ByteArray := C.getD i ByteArray.empty
theorem rdOf_gt (C : List ByteArray) (i : Nat) : rdOf ByteArray.empty C (i : Int) = gt C i := rdOf_nat _ _ _
theorem drop_gt {C : List ByteArray} {i : Nat} (h : i < C.length) : C.drop i = gt C i :: C.drop (i + 1) := by
  rw [List.drop_eq_getElem_cons h]
  congr 1
  unfold gt
  rw [List.getD_eq_getElem?_getD, List.getElem?_eq_getElem h]; rfl
theorem drop_rd {l : List Int} {i : Nat} (h : i < l.length) : l.drop i = rd l (i : Int) :: l.drop (i + 1) := by
  rw [List.drop_eq_getElem_cons h, rd_nat]
  congr 1
  rw [List.getD_eq_getElem?_getD, List.getElem?_eq_getElem h]; rfl
def bigC : Nat := 1000000000000000000
def longP (C : List ByteArray) : Bool := C.any (fun s => decide (100 < s.size)) || decide (60 < C.length)
theorem long_at (C : List ByteArray) (hC : C.length < bigC) (d : Nat) : ∀ i, i + d = C.length → Ev (fun k => wigeonlaw05_Long.l0 k C (i : Int)) ((C.drop i).any (fun s => decide (100 < s.size)) || decide (60 < C.length)) := by
  unfold bigC at hC
  induction d with
  | zero =>
    intro i hi
    rw [List.drop_eq_nil_of_le (by omega)]
    refine Ev.step (fun k => by rw [wigeonlaw05_Long.l0]) (Ev.ifn (by omega) (Ev.val ?_))
    rw [List.any_nil, Bool.false_or]
    exact decide_eq_decide.2 (by omega)
  | succ d ih =>
    intro i hi
    rw [drop_gt (by omega), List.any_cons]
    refine Ev.step (fun k => by rw [wigeonlaw05_Long.l0, rdOf_gt]) (Ev.ifp (by omega) (Ev.ifp (by omega) ?_))
    by_cases h : 100 < (gt C i).size
    · exact Ev.ifp (by omega) (Ev.val (by rw [decide_eq_true h]; rfl))
    · refine Ev.ifn (by omega) ?_
      rw [decide_eq_false h, Bool.false_or, w64s (by omega)]
      exact ih (i + 1) (by omega)
theorem long_ev (C : List ByteArray) (hC : C.length < bigC) : Ev (fun k => wigeonlaw05_Long.f k C) (longP C) := by
  have := long_at C hC C.length 0 (by omega)
  rw [List.drop_zero] at this
  exact this
theorem inS_iff {l : List ByteArray} {x : ByteArray} : Go.Lib.containsS l x = true ↔ x ∈ l := Go.Lib.containsS_iff l x
theorem inS_eq {l m : List ByteArray} {x y : ByteArray} (h : x ∈ l ↔ y ∈ m) : Go.Lib.containsS l x = Go.Lib.containsS m y := by rw [Bool.eq_iff_iff, inS_iff, inS_iff]; exact h
theorem inS_true {l : List ByteArray} {x : ByteArray} (h : x ∈ l) : Go.Lib.containsS l x = true := inS_iff.2 h
theorem inS_false {l : List ByteArray} {x : ByteArray} (h : x ∉ l) : Go.Lib.containsS l x = false := by rw [Bool.eq_false_iff]; exact fun e => h (inS_iff.1 e)
theorem index_at (l : List ByteArray) (x : ByteArray) (hl : l.length < bigC) (d : Nat) : ∀ i, i + d = l.length → ∃ r, Ev (fun k => slices_Index_string_string.l0 k l x (l.length : Int) (i : Int)) r ∧ (0 ≤ r ↔ x ∈ l.drop i) := by
  unfold bigC at hl
  induction d with
  | zero =>
    intro i hi
    refine ⟨-1, Ev.step (fun k => by rw [slices_Index_string_string.l0]) (Ev.ifn (by omega) (Ev.now _)), ?_⟩
    rw [List.drop_eq_nil_of_le (by omega)]; simp
  | succ d ih =>
    intro i hi
    rw [drop_gt (show i < l.length by omega)]
    by_cases h : x = gt l i
    · refine ⟨(i : Int), Ev.step (fun k => by rw [slices_Index_string_string.l0, rdOf_gt]) (Ev.ifp (by omega) (Ev.ifp (by omega) (Ev.ifp (by omega) (Ev.ifp (str_eq.2 h) (Ev.now _))))), ?_⟩
      simp [h]
    · obtain ⟨r, h1, h2⟩ := ih (i + 1) (by omega)
      refine ⟨r, Ev.step (fun k => by rw [slices_Index_string_string.l0, rdOf_gt]) (Ev.ifp (by omega) (Ev.ifp (by omega) (Ev.ifp (by omega) (Ev.ifn (fun e => h (str_eq.1 e)) (by rw [w64s (by omega)]; exact h1))))), ?_⟩
      rw [h2]; simp [h]
theorem contains_ev (l : List ByteArray) (x : ByteArray) (hl : l.length < bigC) : Ev (fun k => slices_Contains_string_string.f k l x) (Go.Lib.containsS l x) := by
  unfold slices_Contains_string_string.f slices_Index_string_string.f
  obtain ⟨r, h1, h2⟩ := index_at l x hl l.length 0 (by omega)
  rw [List.drop_zero] at h2
  refine Ev.bind h1 (Ev.val ?_)
  rw [Bool.eq_iff_iff, inS_iff, decide_eq_true_eq]
  exact h2

/-! What the document gives; which codes are valid, by the program and by the reference. -/

theorem mem_sortS {o : List ByteArray} {x : ByteArray} : x ∈ sortS o ↔ x ∈ o := by
  unfold sortS
  rw [List.mem_map]
  constructor
  · rintro ⟨b, hb, rfl⟩
    rw [List.mem_mergeSort, List.mem_map] at hb
    obtain ⟨y, hy, rfl⟩ := hb
    exact hy
  · intro h
    exact ⟨x.data.toList, by rw [List.mem_mergeSort, List.mem_map]; exact ⟨x, h, rfl⟩, rfl⟩
theorem known1 : whistle_FromLengths.f 30 [2, 1, 2] = some ([⟨#[45, 46]⟩, ⟨#[46]⟩, ⟨#[45, 45]⟩], 0) := by decide +kernel
theorem known2v : whistle_Validate.f 30 [⟨#[46]⟩, ⟨#[46, 45]⟩] = some 0 := by decide +kernel
theorem known3v : whistle_Validate.f 30 [⟨#[46]⟩, ⟨#[46, 45]⟩, ⟨#[45, 46]⟩] = some 0 := by decide +kernel
theorem known2e : goB [⟨#[46]⟩, ⟨#[46, 45]⟩] 30 (outA [⟨#[46]⟩, ⟨#[46, 45]⟩] 2) 0 = some [⟨#[45]⟩] := by decide +kernel
theorem known3e : goB [⟨#[46]⟩, ⟨#[46, 45]⟩, ⟨#[45, 46]⟩] 30 (outA [⟨#[46]⟩, ⟨#[46, 45]⟩, ⟨#[45, 46]⟩] 3) 0 = some [⟨#[45]⟩, ⟨#[46]⟩] := by decide +kernel
theorem safe_of {k : Nat} {C o : List ByteArray} (hv : whistle_Validate.f k C = some 0) (hC : C.length ≤ 100) (ho : goB C k (outA C C.length) 0 = some o) : whistle_IsSafe.f k C = some (!(C.any (Go.Lib.containsS o)), 0) := by
  unfold whistle_IsSafe.f endsL
  rw [hv, if_pos hC, ho]
  show some (!(C.any (Go.Lib.containsS (sortS o))), (0 : Int)) = _
  congr 3
  rw [Bool.eq_iff_iff, List.any_eq_true, List.any_eq_true]
  exact ⟨fun ⟨x, h1, h2⟩ => ⟨x, h1, inS_iff.2 (mem_sortS.1 (inS_iff.1 h2))⟩, fun ⟨x, h1, h2⟩ => ⟨x, h1, inS_iff.2 (mem_sortS.2 (inS_iff.1 h2))⟩⟩
theorem known_ev : Ev (fun k => wigeonlaw05_known.f k) true := by
  refine Ev.of (k := 30) (fun k => wigeonlaw05_known.mono k) ?_
  unfold wigeonlaw05_known.f
  rw [known1, safe_of known2v (by decide) known2e, safe_of known3v (by decide) known3e]
  decide +kernel
theorem known_bind {r : Bool} (h : r = true) : Ev (fun k => (wigeonlaw05_known.f k).bind fun t => some t) r := by
  subst h
  exact Ev.bind known_ev (Ev.now _)
/-! Notes. -/
def noteB (b : UInt8) : Bool := b == 46 || b == 45
theorem noteB_iff {b : UInt8} : noteB b = true ↔ b = 46 ∨ b = 45 := by unfold noteB; simp
theorem bt_nat {s : ByteArray} {i : Nat} (h : i < s.data.toList.length) : bt s (i : Int) = ((s.data.toList[i].toNat : Nat) : Int) := by
  have h2 : i < s.size := by rwa [Array.length_toList] at h
  exact w_bt_of h2
theorem noteW_byte (b : UInt8) : noteW ((b.toNat : Nat) : Int) = noteB b := by
  rw [Bool.eq_iff_iff, noteB_iff]
  unfold noteW
  rw [Bool.or_eq_true, decide_eq_true_eq, decide_eq_true_eq]
  constructor
  · rintro (h | h)
    · exact .inl (UInt8.toNat_inj.1 (by show b.toNat = 46; omega))
    · exact .inr (UInt8.toNat_inj.1 (by show b.toNat = 45; omega))
  · rintro (rfl | rfl)
    · exact .inl rfl
    · exact .inr rfl
theorem notesP_list (s : ByteArray) : notesP s = s.data.toList.all noteB := by
  unfold notesP
  rw [Bool.eq_iff_iff, List.all_eq_true, List.all_eq_true]
  constructor
  · intro h b hb
    obtain ⟨i, hi, rfl⟩ := List.mem_iff_getElem.1 hb
    have := h i (List.mem_range.2 (by rwa [Array.length_toList] at hi))
    rwa [bt_nat hi, noteW_byte] at this
  · intro h i hi
    have hi := List.mem_range.1 hi
    have hi2 : i < s.data.toList.length := by rwa [Array.length_toList]
    rw [bt_nat hi2, noteW_byte]
    exact h _ (List.getElem_mem hi2)
theorem notes_eq {s : ByteArray} (h : s.size ≤ 140737488351232) : whistle_notes.f s = some (notesP s) := by unfold whistle_notes.f; rw [if_pos (by omega)]
theorem isNotes_at (s : ByteArray) (hs : s.size < bigC) (d : Nat) : ∀ i, i + d = s.size → Ev (fun k => wigeonref05_isNotes.l0 k s (i : Int)) ((s.data.toList.drop i).all noteB) := by
  unfold bigC at hs
  have hlen : s.data.toList.length = s.size := Array.length_toList
  induction d with
  | zero =>
    intro i hi
    rw [List.drop_eq_nil_of_le (by omega)]
    exact Ev.step (fun k => by rw [wigeonref05_isNotes.l0]) (Ev.ifn (by omega) (Ev.val (by rfl)))
  | succ d ih =>
    intro i hi
    have h2 : i < s.data.toList.length := by omega
    rw [List.drop_eq_getElem_cons h2, List.all_cons]
    refine Ev.step (fun k => by rw [wigeonref05_isNotes.l0]) (Ev.ifp (by omega) (Ev.ifp (by omega) ?_))
    rw [bt_nat h2]
    have hn := noteW_byte s.data.toList[i]
    generalize s.data.toList[i] = b at *
    unfold noteW at hn
    by_cases h : ((b.toNat : Nat) : Int) = 46
    · refine Ev.ifp h ?_
      rw [decide_eq_true h] at hn
      rw [← hn, Bool.true_or, Bool.true_and, w64s (by omega)]
      exact ih (i + 1) (by omega)
    · refine Ev.ifn h ?_
      rw [decide_eq_false h, Bool.false_or] at hn
      by_cases h5 : ((b.toNat : Nat) : Int) = 45
      · refine Ev.ifp h5 ?_
        rw [decide_eq_true h5] at hn
        rw [← hn, Bool.true_and, w64s (by omega)]
        exact ih (i + 1) (by omega)
      · refine Ev.ifn h5 (Ev.val ?_)
        rw [decide_eq_false h5] at hn
        rw [← hn, Bool.false_and]
theorem isNotes_ev (s : ByteArray) (hs : s.size < bigC) : Ev (fun k => wigeonref05_isNotes.f k s) (notesP s) := by
  have := isNotes_at s hs s.size 0 (by omega)
  rw [List.drop_zero, ← notesP_list] at this
  exact this
/-! Validate. -/
def okS (s : ByteArray) : Bool := decide (1 ≤ s.size) && decide (s.size ≤ 12) && notesP s
def valAt (C : List ByteArray) : Nat → Nat → Int
  | 0, _ => 0
  | d + 1, i => if okS (gt C i) = false then 1 else if Go.Lib.containsS (C.take i) (gt C i) = true then 5 else valAt C d (i + 1)
def valP (C : List ByteArray) : Int := if C.length < 1 ∨ 12 < C.length then 3 else valAt C C.length 0
def Sized (C : List ByteArray) : Prop := ∀ s ∈ C, s.size ≤ 140737488351232
theorem Sized.gt {C : List ByteArray} (h : Sized C) (i : Nat) : (gt C i).size ≤ 140737488351232 := by
  by_cases hi : i < C.length
  · exact h _ (getD_mem hi)
  · unfold Pure.gt
    rw [List.getD_eq_getElem?_getD, List.getElem?_eq_none (by omega)]
    decide
theorem val_at (C : List ByteArray) (hC : C.length ≤ 12) (hS : Sized C) (d : Nat) : ∀ i, i + d = C.length → Ev (fun k => whistle_Validate.l0 k C C (C.length : Int) (i : Int)) (valAt C d i) := by
  induction d with
  | zero =>
    intro i hi
    exact Ev.step (fun k => by rw [whistle_Validate.l0]) (Ev.ifn (by omega) (Ev.val (by rfl)))
  | succ d ih =>
    intro i hi
    have hs := hS.gt i
    have hj1 : ∀ v : ByteArray, Ev (fun k => whistle_Validate.j2 k C (i : Int) v C (C.length : Int) (i : Int) true) 1 := fun v => Ev.step (fun k => by rw [whistle_Validate.j2]) (Ev.ifp rfl (Ev.now _))
    unfold valAt
    refine Ev.step (fun k => by rw [whistle_Validate.l0, rdOf_gt]) (Ev.ifp (by omega) (Ev.ifp (by omega) (Ev.ifp (by omega) ?_)))
    by_cases h1 : 1 ≤ (gt C i).size
    · refine Ev.ifn (by omega) ?_
      by_cases h2 : (gt C i).size ≤ 12
      · refine Ev.ifn (by omega) (Ev.bindc (notes_eq hs) ?_)
        have hok : okS (gt C i) = notesP (gt C i) := by unfold okS; rw [decide_eq_true h1, decide_eq_true h2]; rfl
        rw [hok]
        cases hn : notesP (gt C i)
        · rw [if_pos rfl]; exact hj1 _
        · rw [if_neg (by decide)]
          refine Ev.step (fun k => by rw [whistle_Validate.j2]) (Ev.ifn (by decide) (Ev.ifp (by omega) (Ev.ifp (by omega) ?_)))
          rw [Int.toNat_natCast]
          refine Ev.bind (contains_ev (C.take i) (gt C i) (by rw [List.length_take]; unfold bigC; omega)) ?_
          by_cases hc : Go.Lib.containsS (C.take i) (gt C i) = true
          · rw [if_pos hc]
            exact Ev.ifp hc (Ev.now _)
          · rw [if_neg hc]
            refine Ev.ifn hc ?_
            rw [w64s (by omega)]
            exact ih (i + 1) (by omega)
      · refine Ev.ifp (by omega) ?_
        rw [if_pos (by unfold okS; rw [decide_eq_false h2, Bool.and_false, Bool.false_and])]
        exact hj1 _
    · refine Ev.ifp (by omega) ?_
      rw [if_pos (by unfold okS; rw [decide_eq_false h1, Bool.false_and, Bool.false_and])]
      exact hj1 _
theorem val_ev (C : List ByteArray) (hS : Sized C) : Ev (fun k => whistle_Validate.f k C) (valP C) := by
  unfold whistle_Validate.f valP
  have hj : Ev (fun k => whistle_Validate.j0 k C true) 3 := Ev.step (fun k => by rw [whistle_Validate.j0]) (Ev.ifp rfl (Ev.now _))
  by_cases h1 : C.length < 1
  · rw [if_pos (.inl h1)]
    exact Ev.ifp (by omega) hj
  · refine Ev.ifn (by omega) ?_
    by_cases h2 : 12 < C.length
    · rw [if_pos (.inr h2), decide_eq_true (show (C.length : Int) > 12 by omega)]
      exact hj
    · rw [if_neg (by omega), decide_eq_false (show ¬ (C.length : Int) > 12 by omega)]
      have h0 : Ev (fun k => whistle_Validate.l0 k C C (C.length : Int) 0) (valAt C C.length 0) := val_at C (by omega) hS C.length 0 (by omega)
      exact Ev.step (fun k => by rw [whistle_Validate.j0]) (Ev.ifn (by decide) h0)
theorem rval_in (C : List ByteArray) (hC : C.length ≤ 12) (i : Nat) (hi : i < C.length) (r0 : Int) (hr : Ev (fun k => wigeonref05_Validate.l0 k C ((i + 1 : Nat) : Int)) r0) (d : Nat) : ∀ j, j + d = i → Ev (fun k => wigeonref05_Validate.l1 k C (i : Int) (j : Int)) (if Go.Lib.containsS ((C.take i).drop j) (gt C i) = true then 5 else r0) := by
  induction d with
  | zero =>
    intro j hj
    rw [List.drop_eq_nil_of_le (by rw [List.length_take]; omega), inS_false (by simp), if_neg (by decide)]
    refine Ev.step (fun k => by rw [wigeonref05_Validate.l1]) (Ev.ifn (by omega) ?_)
    rw [w64s (by omega)]
    exact hr
  | succ d ih =>
    intro j hj
    have hg : gt (C.take i) j = gt C j := by
      unfold gt
      rw [List.getD_eq_getElem?_getD, List.getD_eq_getElem?_getD, List.getElem?_take_of_lt (by omega)]
    rw [drop_gt (show j < (C.take i).length by rw [List.length_take]; omega), hg]
    refine Ev.step (fun k => by rw [wigeonref05_Validate.l1, rdOf_gt, rdOf_gt]) (Ev.ifp (by omega) (Ev.ifp (by omega) (Ev.ifp (by omega) (Ev.ifp (by omega) (Ev.ifp (by omega) ?_)))))
    by_cases h : gt C j = gt C i
    · rw [inS_true (by rw [h]; simp), if_pos rfl]
      exact Ev.ifp (str_eq.2 h) (Ev.now _)
    · refine Ev.ifn (fun e => h (str_eq.1 e)) ?_
      rw [w64s (by omega)]
      have := ih (j + 1) (by omega)
      rwa [inS_eq (l := gt C j :: (C.take i).drop (j + 1)) (m := (C.take i).drop (j + 1)) (x := gt C i) (y := gt C i) (by rw [List.mem_cons]; exact ⟨fun e => e.resolve_left (fun e => h e.symm), .inr⟩)]
theorem rval_at (C : List ByteArray) (hC : C.length ≤ 12) (hS : Sized C) (d : Nat) : ∀ i, i + d = C.length → Ev (fun k => wigeonref05_Validate.l0 k C (i : Int)) (valAt C d i) := by
  induction d with
  | zero =>
    intro i hi
    exact Ev.step (fun k => by rw [wigeonref05_Validate.l0]) (Ev.ifn (by omega) (Ev.val (by rfl)))
  | succ d ih =>
    intro i hi
    have hs := hS.gt i
    have hj1 : Ev (fun k => wigeonref05_Validate.j2 k C (i : Int) true) 1 := Ev.step (fun k => by rw [wigeonref05_Validate.j2]) (Ev.ifp rfl (Ev.now _))
    unfold valAt
    refine Ev.step (fun k => by rw [wigeonref05_Validate.l0, rdOf_gt]) (Ev.ifp (by omega) (Ev.ifp (by omega) ?_))
    by_cases h1 : 1 ≤ (gt C i).size
    · refine Ev.ifn (by omega) ?_
      by_cases h2 : (gt C i).size ≤ 12
      · refine Ev.ifn (by omega) (Ev.bind (isNotes_ev _ (by unfold bigC; omega)) ?_)
        have hok : okS (gt C i) = notesP (gt C i) := by unfold okS; rw [decide_eq_true h1, decide_eq_true h2]; rfl
        rw [hok]
        cases hn : notesP (gt C i)
        · rw [if_pos rfl]; exact hj1
        · rw [if_neg (by decide)]
          refine Ev.step (fun k => by rw [wigeonref05_Validate.j2]) (Ev.ifn (by decide) ?_)
          have h0 : Ev (fun k => wigeonref05_Validate.l1 k C (i : Int) 0) (if Go.Lib.containsS ((C.take i).drop 0) (gt C i) = true then 5 else valAt C d (i + 1)) := rval_in C hC i (by omega) _ (ih (i + 1) (by omega)) i 0 (by omega)
          rwa [List.drop_zero] at h0
      · refine Ev.ifp (by omega) ?_
        rw [if_pos (by unfold okS; rw [decide_eq_false h2, Bool.and_false, Bool.false_and])]
        exact hj1
    · refine Ev.ifp (by omega) ?_
      rw [if_pos (by unfold okS; rw [decide_eq_false h1, Bool.false_and, Bool.false_and])]
      exact hj1
theorem rval_ev (C : List ByteArray) (hS : Sized C) : Ev (fun k => wigeonref05_Validate.f k C) (valP C) := by
  unfold wigeonref05_Validate.f valP
  have hj : Ev (fun k => wigeonref05_Validate.j0 k C true) 3 := Ev.step (fun k => by rw [wigeonref05_Validate.j0]) (Ev.ifp rfl (Ev.now _))
  by_cases h1 : C.length < 1
  · rw [if_pos (.inl h1)]
    exact Ev.ifp (by omega) hj
  · refine Ev.ifn (by omega) ?_
    by_cases h2 : 12 < C.length
    · rw [if_pos (.inr h2), decide_eq_true (show (C.length : Int) > 12 by omega)]
      exact hj
    · rw [if_neg (by omega), decide_eq_false (show ¬ (C.length : Int) > 12 by omega)]
      have h0 : Ev (fun k => wigeonref05_Validate.l0 k C 0) (valAt C C.length 0) := rval_at C (by omega) hS C.length 0 (by omega)
      exact Ev.step (fun k => by rw [wigeonref05_Validate.j0]) (Ev.ifn (by decide) h0)
/-- A valid code. -/
structure Valid (C : List ByteArray) : Prop where
  pos : 1 ≤ C.length
  few : C.length ≤ 12
  size1 : ∀ s ∈ C, 1 ≤ s.size
  size12 : ∀ s ∈ C, s.size ≤ 12
  notes : ∀ s ∈ C, notesP s = true
  nodup : C.Nodup
theorem okS_iff {s : ByteArray} : okS s = true ↔ 1 ≤ s.size ∧ s.size ≤ 12 ∧ notesP s = true := by
  unfold okS
  rw [Bool.and_eq_true, Bool.and_eq_true, decide_eq_true_eq, decide_eq_true_eq]
  exact and_assoc
theorem valAt_zero (C : List ByteArray) (d : Nat) : ∀ i, i + d = C.length → (valAt C d i = 0 ↔ (∀ j, i ≤ j → j < C.length → okS (gt C j) = true ∧ gt C j ∉ C.take j)) := by
  induction d with
  | zero => intro i hi; exact ⟨fun _ j h1 h2 => by omega, fun _ => rfl⟩
  | succ d ih =>
    intro i hi
    unfold valAt
    by_cases h1 : okS (gt C i) = false
    · rw [if_pos h1]
      exact ⟨fun h => by omega, fun h => by have := (h i (Nat.le_refl _) (by omega)).1; rw [h1] at this; cases this⟩
    · rw [if_neg h1]
      by_cases h2 : Go.Lib.containsS (C.take i) (gt C i) = true
      · rw [if_pos h2]
        exact ⟨fun h => by omega, fun h => absurd (inS_iff.1 h2) (h i (Nat.le_refl _) (by omega)).2⟩
      · rw [if_neg h2, ih (i + 1) (by omega)]
        constructor
        · intro h j h3 h4
          by_cases e : j = i
          · subst e
            exact ⟨by simpa using h1, fun hm => h2 (inS_iff.2 hm)⟩
          · exact h j (by omega) h4
        · intro h j h3 h4; exact h j (by omega) h4
theorem nodup_take {C : List ByteArray} : C.Nodup ↔ ∀ j, j < C.length → gt C j ∉ C.take j := by
  constructor
  · intro h j hj hm
    obtain ⟨i, hi, e⟩ := List.mem_iff_getElem.1 hm
    rw [List.length_take] at hi
    rw [List.getElem_take] at e
    have hij : i < j := by omega
    have e2 : gt C j = C[j] := by unfold gt; rw [List.getD_eq_getElem?_getD, List.getElem?_eq_getElem hj]; rfl
    rw [e2] at e
    have := (List.getElem_inj h).1 e
    omega
  · intro h
    rw [List.nodup_iff_pairwise_ne, List.pairwise_iff_getElem]
    intro i j hi hj hij e
    refine h j hj ?_
    have e2 : gt C j = C[j] := by unfold gt; rw [List.getD_eq_getElem?_getD, List.getElem?_eq_getElem hj]; rfl
    rw [e2, ← e]
    exact List.mem_iff_getElem.2 ⟨i, by rw [List.length_take]; omega, by rw [List.getElem_take]⟩
theorem valP_zero {C : List ByteArray} : valP C = 0 ↔ Valid C := by
  unfold valP
  by_cases h : C.length < 1 ∨ 12 < C.length
  · rw [if_pos h]
    exact ⟨fun e => by omega, fun v => by have := v.pos; have := v.few; omega⟩
  · rw [if_neg h, valAt_zero C C.length 0 (by omega)]
    constructor
    · intro h2
      have hm : ∀ s ∈ C, okS s = true := fun s hs => by
        obtain ⟨i, hi, rfl⟩ := mem_getD (d := ByteArray.empty) hs
        exact (h2 i (Nat.zero_le _) hi).1
      exact ⟨by omega, by omega, fun s hs => (okS_iff.1 (hm s hs)).1, fun s hs => (okS_iff.1 (hm s hs)).2.1, fun s hs => (okS_iff.1 (hm s hs)).2.2, nodup_take.2 fun j hj => (h2 j (Nat.zero_le _) hj).2⟩
    · intro v j _ hj
      have hm := getD_mem (d := ByteArray.empty) hj
      exact ⟨okS_iff.2 ⟨v.size1 _ hm, v.size12 _ hm, v.notes _ hm⟩, nodup_take.1 v.nodup j hj⟩

/-! The bytes of a text. -/

def bs (s : ByteArray) : List UInt8 := s.data.toList
theorem bs_inj {a b : ByteArray} (h : bs a = bs b) : a = b := by
  rw [← str_eq, ByteArray.toList_eq, ByteArray.toList_eq]; exact h
theorem bs_mk (l : List UInt8) : bs ⟨l.toArray⟩ = l := by unfold bs; simp
theorem bs_len (s : ByteArray) : (bs s).length = s.size := Array.length_toList
theorem headB_iff {y x : ByteArray} : headB y x = true ↔ ∃ t, bs y = bs x ++ t := by
  unfold headB Lib.hasPrefix
  rw [List.isPrefixOf_iff_prefix]
  exact ⟨fun ⟨t, h⟩ => ⟨t, h.symm⟩, fun ⟨t, h⟩ => ⟨t, h.symm⟩⟩
theorem toList_bs (s : ByteArray) : s.toList = bs s := ByteArray.toList_eq s
theorem gt_mem {C : List ByteArray} {i : Nat} (h : i < C.length) : gt C i ∈ C := getD_mem h
theorem mem_gt {C : List ByteArray} {x : ByteArray} (h : x ∈ C) : ∃ i, i < C.length ∧ gt C i = x := mem_getD h

/-! What is left over: the program's and the reference's searches find just that. -/

/-- s is left over of y behind x. -/
def Cut (y x s : ByteArray) : Prop := bs y = bs x ++ bs s ∧ bs s ≠ []
theorem restB_of {y x : ByteArray} {t : List UInt8} (h : bs y = bs x ++ t) : bs (restB y x) = t := by
  have hh := headB_iff.2 ⟨t, h⟩
  unfold restB
  rw [bs_mk]
  unfold Lib.trimPrefix
  unfold headB at hh
  rw [hh, if_pos rfl]
  show (bs y).drop (bs x).length = t
  rw [h, List.drop_left]
theorem addB_iff {o : List ByteArray} {t : ByteArray} {b : Bool} : addB o t b = true ↔ b = true ∧ bs t ≠ [] ∧ t ∉ o := by
  unfold addB
  rw [Bool.and_eq_true, Bool.and_eq_true, toList_bs, Bool.not_eq_true', Bool.not_eq_true', List.isEmpty_eq_false_iff, Bool.eq_false_iff]
  constructor
  · rintro ⟨⟨h1, h2⟩, h3⟩; exact ⟨h1, h2, fun h => h3 (inS_iff.2 h)⟩
  · rintro ⟨h1, h2, h3⟩; exact ⟨⟨h1, h2⟩, fun h => h3 (inS_iff.1 h)⟩
theorem mem_addO {o : List ByteArray} {t s : ByteArray} {b : Bool} : s ∈ addO o t b ↔ s ∈ o ∨ (b = true ∧ bs t ≠ [] ∧ s = t) := by
  unfold addO
  by_cases h : addB o t b = true
  · rw [if_pos h, List.mem_append, List.mem_singleton]
    have h2 := addB_iff.1 h
    exact ⟨fun e => e.imp id (fun e => ⟨h2.1, h2.2.1, e⟩), fun e => e.imp id (fun e => e.2.2)⟩
  · rw [if_neg h]
    refine ⟨.inl, fun e => e.elim id ?_⟩
    rintro ⟨h1, h2, rfl⟩
    apply Classical.byContradiction
    intro hn
    exact h (addB_iff.2 ⟨h1, h2, hn⟩)
theorem addO_nodup {o : List ByteArray} {t : ByteArray} {b : Bool} (h : o.Nodup) : (addO o t b).Nodup := by
  unfold addO
  by_cases hb : addB o t b = true
  · rw [if_pos hb]
    have h2 := (addB_iff.1 hb).2.2
    refine List.nodup_append.2 ⟨h, by simp, fun a ha c hc e => ?_⟩
    rw [List.mem_singleton] at hc
    subst hc; subst e; exact h2 ha
  · rw [if_neg hb]; exact h
theorem mem_cutO {o : List ByteArray} {y x s : ByteArray} : s ∈ cutO o y x ↔ s ∈ o ∨ Cut y x s := by
  unfold cutO
  rw [mem_addO]
  constructor
  · rintro (h | ⟨h1, h2, rfl⟩)
    · exact .inl h
    · obtain ⟨t, ht⟩ := headB_iff.1 h1
      refine .inr ⟨?_, h2⟩
      rw [restB_of ht]; exact ht
  · rintro (h | ⟨h1, h2⟩)
    · exact .inl h
    · have := restB_of h1
      exact .inr ⟨headB_iff.2 ⟨_, h1⟩, by rw [this]; exact h2, bs_inj this.symm⟩
theorem cutO_nodup {o : List ByteArray} {y x : ByteArray} (h : o.Nodup) : (cutO o y x).Nodup := addO_nodup h
theorem mem_inA {C : List ByteArray} {x s : ByteArray} {o : List ByteArray} : ∀ {j}, s ∈ inA C x j o ↔ s ∈ o ∨ ∃ i, i < j ∧ Cut (gt C i) x s
  | 0 => ⟨.inl, fun h => h.elim id fun ⟨i, h, _⟩ => by omega⟩
  | j + 1 => by
    show s ∈ cutO (inA C x j o) (gt C j) x ↔ _
    rw [mem_cutO, mem_inA]
    constructor
    · rintro ((h | ⟨i, hi, h⟩) | h)
      · exact .inl h
      · exact .inr ⟨i, by omega, h⟩
      · exact .inr ⟨j, by omega, h⟩
    · rintro (h | ⟨i, hi, h⟩)
      · exact .inl (.inl h)
      · by_cases e : i = j
        · subst e; exact .inr h
        · exact .inl (.inr ⟨i, by omega, h⟩)
theorem inA_nodup {C : List ByteArray} {x : ByteArray} {o : List ByteArray} (h : o.Nodup) : ∀ j, (inA C x j o).Nodup
  | 0 => h
  | j + 1 => cutO_nodup (inA_nodup h j)
theorem mem_outA {C : List ByteArray} {s : ByteArray} : ∀ {k}, s ∈ outA C k ↔ ∃ i, i < k ∧ ∃ j, j < C.length ∧ Cut (gt C j) (gt C i) s
  | 0 => ⟨fun h => by simp [outA] at h, fun ⟨i, h, _⟩ => by omega⟩
  | k + 1 => by
    show s ∈ inA C (gt C k) C.length (outA C k) ↔ _
    rw [mem_inA, mem_outA]
    constructor
    · rintro (⟨i, hi, h⟩ | ⟨j, hj, h⟩)
      · exact ⟨i, by omega, h⟩
      · exact ⟨k, by omega, j, hj, h⟩
    · rintro ⟨i, hi, j, hj, h⟩
      by_cases e : i = k
      · subst e; exact .inr ⟨j, hj, h⟩
      · exact .inl ⟨i, by omega, j, hj, h⟩
theorem outA_nodup {C : List ByteArray} : ∀ k, (outA C k).Nodup
  | 0 => List.nodup_nil
  | k + 1 => inA_nodup (outA_nodup k) _
theorem mem_inB {C : List ByteArray} {e s : ByteArray} {o : List ByteArray} : ∀ {j}, s ∈ inB C e j o ↔ s ∈ o ∨ ∃ i, i < j ∧ (Cut e (gt C i) s ∨ Cut (gt C i) e s)
  | 0 => ⟨.inl, fun h => h.elim id fun ⟨i, h, _⟩ => by omega⟩
  | j + 1 => by
    show s ∈ cutO (cutO (inB C e j o) e (gt C j)) (gt C j) e ↔ _
    rw [mem_cutO, mem_cutO, mem_inB]
    constructor
    · rintro (((h | ⟨i, hi, h⟩) | h) | h)
      · exact .inl h
      · exact .inr ⟨i, by omega, h⟩
      · exact .inr ⟨j, by omega, .inl h⟩
      · exact .inr ⟨j, by omega, .inr h⟩
    · rintro (h | ⟨i, hi, h⟩)
      · exact .inl (.inl (.inl h))
      · by_cases e : i = j
        · subst e
          rcases h with h | h
          · exact .inl (.inr h)
          · exact .inr h
        · exact .inl (.inl (.inr ⟨i, by omega, h⟩))
theorem inB_nodup {C : List ByteArray} {e : ByteArray} {o : List ByteArray} (h : o.Nodup) : ∀ j, (inB C e j o).Nodup
  | 0 => h
  | j + 1 => cutO_nodup (cutO_nodup (inB_nodup h j))
/-! Words. -/
def wds (C : List ByteArray) : List (List UInt8) := C.map bs
theorem mem_wds {C : List ByteArray} {x : List UInt8} : x ∈ wds C ↔ ∃ s, s ∈ C ∧ bs s = x := List.mem_map
def LeftS (C : List ByteArray) (s : ByteArray) : Prop := Left (wds C) (bs s)
theorem LeftS.base {C : List ByteArray} {x y s : ByteArray} (hx : x ∈ C) (hy : y ∈ C) (h : Cut y x s) : LeftS C s := Left.base (mem_wds.2 ⟨x, hx, rfl⟩) (mem_wds.2 ⟨y, hy, rfl⟩) h.1 h.2
theorem LeftS.on {C : List ByteArray} {e x s : ByteArray} (he : LeftS C e) (hx : x ∈ C) (h : Cut e x s ∨ Cut x e s) : LeftS C s := by
  rcases h with h | h
  · exact Left.cut he (mem_wds.2 ⟨x, hx, rfl⟩) h.1 h.2
  · exact Left.rest he (mem_wds.2 ⟨x, hx, rfl⟩) h.1 h.2
/-- A list from which nothing more is left over has all. -/
theorem closed_has {C E : List ByteArray} (h1 : ∀ x ∈ C, ∀ y ∈ C, ∀ s, Cut y x s → s ∈ E) (h2 : ∀ e ∈ E, ∀ x ∈ C, ∀ s, (Cut e x s ∨ Cut x e s) → s ∈ E) {s : ByteArray} (h : LeftS C s) : s ∈ E := by
  have key : ∀ t, Left (wds C) t → (⟨t.toArray⟩ : ByteArray) ∈ E := by
    intro t ht
    induction ht with
    | base hx hy e hne =>
      obtain ⟨x, hx2, rfl⟩ := mem_wds.1 hx
      obtain ⟨y, hy2, rfl⟩ := mem_wds.1 hy
      exact h1 x hx2 y hy2 _ ⟨by rw [bs_mk]; exact e, by rw [bs_mk]; exact hne⟩
    | cut he hx e hne ih =>
      obtain ⟨x, hx2, rfl⟩ := mem_wds.1 hx
      exact h2 _ ih x hx2 _ (.inl ⟨by rw [bs_mk, bs_mk]; exact e, by rw [bs_mk]; exact hne⟩)
    | rest he hx e hne ih =>
      obtain ⟨x, hx2, rfl⟩ := mem_wds.1 hx
      exact h2 _ ih x hx2 _ (.inr ⟨by rw [bs_mk, bs_mk]; exact e, by rw [bs_mk]; exact hne⟩)
  have := key _ h
  rwa [show (⟨(bs s).toArray⟩ : ByteArray) = s from bs_inj (bs_mk _)] at this
/-- What can be left over is an end of a signal. -/
def tails (C : List ByteArray) : List ByteArray := C.flatMap fun s => (List.range (s.size + 1)).map fun i => ⟨((bs s).drop i).toArray⟩
theorem left_tail {C : List ByteArray} {s : ByteArray} (h : LeftS C s) : s ∈ tails C := by
  have key : ∀ t, Left (wds C) t → ∃ x ∈ C, ∃ a, bs x = a ++ t := by
    intro t ht
    induction ht with
    | base hx hy e _ =>
      obtain ⟨y, hy2, rfl⟩ := mem_wds.1 hy
      exact ⟨y, hy2, _, e⟩
    | cut he hx e _ ih =>
      obtain ⟨z, hz, a, ha⟩ := ih
      exact ⟨z, hz, _, by rw [ha, e, ← List.append_assoc]⟩
    | rest he hx e _ ih =>
      obtain ⟨x, hx2, rfl⟩ := mem_wds.1 hx
      exact ⟨x, hx2, _, e⟩
  obtain ⟨x, hx, a, ha⟩ := key _ h
  unfold tails
  rw [List.mem_flatMap]
  refine ⟨x, hx, ?_⟩
  rw [List.mem_map]
  refine ⟨a.length, List.mem_range.2 ?_, ?_⟩
  · have := congrArg List.length ha
    rw [List.length_append, bs_len] at this; omega
  · rw [ha, List.drop_left]
    exact bs_inj (bs_mk _)
theorem nodup_len {α : Type} {l : List α} : ∀ {m : List α}, l.Nodup → (∀ x ∈ l, x ∈ m) → l.length ≤ m.length := by
  induction l with
  | nil => intro m _ _; exact Nat.zero_le _
  | cons a l ih =>
    intro m h hm
    obtain ⟨p, q, e⟩ := List.append_of_mem (hm a (List.mem_cons_self ..))
    have h2 := List.nodup_cons.1 h
    have := ih (m := p ++ q) h2.2 (fun x hx => by
      have := hm x (List.mem_cons_of_mem _ hx)
      rw [e, List.mem_append, List.mem_cons] at this
      rw [List.mem_append]
      rcases this with h | h | h
      · exact .inl h
      · subst h; exact absurd hx h2.1
      · exact .inr h)
    rw [e, List.length_append, List.length_cons]
    rw [List.length_append] at this
    rw [List.length_cons]; omega
theorem tails_len (C : List ByteArray) (h : ∀ s ∈ C, s.size ≤ 12) : (tails C).length ≤ 13 * C.length := by
  unfold tails
  induction C with
  | nil => exact Nat.zero_le _
  | cons a C ih =>
    have h1 := h a (List.mem_cons_self ..)
    have h2 := ih (fun s hs => h s (List.mem_cons_of_mem _ hs))
    rw [List.flatMap_cons, List.length_append, List.length_map, List.length_range, List.length_cons]
    omega
/-- How a search stands. -/
structure Found (C : List ByteArray) (o : List ByteArray) (i : Nat) : Prop where
  nodup : o.Nodup
  left : ∀ s ∈ o, LeftS C s
  base : ∀ x ∈ C, ∀ y ∈ C, ∀ s, Cut y x s → s ∈ o
  done : ∀ j, j < i → ∀ x ∈ C, ∀ s, (Cut (gt o j) x s ∨ Cut x (gt o j) s) → s ∈ o
  le : i ≤ o.length
theorem Found.len {C o : List ByteArray} {i : Nat} (h : Found C o i) (v : Valid C) : o.length ≤ 156 := by
  have h1 := nodup_len h.nodup (fun s hs => left_tail (h.left s hs))
  have h2 := tails_len C v.size12
  have := v.few
  omega
theorem Found.all {C o : List ByteArray} (h : Found C o o.length) {s : ByteArray} : s ∈ o ↔ LeftS C s := by
  refine ⟨h.left s, fun hs => closed_has h.base (fun e he x hx s h2 => ?_) hs⟩
  obtain ⟨j, hj, rfl⟩ := mem_getD (d := ByteArray.empty) he
  exact h.done j hj x hx s h2
/-- One row of the search more. -/
theorem Found.next {C o o' : List ByteArray} {i : Nat} (h : Found C o i) (hi : i < o.length) (hn : o'.Nodup) (hm : ∀ s, s ∈ o' ↔ s ∈ o ∨ ∃ x, x ∈ C ∧ (Cut (gt o i) x s ∨ Cut x (gt o i) s)) (hg : ∀ j, j < o.length → gt o' j = gt o j) (hl : o.length ≤ o'.length) : Found C o' (i + 1) where
  nodup := hn
  left := fun s hs => by
    rcases (hm s).1 hs with h1 | ⟨x, hx, h1⟩
    · exact h.left s h1
    · exact (h.left _ (gt_mem hi)).on hx h1
  base := fun x hx y hy s hc => (hm s).2 (.inl (h.base x hx y hy s hc))
  done := fun j hj x hx s hc => by
    by_cases e : j = i
    · subst e
      rw [hg j hi] at hc
      exact (hm s).2 (.inr ⟨x, hx, hc⟩)
    · rw [hg j (by omega)] at hc
      exact (hm s).2 (.inl (h.done j (by omega) x hx s hc))
  le := by omega
theorem goB_found {C : List ByteArray} (v : Valid C) : ∀ (f : Nat) (o : List ByteArray) (i : Nat), Found C o i → 157 ≤ f + i → ∃ r, goB C f o i = some r ∧ Found C r r.length := by
  intro f
  induction f with
  | zero =>
    intro o i h hf
    have := h.len v
    have := h.le
    omega
  | succ f ih =>
    intro o i h hf
    have hl := h.len v
    unfold goB
    rw [if_pos (by omega)]
    by_cases hi : i < o.length
    · rw [if_pos hi]
      have hge := inB_ge C (gt o i) C.length o
      refine ih _ (i + 1) (h.next hi (inB_nodup h.nodup _) (fun s => ?_) (fun j hj => inB_get C (gt o i) j C.length o hj) hge) (by omega)
      show s ∈ inB C (gt o i) C.length o ↔ _
      rw [mem_inB]
      constructor
      · rintro (h1 | ⟨j, hj, h1⟩)
        · exact .inl h1
        · exact .inr ⟨gt C j, gt_mem hj, h1⟩
      · rintro (h1 | ⟨x, hx, h1⟩)
        · exact .inl h1
        · obtain ⟨j, hj, rfl⟩ := mem_gt hx
          exact .inr ⟨j, hj, h1⟩
    · rw [if_neg hi]
      have := h.le
      obtain rfl : i = o.length := by omega
      exact ⟨o, rfl, h⟩
theorem outA_found {C : List ByteArray} : Found C (outA C C.length) 0 where
  nodup := outA_nodup _
  left := fun s hs => by
    obtain ⟨i, hi, j, hj, h⟩ := mem_outA.1 hs
    exact LeftS.base (gt_mem hi) (gt_mem hj) h
  base := fun x hx y hy s h => by
    obtain ⟨i, hi, rfl⟩ := mem_gt hx
    obtain ⟨j, hj, rfl⟩ := mem_gt hy
    exact mem_outA.2 ⟨i, hi, j, hj, h⟩
  done := fun j hj => by omega
  le := Nat.zero_le _
/-- The program's ends. -/
theorem ends_ev {C : List ByteArray} (v : Valid C) : ∃ E, Ev (fun k => whistle_ends.f k C) (sortS E) ∧ E.Nodup ∧ (∀ s, s ∈ E ↔ LeftS C s) ∧ E.length ≤ 156 := by
  obtain ⟨E, h1, h2⟩ := goB_found v 157 _ 0 outA_found (by omega)
  refine ⟨E, Ev.of (k := 157) (fun k => whistle_ends.mono C k) ?_, h2.nodup, fun s => h2.all, h2.len v⟩
  unfold whistle_ends.f endsL
  rw [if_pos (by have := v.few; omega), h1]; rfl
/-- A code is safe if no signal can be left over. -/
def Safe (C : List ByteArray) : Prop := ¬ ∃ s, s ∈ C ∧ LeftS C s
noncomputable def safeB (C : List ByteArray) : Bool := @decide (Safe C) (Classical.propDecidable _)
theorem safeB_iff {C : List ByteArray} : safeB C = true ↔ Safe C := by unfold safeB; exact @decide_eq_true_iff _ (Classical.propDecidable _)
noncomputable def safeP (C : List ByteArray) : Bool × Int := if valP C = 0 then (safeB C, 0) else (false, valP C)
theorem safe_ev {C : List ByteArray} (hS : Sized C) : Ev (fun k => whistle_IsSafe.f k C) (safeP C) := by
  unfold whistle_IsSafe.f safeP
  refine Ev.bind (val_ev C hS) ?_
  by_cases h : valP C = 0
  · rw [if_pos (show valP C = 0 from h)]
    refine Ev.ifp h ?_
    obtain ⟨E, ⟨K, hK⟩, n1, m1, l1⟩ := ends_ev (valP_zero.1 h)
    refine ⟨K, fun k hk => ?_⟩
    have hE : endsL k C = some (sortS E) := hK k hk
    show (endsL k C).map _ = _
    rw [hE]
    show some (!(C.any (Go.Lib.containsS (sortS E))), (0 : Int)) = _
    congr 2
    rw [Bool.eq_iff_iff, safeB_iff, Bool.not_eq_true', Bool.eq_false_iff]
    unfold Safe
    refine not_congr ?_
    rw [List.any_eq_true]
    exact ⟨fun ⟨s, h1, h2⟩ => ⟨s, h1, (m1 s).1 (mem_sortS.1 (inS_iff.1 h2))⟩, fun ⟨s, h1, h2⟩ => ⟨s, h1, inS_iff.2 (mem_sortS.2 ((m1 s).2 h2))⟩⟩
  · rw [if_neg (show ¬ valP C = 0 from h)]
    exact Ev.ifn h (Ev.now _)
theorem wds_ne {C : List ByteArray} (v : Valid C) : ∀ x ∈ wds C, x ≠ [] := fun x hx e => by
  obtain ⟨s, hs, rfl⟩ := mem_wds.1 hx
  have h1 := v.size1 s hs
  have := bs_len s
  rw [e] at this
  simp at this; omega
theorem safe_iff {C : List ByteArray} (v : Valid C) : Safe C ↔ ¬ Amb (wds C) := by
  unfold Safe
  rw [amb_iff_left (wds_ne v)]
  refine not_congr ⟨fun ⟨s, h1, h2⟩ => ⟨bs s, mem_wds.2 ⟨s, h1, rfl⟩, h2⟩, fun ⟨x, h1, h2⟩ => ?_⟩
  obtain ⟨s, hs, rfl⟩ := mem_wds.1 h1
  exact ⟨s, hs, h2⟩

/-! The sum of lengths, in lowest terms, by both. -/

/-- n / 2^e in lowest terms. -/
def red : Nat → Nat → Nat × Nat
  | n, 0 => (n, 1)
  | n, e + 1 => if n % 2 = 0 then red (n / 2) e else (n, 2 ^ (e + 1))
def redI (n e : Nat) : Int × Int := (((red n e).1 : Nat), ((red n e).2 : Nat))
/-- The sum of 2^12 / 2^length. -/
def fillN (l : List Int) : Nat := (l.map fun x => 2 ^ (12 - x.toNat)).sum
/-- The lengths of a code. -/
def lensC (C : List ByteArray) : List Int := C.map fun s => (s.size : Int)
theorem lensC_snoc (C : List ByteArray) (i : Nat) (hi : i < C.length) : lensC (C.take i) ++ [((gt C i).size : Int)] = lensC (C.take (i + 1)) := by
  unfold lensC
  rw [List.take_succ_eq_append_getElem hi, List.map_append]
  congr 1
  unfold gt
  rw [List.getD_eq_getElem?_getD, List.getElem?_eq_getElem hi]; rfl
theorem lensC_len (C : List ByteArray) (i : Nat) (h : i ≤ C.length) : (lensC (C.take i)).length = i := by unfold lensC; rw [List.length_map, List.length_take]; omega
theorem lengths_at {C : List ByteArray} (hC : C.length < 1000000) (d : Nat) : ∀ i, i + d = C.length → Ev (fun k => whistle_lengths.l0 k (lensC (C.take i)) C (C.length : Int) (i : Int)) (lensC C) := by
  induction d with
  | zero =>
    intro i hi
    refine Ev.step (fun k => by rw [whistle_lengths.l0]) (Ev.ifn (by omega) (Ev.val ?_))
    rw [List.take_of_length_le (by omega)]
  | succ d ih =>
    intro i hi
    refine Ev.step (fun k => by rw [whistle_lengths.l0, rdOf_gt]) (Ev.ifp (by omega) (Ev.ifp (by omega) (Ev.ifp (by omega) (Ev.ifp (by rw [lensC_len C i (by omega)]; omega) ?_))))
    rw [lensC_snoc C i (by omega), w64s (by omega)]
    exact ih (i + 1) (by omega)
theorem lengths_ev {C : List ByteArray} (hC : C.length < 1000000) : Ev (fun k => whistle_lengths.f k C) (lensC C) := lengths_at hC C.length 0 (by omega)
def noteOf (b : UInt8) : Bool := b == 45
def byteOf (b : Bool) : UInt8 := if b then 45 else 46
theorem byte_note {b : UInt8} (h : noteB b = true) : byteOf (noteOf b) = b := by
  rcases noteB_iff.1 h with rfl | rfl <;> rfl
theorem byteOf_inj {a b : Bool} (h : byteOf a = byteOf b) : a = b := by
  cases a <;> cases b <;> first | rfl | (exfalso; revert h; decide)
def wdsB (C : List ByteArray) : List (List Bool) := (wds C).map (List.map noteOf)
theorem wds_back {C : List ByteArray} (v : Valid C) {x : List UInt8} (hx : x ∈ wds C) : (x.map noteOf).map byteOf = x := by
  obtain ⟨s, hs, rfl⟩ := mem_wds.1 hx
  have h := v.notes s hs
  rw [notesP_list, List.all_eq_true] at h
  rw [List.map_map]
  conv => rhs; rw [← List.map_id (bs s)]
  exact List.map_congr_left fun b hb => byte_note (h b hb)
theorem map_byteOf_inj : ∀ {a b : List Bool}, a.map byteOf = b.map byteOf → a = b
  | [], [], _ => rfl
  | [], _ :: _, h => by simp at h
  | _ :: _, [], h => by simp at h
  | x :: a, y :: b, h => by
    rw [List.map_cons, List.map_cons] at h
    obtain ⟨h1, h2⟩ := List.cons.inj h
    rw [byteOf_inj h1, map_byteOf_inj h2]
theorem map2_byteOf_inj : ∀ {a b : List (List Bool)}, a.map (List.map byteOf) = b.map (List.map byteOf) → a = b
  | [], [], _ => rfl
  | [], _ :: _, h => by simp at h
  | _ :: _, [], h => by simp at h
  | x :: a, y :: b, h => by
    rw [List.map_cons, List.map_cons] at h
    obtain ⟨h1, h2⟩ := List.cons.inj h
    rw [map_byteOf_inj h1, map2_byteOf_inj h2]
theorem flat_map_map (f : Bool → UInt8) (a : List (List Bool)) : (a.map (List.map f)).flatten = a.flatten.map f := by
  induction a with
  | nil => rfl
  | cons x a ih => rw [List.map_cons, List.flatten_cons, List.flatten_cons, List.map_append, ih]
theorem amb_bool {C : List ByteArray} (v : Valid C) (h : Amb (wdsB C)) : Amb (wds C) := by
  obtain ⟨a, b, ha, hb, hab, hs⟩ := h
  have hm : ∀ {m : List (List Bool)}, Msg (wdsB C) m → Msg (wds C) (m.map (List.map byteOf)) := fun {m} hm x hx => by
    obtain ⟨y, hy, rfl⟩ := List.mem_map.1 hx
    obtain ⟨z, hz, rfl⟩ := List.mem_map.1 (hm y hy)
    rw [wds_back v hz]; exact hz
  exact ⟨_, _, hm ha, hm hb, fun e => hab (map2_byteOf_inj e), by rw [flat_map_map, flat_map_map, hs]⟩
theorem wds_nodup {C : List ByteArray} (h : C.Nodup) : (wds C).Nodup := by
  unfold wds
  rw [List.nodup_iff_pairwise_ne] at h ⊢
  exact List.pairwise_map.2 (h.imp fun hne e => hne (bs_inj e))
theorem wdsB_nodup {C : List ByteArray} (v : Valid C) : (wdsB C).Nodup := by
  have h := wds_nodup v.nodup
  unfold wdsB
  rw [List.nodup_iff_pairwise_ne] at h ⊢
  refine List.pairwise_map.2 (h.imp_of_mem fun {a b} ha hb hne e => hne ?_)
  rw [← wds_back v ha, ← wds_back v hb, e]
theorem shares_fill (C : List ByteArray) : shares 12 (wdsB C) = fillN (lensC C) := by
  unfold shares fillN wdsB wds lensC
  rw [List.map_map, List.map_map, List.map_map]
  congr 1
  apply List.map_congr_left
  intro s _
  show 2 ^ (12 - ((bs s).map noteOf).length) = 2 ^ (12 - ((s.size : Nat) : Int).toNat)
  rw [List.length_map, bs_len, Int.toNat_natCast]
theorem safe_kraft {C : List ByteArray} (v : Valid C) (h : Safe C) : fillN (lensC C) ≤ 2 ^ 12 := by
  rw [← shares_fill]
  refine mcmillan (wdsB_nodup v) (fun e => (safe_iff v).1 h (amb_bool v e)) (fun x hx => ?_)
  obtain ⟨y, hy, rfl⟩ := List.mem_map.1 hx
  obtain ⟨s, hs, rfl⟩ := mem_wds.1 hy
  rw [List.length_map, bs_len]
  exact v.size12 s hs
def lenB (l : List Int) : Bool := oneTo 1 12 l
def fillP (l : List Int) : Int × Int × Int := if lenB l = true then ((redI (fillN l) 12).1, (redI (fillN l) 12).2, 0) else (0, 0, 1)

/-! Two lightest are put together again and again: no lengths with Kraft's sum cost less; Cheapest's lengths are such ones. -/
/-! The cheapest lengths: two lightest are put together again and again. -/
/-- What is whistled if two lightest weights are put together again and again. -/
inductive Huf.Huff : List Nat → Nat → Prop
  | one (a : Nat) : Huf.Huff [a] 0
  | step {l r : List Nat} {a b s : Nat} : l.Perm (a :: b :: r) → (∀ x ∈ b :: r, a ≤ x) → (∀ x ∈ r, b ≤ x) → Huf.Huff ((a + b) :: r) s → Huf.Huff l (s + (a + b))
def Huf.costP (P : List (Nat × Nat)) : Nat := (P.map fun p => p.1 * p.2).sum
def Huf.longP (P : List (Nat × Nat)) : Nat := (P.map fun p => p.2).sum
def Huf.fillP (M : Nat) (P : List (Nat × Nat)) : Nat := (P.map fun p => 2 ^ (M - p.2)).sum
def Huf.KraftP (M : Nat) (P : List (Nat × Nat)) : Prop := (∀ p ∈ P, p.2 ≤ M) ∧ Huf.fillP M P ≤ 2 ^ M
theorem Huf.costP_cons (p : Nat × Nat) (P : List (Nat × Nat)) : Huf.costP (p :: P) = p.1 * p.2 + Huf.costP P := by unfold Huf.costP; rw [List.map_cons, List.sum_cons]
theorem Huf.longP_cons (p : Nat × Nat) (P : List (Nat × Nat)) : Huf.longP (p :: P) = p.2 + Huf.longP P := by unfold Huf.longP; rw [List.map_cons, List.sum_cons]
theorem Huf.fillP_cons (M : Nat) (p : Nat × Nat) (P : List (Nat × Nat)) : Huf.fillP M (p :: P) = 2 ^ (M - p.2) + Huf.fillP M P := by unfold Huf.fillP; rw [List.map_cons, List.sum_cons]
theorem Huf.costP_perm {P Q : List (Nat × Nat)} (h : P.Perm Q) : Huf.costP P = Huf.costP Q := (h.map _).sum_nat
theorem Huf.longP_perm {P Q : List (Nat × Nat)} (h : P.Perm Q) : Huf.longP P = Huf.longP Q := (h.map _).sum_nat
theorem Huf.fillP_perm {M : Nat} {P Q : List (Nat × Nat)} (h : P.Perm Q) : Huf.fillP M P = Huf.fillP M Q := (h.map _).sum_nat
theorem Huf.KraftP.perm {M : Nat} {P Q : List (Nat × Nat)} (hk : Huf.KraftP M P) (h : P.Perm Q) : Huf.KraftP M Q := ⟨fun p hp => hk.1 p (h.mem_iff.2 hp), by rw [← Huf.fillP_perm h]; exact hk.2⟩
theorem Huf.fillP_snd {M : Nat} {P Q : List (Nat × Nat)} (h : (P.map Prod.snd).Perm (Q.map Prod.snd)) : Huf.fillP M P = Huf.fillP M Q := by
  have := (h.map fun k => 2 ^ (M - k)).sum_nat
  rw [List.map_map, List.map_map] at this
  exact this
theorem Huf.fillP_scale {M m : Nat} (P : List (Nat × Nat)) (hm : ∀ p ∈ P, p.2 ≤ m) (h : m ≤ M) : Huf.fillP M P = 2 ^ (M - m) * Huf.fillP m P := by
  induction P with
  | nil => simp [Huf.fillP]
  | cons p P ih =>
    have hp := hm p (List.mem_cons_self ..)
    rw [Huf.fillP_cons, Huf.fillP_cons, ih fun q hq => hm q (List.mem_cons_of_mem _ hq), Nat.mul_add, ← Nat.pow_add, show M - m + (m - p.2) = M - p.2 by omega]
theorem Huf.KraftP.scale {M m : Nat} {P : List (Nat × Nat)} (hk : Huf.KraftP M P) (hm : ∀ p ∈ P, p.2 ≤ m) (h : m ≤ M) : Huf.KraftP m P := by
  refine ⟨hm, ?_⟩
  have h1 := hk.2
  rw [Huf.fillP_scale P hm h, show 2 ^ M = 2 ^ (M - m) * 2 ^ m by rw [← Nat.pow_add]; congr 1; omega] at h1
  exact Nat.le_of_mul_le_mul_left h1 (Nat.pow_pos (by decide))
theorem Huf.fillP_even {m : Nat} (P : List (Nat × Nat)) (hm : ∀ p ∈ P, p.2 < m) : Huf.fillP m P % 2 = 0 := by
  induction P with
  | nil => rfl
  | cons p P ih =>
    have hp := hm p (List.mem_cons_self ..)
    have := ih fun q hq => hm q (List.mem_cons_of_mem _ hq)
    rw [Huf.fillP_cons, show m - p.2 = (m - p.2 - 1) + 1 by omega, Nat.pow_succ]; omega
theorem Huf.max_at : ∀ (P : List (Nat × Nat)), P ≠ [] → ∃ p ∈ P, ∀ q ∈ P, q.2 ≤ p.2
  | [], h => absurd rfl h
  | [p], _ => ⟨p, List.mem_cons_self .., fun q hq => by rw [List.mem_singleton] at hq; subst hq; exact Nat.le_refl _⟩
  | p :: q :: P, _ => by
    obtain ⟨m, hm, hmax⟩ := Huf.max_at (q :: P) (by simp)
    by_cases h : p.2 ≤ m.2
    · refine ⟨m, List.mem_cons_of_mem _ hm, fun x hx => ?_⟩
      rcases List.mem_cons.1 hx with e | e
      · subst e; exact h
      · exact hmax x e
    · refine ⟨p, List.mem_cons_self .., fun x hx => ?_⟩
      rcases List.mem_cons.1 hx with e | e
      · subst e; exact Nat.le_refl _
      · have := hmax x e; omega
theorem Huf.perm_head {β : Type} {x : β} {l : List β} (h : x ∈ l) : ∃ r, l.Perm (x :: r) := by
  obtain ⟨s, t, rfl⟩ := List.append_of_mem h
  exact ⟨s ++ t, List.perm_middle⟩
/-- A lightest weight may have a greatest length. -/
theorem Huf.exch {p : Nat × Nat} {R : List (Nat × Nat)} {a : Nat} (ha : a ∈ (p :: R).map Prod.fst) (hmin : ∀ x ∈ (p :: R).map Prod.fst, a ≤ x) (hmax : ∀ q ∈ R, q.2 ≤ p.2) :
    ∃ R', ((p :: R).map Prod.fst).Perm (a :: R'.map Prod.fst) ∧ (R'.map Prod.snd).Perm (R.map Prod.snd) ∧ Huf.costP ((a, p.2) :: R') ≤ Huf.costP (p :: R) := by
  by_cases e : p.1 = a
  · refine ⟨R, by rw [List.map_cons, e], List.Perm.refl _, ?_⟩
    rw [Huf.costP_cons, Huf.costP_cons, e]
    exact Nat.le_refl _
  · rw [List.map_cons] at ha
    rcases List.mem_cons.1 ha with h | h
    · exact absurd h.symm e
    · obtain ⟨q, hq, rfl⟩ := List.mem_map.1 h
      obtain ⟨R2, hp⟩ := Huf.perm_head hq
      refine ⟨(p.1, q.2) :: R2, ?_, ?_, ?_⟩
      · rw [List.map_cons, List.map_cons]
        exact ((hp.map Prod.fst).cons p.1).trans (List.Perm.swap _ _ _)
      · rw [List.map_cons]
        exact (hp.map Prod.snd).symm
      · rw [Huf.costP_cons, Huf.costP_cons, Huf.costP_cons, Huf.costP_perm hp, Huf.costP_cons]
        have h1 := hmin p.1 (by simp)
        have h2 := hmax q hq
        obtain ⟨d, hd⟩ := Nat.le.dest h1
        obtain ⟨f, hf⟩ := Nat.le.dest h2
        have e1 : q.1 * p.2 = q.1 * q.2 + q.1 * f := by rw [← hf, Nat.mul_add]
        have e2 : p.1 * p.2 = p.1 * q.2 + p.1 * f := by rw [← hf, Nat.mul_add]
        have h3 : q.1 * f ≤ p.1 * f := Nat.mul_le_mul_right _ h1
        show q.1 * p.2 + (p.1 * q.2 + Huf.costP R2) ≤ p.1 * p.2 + (q.1 * q.2 + Huf.costP R2)
        omega
theorem Huf.huff_le {l : List Nat} {s : Nat} (h : Huf.Huff l s) : ∀ (P : List (Nat × Nat)) (M : Nat), (P.map Prod.fst).Perm l → Huf.KraftP M P → s ≤ Huf.costP P := by
  induction h with
  | one a => intro P M _ _; exact Nat.zero_le _
  | @step l r a b s hl ha hb _ ih =>
    suffices H : ∀ (n : Nat) (P : List (Nat × Nat)) (M : Nat), Huf.longP P ≤ n → (P.map Prod.fst).Perm l → Huf.KraftP M P → s + (a + b) ≤ Huf.costP P from fun P M => H _ P M (Nat.le_refl _)
    intro n
    induction n with
    | zero =>
      intro P M hn hp hk
      exfalso
      have hlen : 2 ≤ P.length := by rw [← List.length_map (f := Prod.fst), (hp.trans hl).length_eq]; simp
      match P, hlen with
      | p :: q :: P, _ =>
        rw [Huf.longP_cons, Huf.longP_cons] at hn
        have := hk.2
        rw [Huf.fillP_cons, Huf.fillP_cons, show p.2 = 0 by omega, show q.2 = 0 by omega, Nat.sub_zero] at this
        have := Nat.pow_pos (n := M) (show 0 < 2 by decide)
        omega
    | succ n ihn =>
      intro P M hn hp hk
      have hlen : 2 ≤ P.length := by rw [← List.length_map (f := Prod.fst), (hp.trans hl).length_eq]; simp
      have hPn : P ≠ [] := by intro e; rw [e] at hlen; simp at hlen
      obtain ⟨p, hpm, hmax⟩ := Huf.max_at P hPn
      obtain ⟨Q, hQ⟩ := Huf.perm_head hpm
      have hk := (hk.scale hmax (hk.1 p hpm)).perm hQ
      have hmaxQ : ∀ q ∈ Q, q.2 ≤ p.2 := fun q hq => hk.1 q (List.mem_cons_of_mem _ hq)
      rw [Huf.costP_perm hQ]
      rw [Huf.longP_perm hQ, Huf.longP_cons] at hn
      have hp := ((hQ.map Prod.fst).symm.trans hp).trans hl
      have hQl : 1 ≤ Q.length := by have := hQ.length_eq; rw [List.length_cons] at this; omega
      have hpos : 1 ≤ p.2 := by
        apply Classical.byContradiction
        intro h0
        match Q, hQl, hk with
        | q :: Q, _, hk =>
          have := hk.2
          rw [Huf.fillP_cons, Huf.fillP_cons, show p.2 = 0 by omega] at this
          have := Nat.pow_pos (n := 0 - q.2) (show 0 < 2 by decide)
          simp at *
          omega
      by_cases hq : ∃ q ∈ Q, q.2 = p.2
      · obtain ⟨R, hR1, hR2, hR3⟩ := Huf.exch (p := p) (R := Q) (a := a) (hp.mem_iff.2 (by simp)) (fun x hx => by
          rcases List.mem_cons.1 (hp.mem_iff.1 hx) with e | e
          · omega
          · exact ha x e) hmaxQ
        have hw1 : (R.map Prod.fst).Perm (b :: r) := (hR1.symm.trans hp).cons_inv
        have hmem : p.2 ∈ R.map Prod.snd := by
          obtain ⟨q, hq, e⟩ := hq
          exact hR2.mem_iff.2 (List.mem_map.2 ⟨q, hq, e⟩)
        obtain ⟨q2, hq2, e2⟩ := List.mem_map.1 hmem
        obtain ⟨R2, hR4⟩ := Huf.perm_head hq2
        have hmax2 : ∀ q ∈ R, q.2 ≤ p.2 := fun q hq => by
          have := hR2.mem_iff.1 (List.mem_map.2 ⟨q, hq, rfl⟩)
          obtain ⟨q3, hq3, e3⟩ := List.mem_map.1 this
          rw [← e3]; exact hmaxQ q3 hq3
        have hw2 := (hR4.map Prod.fst).symm.trans hw1
        obtain ⟨R3, hR5, hR6, hR7⟩ := Huf.exch (p := q2) (R := R2) (a := b) (hw2.mem_iff.2 (by simp)) (fun x hx => by
          rcases List.mem_cons.1 (hw2.mem_iff.1 hx) with e | e
          · omega
          · exact hb x e) (fun q hq => by rw [e2]; exact hmax2 q (hR4.mem_iff.2 (List.mem_cons_of_mem _ hq)))
        have hw3 : (R3.map Prod.fst).Perm r := (hR5.symm.trans hw2).cons_inv
        have hf : Huf.fillP p.2 (p :: Q) = 2 + Huf.fillP p.2 R3 := by
          have e1 := Huf.fillP_snd (M := p.2) hR2
          rw [Huf.fillP_perm hR4, Huf.fillP_cons, e2] at e1
          rw [Huf.fillP_cons, ← e1, ← Huf.fillP_snd hR6]
          simp
          omega
        have hc := hR3
        rw [Huf.costP_cons, Huf.costP_perm hR4] at hc
        rw [Huf.costP_cons, e2] at hR7
        have := ih ((a + b, p.2 - 1) :: R3) p.2 (by rw [List.map_cons]; exact hw3.cons _) ⟨fun x hx => ?_, ?_⟩
        · rw [Huf.costP_cons] at this
          simp only at this hc hR7
          obtain ⟨k, hk⟩ : ∃ k, p.2 = k + 1 := ⟨p.2 - 1, by omega⟩
          rw [hk] at this hc hR7
          rw [Nat.add_sub_cancel, Nat.add_mul] at this
          rw [Nat.mul_add, Nat.mul_one] at hc hR7
          omega
        · rcases List.mem_cons.1 hx with e | e
          · rw [e]; exact Nat.sub_le _ _
          · obtain ⟨q3, hq3, e3⟩ := List.mem_map.1 (hR6.mem_iff.1 (List.mem_map.2 ⟨x, e, rfl⟩))
            rw [← e3]; exact hmax2 q3 (hR4.mem_iff.2 (List.mem_cons_of_mem _ hq3))
        · have h2 := hk.2
          rw [hf] at h2
          rw [Huf.fillP_cons, show p.2 - (p.2 - 1) = 1 by omega]
          exact h2
      · have hlt : ∀ q ∈ Q, q.2 < p.2 := fun q hq2 => by
          have := hmaxQ q hq2
          have : q.2 ≠ p.2 := fun e => hq ⟨q, hq2, e⟩
          omega
        have hev := Huf.fillP_even Q hlt
        have h2 := hk.2
        rw [Huf.fillP_cons, Nat.sub_self, Nat.pow_zero] at h2
        have := ihn ((p.1, p.2 - 1) :: Q) p.2 (by rw [Huf.longP_cons]; simp only; omega) (by rw [List.map_cons]; rw [List.map_cons] at hp; exact hp.trans hl.symm) ⟨fun x hx => ?_, ?_⟩
        · rw [Huf.costP_cons] at this ⊢
          have h3 : p.1 * (p.2 - 1) ≤ p.1 * p.2 := Nat.mul_le_mul_left _ (Nat.sub_le _ _)
          simp only at this
          omega
        · rcases List.mem_cons.1 hx with e | e
          · rw [e]; exact Nat.sub_le _ _
          · exact hmaxQ x e
        · rw [Huf.fillP_cons, show p.2 - (p.2 - 1) = 1 by omega]
          obtain ⟨k, hk2⟩ : ∃ k, p.2 = k + 1 := ⟨p.2 - 1, by omega⟩
          rw [hk2, Nat.pow_succ] at h2 ⊢
          rw [hk2] at hev
          omega
/-! The cheapest lengths are a code's, and cost what the sum of the joined weights is. -/
/-- What is left of it when an order is changed. -/
theorem Huf.Huff.perm {l l' : List Nat} {s : Nat} (h : Huf.Huff l s) (hp : l.Perm l') : Huf.Huff l' s := by
  cases h with
  | one a =>
    obtain rfl := List.perm_singleton.1 hp.symm
    exact .one a
  | step h1 h2 h3 h4 => exact .step (hp.symm.trans h1) h2 h3 h4
def costF (ws : Nat → Nat) (l : List Nat) (S : List Nat) : Nat := (S.map fun i => ws i * l.getD i 0).sum
structure Full (ws : Nat → Nat) (n : Nat) (o : List Br) (l : List Nat) : Prop where
  good : Q.Good n o l
  wsum : ∀ b ∈ o, b.1 = (b.2.map ws).sum
  kraft : ∀ b ∈ o, (b.2.map fun i => 2 ^ (12 - l.getD i 0)).sum = 4096
  deep : ∀ b ∈ o, ∀ i ∈ b.2, l.getD i 0 + 1 ≤ b.2.length
theorem costF_perm {ws : Nat → Nat} {l S T : List Nat} (h : S.Perm T) : costF ws l S = costF ws l T := (h.map _).sum_nat
theorem costF_app (ws : Nat → Nat) (l S T : List Nat) : costF ws l (S ++ T) = costF ws l S + costF ws l T := by unfold costF; rw [List.map_append, List.sum_append]
theorem costF_up (ws : Nat → Nat) (l l' : List Nat) : ∀ S : List Nat, (∀ i ∈ S, l'.getD i 0 = l.getD i 0 + 1) → costF ws l' S = costF ws l S + (S.map ws).sum
  | [], _ => rfl
  | i :: S, h => by
    have h1 := costF_up ws l l' S fun j hj => h j (List.mem_cons_of_mem _ hj)
    unfold costF at *
    rw [List.map_cons, List.map_cons, List.map_cons, List.sum_cons, List.sum_cons, List.sum_cons, h1, h i (List.mem_cons_self ..), Nat.mul_add, Nat.mul_one]; omega
theorem costF_same (ws : Nat → Nat) (l l' : List Nat) (S : List Nat) (h : ∀ i ∈ S, l'.getD i 0 = l.getD i 0) : costF ws l' S = costF ws l S := by
  unfold costF
  rw [List.map_congr_left (fun i hi => by rw [h i hi])]
theorem kraft_up (l l' : List Nat) : ∀ S : List Nat, (∀ i ∈ S, l'.getD i 0 = l.getD i 0 + 1) → (∀ i ∈ S, l.getD i 0 ≤ 11) → 2 * (S.map fun i => 2 ^ (12 - l'.getD i 0)).sum = (S.map fun i => 2 ^ (12 - l.getD i 0)).sum
  | [], _, _ => rfl
  | i :: S, h, hd => by
    have h1 := kraft_up l l' S (fun j hj => h j (List.mem_cons_of_mem _ hj)) (fun j hj => hd j (List.mem_cons_of_mem _ hj))
    have h2 := hd i (List.mem_cons_self ..)
    rw [List.map_cons, List.map_cons, List.sum_cons, List.sum_cons, h i (List.mem_cons_self ..), Nat.mul_add, h1, show 12 - l.getD i 0 = (12 - (l.getD i 0 + 1)) + 1 by omega, Nat.pow_succ]
    omega
theorem Full.perm {ws : Nat → Nat} {n : Nat} {o o' : List Br} {l : List Nat} (h : Full ws n o l) (hp : o.Perm o') : Full ws n o' l where
  good := h.good.perm hp
  wsum := fun b hb => h.wsum b (hp.mem_iff.2 hb)
  kraft := fun b hb => h.kraft b (hp.mem_iff.2 hb)
  deep := fun b hb => h.deep b (hp.mem_iff.2 hb)
theorem Full.two {ws : Nat → Nat} {n : Nat} {a b : Br} {r : List Br} {l : List Nat} (h : Full ws n (a :: b :: r) l) (hn : n ≤ 12) :
    Full ws n (joinB a b :: r) (bump l (joinB a b).2) ∧ costF ws (bump l (joinB a b).2) (List.range n) = costF ws l (List.range n) + (joinB a b).1 := by
  obtain ⟨hg, hnd, hlt, hdis⟩ := h.good.join
  have hget := fun j => bump_get (joinB a b).2 l j hnd (fun i hi => by rw [h.good.len]; exact hlt i hi)
  have hup : ∀ i ∈ (joinB a b).2, (bump l (joinB a b).2).getD i 0 = l.getD i 0 + 1 := fun i hi => by rw [hget, if_pos hi]
  have hst : ∀ x ∈ r, ∀ i ∈ x.2, (bump l (joinB a b).2).getD i 0 = l.getD i 0 := fun x hx i hi => by rw [hget, if_neg (hdis x hx i hi)]; rfl
  have hwj : (joinB a b).1 = ((joinB a b).2.map ws).sum := by
    show a.1 + b.1 = ((a.2 ++ b.2).map ws).sum
    rw [List.map_append, List.sum_append, h.wsum a (by simp), h.wsum b (by simp)]
  have hlen : ∀ x ∈ a :: b :: r, x.2.length ≤ n := fun x hx => by
    have h1 : ((a :: b :: r).flatMap fun b => b.2).length = n := by rw [h.good.part.length_eq, List.length_range]
    obtain ⟨r', hr'⟩ := Huf.perm_head hx
    have h2 := ((hr'.flatMap_right fun b : Br => b.2).length_eq)
    rw [h1, List.flatMap_cons, List.length_append] at h2
    omega
  have hsmall : ∀ i ∈ (joinB a b).2, l.getD i 0 ≤ 11 := fun i hi => by
    rcases List.mem_append.1 (show i ∈ a.2 ++ b.2 from hi) with hi | hi
    · have := h.deep a (by simp) i hi
      have := hlen a (by simp); omega
    · have := h.deep b (by simp) i hi
      have := hlen b (by simp); omega
  refine ⟨⟨hg, fun x hx => ?_, fun x hx => ?_, fun x hx i hi => ?_⟩, ?_⟩
  · rcases List.mem_cons.1 hx with rfl | hx
    · exact hwj
    · exact h.wsum x (by simp [hx])
  · rcases List.mem_cons.1 hx with rfl | hx
    · have h1 := kraft_up l (bump l (joinB a b).2) (joinB a b).2 hup hsmall
      have h2 : ((joinB a b).2.map fun i => 2 ^ (12 - l.getD i 0)).sum = 8192 := by
        show ((a.2 ++ b.2).map _).sum = _
        rw [List.map_append, List.sum_append, h.kraft a (by simp), h.kraft b (by simp)]
      omega
    · rw [List.map_congr_left (g := fun i => 2 ^ (12 - l.getD i 0)) (fun i hi => by rw [hst x hx i hi])]
      exact h.kraft x (by simp [hx])
  · rcases List.mem_cons.1 hx with rfl | hx
    · rw [hup i hi, show (joinB a b).2 = a.2 ++ b.2 from rfl, List.length_append]
      have ha : 0 < a.2.length := List.length_pos_iff.2 (h.good.ne a (by simp))
      have hb : 0 < b.2.length := List.length_pos_iff.2 (h.good.ne b (by simp))
      rcases List.mem_append.1 (show i ∈ a.2 ++ b.2 from hi) with hi | hi
      · have := h.deep a (by simp) i hi; omega
      · have := h.deep b (by simp) i hi; omega
    · rw [hst x hx i hi]
      exact h.deep x (by simp [hx]) i hi
  · have hp : (List.range n).Perm ((joinB a b).2 ++ (r.flatMap fun b => b.2)) := by
      have := hg.part
      rw [List.flatMap_cons] at this
      exact this.symm
    rw [costF_perm hp, costF_perm hp, costF_app, costF_app, costF_up ws l _ _ hup, costF_same ws l _ (r.flatMap fun b => b.2) (fun i hi => by obtain ⟨x, hx, hi⟩ := List.mem_flatMap.1 hi; exact hst x hx i hi), hwj]
    omega
theorem cheap_go (ws : Nat → Nat) (n : Nat) (hn : n ≤ 12) : ∀ (k : Nat) (o : List Br) (l : List Nat), Full ws n o l → o.length = k → 0 < k →
    ∃ s b, Huf.Huff (o.map fun b => b.1) s ∧ Full ws n [b] (cheapRun k o l) ∧ costF ws (cheapRun k o l) (List.range n) = costF ws l (List.range n) + s := by
  intro k
  induction k with
  | zero => intro o l _ _ h; omega
  | succ k ih =>
    intro o l hF hk _
    unfold cheapRun
    by_cases h1 : o.length ≤ 1
    · rw [if_pos h1]
      match o, hk, hF with
      | [b], _, hF => exact ⟨0, b, .one _, hF, rfl⟩
      | b :: c :: o, _, _ => simp at h1
    · rw [if_neg h1]
      have h2 : 2 ≤ o.length := by omega
      obtain ⟨a, b, r, -, e1, e2, hp, m1, m2⟩ := sortB_cases h2
      have hl := stepO_len h2
      obtain ⟨hF2, hc⟩ := (hF.perm hp).two hn
      have hp2 : (joinB a b :: r).Perm (stepO o) := by rw [e2]; exact List.perm_append_comm (l₁ := [joinB a b]) (l₂ := r)
      rw [e1]
      obtain ⟨s, c, g1, g2, g3⟩ := ih (stepO o) (bump l (joinB a b).2) (hF2.perm hp2) (by omega) (by omega)
      refine ⟨s + (a.1 + b.1), c, ?_, g2, by rw [g3, hc]; show _ + (a.1 + b.1) + s = _; omega⟩
      refine .step (r := r.map fun b => b.1) (hp.map _) (fun x hx => ?_) (fun x hx => ?_) (g1.perm (hp2.symm.map _))
      · obtain ⟨y, hy, rfl⟩ := List.mem_map.1 (show x ∈ (b :: r).map fun b => b.1 from hx)
        exact m1 y hy
      · obtain ⟨y, hy, rfl⟩ := List.mem_map.1 hx
        exact m2 y hy
theorem list_range {l : List Nat} {n : Nat} (h : l.length = n) : (List.range n).map (fun i => l.getD i 0) = l := by
  apply List.ext_getElem
  · simp [h]
  · intro i h1 h2
    simp only [List.getElem_map, List.getElem_range]
    rw [List.getD_eq_getElem?_getD, List.getElem?_eq_getElem h2]; rfl
def natL (l : List Nat) : List Int := l.map fun n : Nat => (n : Int)
theorem natL_len (l : List Nat) : (natL l).length = l.length := by unfold natL; rw [List.length_map]
theorem fillN_nat (l : List Nat) : fillN (natL l) = (l.map fun x => 2 ^ (12 - x)).sum := by
  unfold fillN natL
  rw [List.map_map]; rfl
theorem sum_ge {S : List Nat} (f : Nat → Nat) : ∀ {S : List Nat} {i j : Nat}, i ∈ S → j ∈ S → i ≠ j → f i + f j ≤ (S.map f).sum := by
  intro S
  have one : ∀ (S : List Nat) (i : Nat), i ∈ S → f i ≤ (S.map f).sum := by
    intro S
    induction S with
    | nil => intro i h; cases h
    | cons x S ih =>
      intro i h
      rw [List.map_cons, List.sum_cons]
      rcases List.mem_cons.1 h with rfl | h
      · omega
      · have := ih i h; omega
  induction S with
  | nil => intro i j h; cases h
  | cons x S ih =>
    intro i j hi hj hne
    rw [List.map_cons, List.sum_cons]
    rcases List.mem_cons.1 hi with rfl | hi
    · rcases List.mem_cons.1 hj with rfl | hj
      · exact absurd rfl hne
      · have := one S j hj; omega
    · rcases List.mem_cons.1 hj with rfl | hj
      · have h5 : f i ≤ (S.map f).sum := one S i (by assumption)
        omega
      · have := ih hi hj hne; omega
def wN (ws : List Int) (i : Nat) : Nat := (rd ws (i : Int)).toNat
theorem startB_w (ws : List Int) : (startB ws).map (fun b => b.1) = ws.map Int.toNat := by
  unfold startB
  rw [List.map_map]
  apply List.ext_getElem
  · simp
  · intro i h1 h2
    simp only [List.getElem_map, List.getElem_range, Function.comp]
    have h3 : i < ws.length := by simpa using h2
    unfold rd
    rw [Int.toNat_natCast, List.getD_eq_getElem?_getD, List.getElem?_eq_getElem h3]; rfl
theorem cheap_full {ws : List Int} (hw : ∀ i : Int, 0 ≤ i → i < (ws.length : Int) → 0 ≤ rd ws i ∧ rd ws i ≤ 1000) (h2 : 2 ≤ ws.length) : Full (wN ws) ws.length (startB ws) (firstL ws.length) := by
  have hm : ∀ b ∈ startB ws, ∃ i, i < ws.length ∧ b = ((rd ws (i : Int)).toNat, [i]) := fun b hb => by
    obtain ⟨i, hi, rfl⟩ := List.mem_map.1 hb
    exact ⟨i, List.mem_range.1 hi, rfl⟩
  have hz : ∀ i, (firstL ws.length).getD i 0 = 0 := fun i => by
    unfold firstL
    rw [if_neg (by omega), List.getD_eq_getElem?_getD, List.getElem?_replicate]; split <;> rfl
  refine ⟨Q.Good.start hw, fun b hb => ?_, fun b hb => ?_, fun b hb i hi => ?_⟩
  · obtain ⟨i, hi, rfl⟩ := hm b hb
    simp [wN]
  · obtain ⟨i, hi, rfl⟩ := hm b hb
    show 2 ^ (12 - (firstL ws.length).getD i 0) + 0 = 4096
    rw [hz]; rfl
  · obtain ⟨j, hj, rfl⟩ := hm b hb
    rw [hz]
    exact Nat.le_refl _
/-- The cheapest lengths. -/
theorem cheap_has {ws : List Int} (hw : ∀ i : Int, 0 ≤ i → i < (ws.length : Int) → 0 ≤ rd ws i ∧ rd ws i ≤ 1000) (h2 : 2 ≤ ws.length) (h12 : ws.length ≤ 12) :
    ∃ s, Huf.Huff (ws.map Int.toNat) s ∧ (cheapL ws).length = ws.length ∧ costF (wN ws) (cheapL ws) (List.range ws.length) = s ∧ fillN (natL (cheapL ws)) = 4096 ∧ ∀ x ∈ cheapL ws, 1 ≤ x ∧ x ≤ 12 := by
  have hst : (startB ws).length = ws.length := by unfold startB; simp
  obtain ⟨s, b, g1, g2, g3⟩ := cheap_go (wN ws) ws.length h12 ws.length (startB ws) (firstL ws.length) (cheap_full hw h2) hst (by omega)
  rw [startB_w] at g1
  have g2 : Full (wN ws) ws.length [b] (cheapL ws) := g2
  have hz : costF (wN ws) (firstL ws.length) (List.range ws.length) = 0 := by
    have : ∀ S : List Nat, costF (wN ws) (firstL ws.length) S = 0 := fun S => by
      induction S with
      | nil => rfl
      | cons i S ih =>
        unfold costF at ih ⊢
        rw [List.map_cons, List.sum_cons, ih]
        unfold firstL
        rw [if_neg (by omega), List.getD_eq_getElem?_getD, List.getElem?_replicate]; split <;> simp
    exact this _
  have hlen := g2.good.len
  have hperm : b.2.Perm (List.range ws.length) := by
    have := g2.good.part
    simpa using this
  have hk := g2.kraft b (List.mem_singleton.2 rfl)
  have hfill : fillN (natL (cheapL ws)) = 4096 := by
    rw [fillN_nat, ← hk, (hperm.map _).sum_nat]
    conv => lhs; rw [← list_range hlen]
    rw [List.map_map]; rfl
  refine ⟨s, g1, hlen, by rw [show cheapL ws = cheapRun ws.length (startB ws) (firstL ws.length) from rfl, g3, hz]; omega, hfill, fun x hx => ?_⟩
  obtain ⟨i, hi, rfl⟩ := List.getElem_of_mem hx
  have hib : i ∈ b.2 := hperm.mem_iff.2 (List.mem_range.2 (by omega))
  have hgi : (cheapL ws).getD i 0 = (cheapL ws)[i] := by rw [List.getD_eq_getElem?_getD, List.getElem?_eq_getElem hi]; rfl
  have hd := g2.deep b (List.mem_singleton.2 rfl) i hib
  have hbl : b.2.length = ws.length := by rw [hperm.length_eq, List.length_range]
  rw [hgi] at hd
  refine ⟨?_, by omega⟩
  refine Nat.pos_of_ne_zero fun h0 => ?_
  obtain ⟨j, hj, hne⟩ : ∃ j, j < ws.length ∧ i ≠ j := by
    by_cases e : i = 0
    · exact ⟨1, by omega, by omega⟩
    · exact ⟨0, by omega, e⟩
  have hjb : j ∈ b.2 := hperm.mem_iff.2 (List.mem_range.2 hj)
  have h3 := sum_ge (S := b.2) (fun i => 2 ^ (12 - (cheapL ws).getD i 0)) hib hjb hne
  rw [hk] at h3
  simp only [hgi, h0] at h3
  have h4 : 0 < 2 ^ (12 - (cheapL ws).getD j 0) := Nat.pow_pos (by decide)
  omega
theorem cheap_one {ws : List Int} (h1 : ws.length = 1) : cheapL ws = [1] := by
  unfold cheapL firstL
  rw [h1, if_pos rfl]
  unfold cheapRun startB
  rw [h1]; rfl

/-! Costs, and the smallest one, by both. -/

def wOk (ws : List Int) : Bool := oneTo 0 1000 ws
theorem outW_w {n : Int} : outW 0 1000 n = false ↔ 0 ≤ n ∧ n ≤ 1000 := by
  unfold outW; simp
structure Wts (ws : List Int) : Prop where
  pos : 0 < ws.length
  le : ws.length ≤ 12
  at_ : ∀ i : Int, 0 ≤ i → i < (ws.length : Int) → 0 ≤ rd ws i ∧ rd ws i ≤ 1000
theorem wOk_iff {ws : List Int} (h : wOk ws = true) : Wts ws := by
  obtain ⟨h1, h2, h3⟩ := oneTo_parts h
  exact ⟨h1, h2, h3⟩
/-- The sum of products, from a place on. -/
def dotF (ws L : List Int) : Nat → Nat → Int
  | _, 0 => 0
  | i, d + 1 => rd ws (i : Int) * rd L (i : Int) + dotF ws L (i + 1) d
theorem rd_natL (l : List Nat) (i : Nat) : rd (natL l) (i : Int) = (l.getD i 0 : Nat) := by
  unfold rd natL
  rw [Int.toNat_natCast, List.getD_eq_getElem?_getD, List.getElem?_map, List.getD_eq_getElem?_getD]
  cases l[i]? <;> rfl
theorem dot_cost {ws : List Int} (h : Wts ws) (l : List Nat) (d : Nat) : ∀ i, i + d ≤ ws.length → dotF ws (natL l) i d = ((costF (wN ws) l (List.range' i d) : Nat) : Int) := by
  induction d with
  | zero => intro i _; rfl
  | succ d ih =>
    intro i hi
    have hw := (h.at_ (i : Int) (by omega) (by omega)).1
    unfold dotF
    rw [ih (i + 1) (by omega), rd_natL]
    unfold costF
    rw [List.range'_succ, List.map_cons, List.sum_cons, Int.natCast_add, Int.natCast_mul]
    congr 2
    unfold wN
    omega
theorem prod_small {a b : Int} (h0 : 0 ≤ a) (h1 : a ≤ 1000) (h2 : 0 ≤ b) (h3 : b ≤ 1000) : 0 ≤ a * b ∧ a * b ≤ 1000000 := by
  refine ⟨Int.mul_nonneg h0 h2, ?_⟩
  have := Int.mul_le_mul h1 h3 h2 (by omega)
  omega
theorem cost_at {ws L : List Int} (h : Wts ws) (hl : L.length = ws.length) (hL : ∀ i : Int, 0 ≤ i → i < (ws.length : Int) → 0 ≤ rd L i ∧ rd L i ≤ 1000) (d : Nat) :
    ∀ (i : Nat) (acc : Int), i + d = ws.length → 0 ≤ acc → acc ≤ 1000000 * i → Ev (fun k => whistle_cost.l0 k L acc ws (ws.length : Int) (i : Int)) (acc + dotF ws L i d) := by
  have h12 := h.le
  induction d with
  | zero =>
    intro i acc hi h0 h1
    exact Ev.step (fun k => by rw [whistle_cost.l0]) (Ev.ifn (by omega) (Ev.val (by unfold dotF; omega)))
  | succ d ih =>
    intro i acc hi h0 h1
    obtain ⟨a1, a2⟩ := h.at_ (i : Int) (by omega) (by omega)
    obtain ⟨b1, b2⟩ := hL (i : Int) (by omega) (by omega)
    obtain ⟨p1, p2⟩ := prod_small a1 a2 b1 b2
    have q := ih (i + 1) (acc + rd ws (i : Int) * rd L (i : Int)) (by omega) (by omega) (by omega)
    have e1 : wrap64 (rd ws (i : Int) * rd L (i : Int)) = rd ws (i : Int) * rd L (i : Int) := w64 (by omega) (by omega)
    have e2 : wrap64 (acc + rd ws (i : Int) * rd L (i : Int)) = acc + rd ws (i : Int) * rd L (i : Int) := by clear e1 q ih; exact w64 (by omega) (by omega)
    have e3 : acc + dotF ws L i (d + 1) = (acc + rd ws (i : Int) * rd L (i : Int)) + dotF ws L (i + 1) d := by
      clear e1 e2 q ih
      conv => lhs; unfold dotF
      omega
    rw [e3]
    refine Ev.step (fun k => by rw [whistle_cost.l0, e1, e2, w64s (show i < 1000000000000000000 by omega)]) (Ev.ifp (by omega) (Ev.ifp (by omega) (Ev.ifp (by omega) (Ev.ifp (by omega) ?_))))
    exact q
theorem cost_ev {ws L : List Int} (h : Wts ws) (hl : L.length = ws.length) (hL : ∀ i : Int, 0 ≤ i → i < (ws.length : Int) → 0 ≤ rd L i ∧ rd L i ≤ 1000) : Ev (fun k => whistle_cost.f k ws L) (dotF ws L 0 ws.length) := by
  have := cost_at h hl hL ws.length 0 0 (by omega) (Int.le_refl _) (by omega)
  rw [Int.zero_add] at this
  exact this
theorem rweight_at (l : List Int) (hl : l.length ≤ 12) (d : Nat) : ∀ i, i + d = l.length → Ev (fun k => wigeonref05_weightsOK.l0 k l (i : Int)) (errB (!(l.drop i).any (outW 0 1000))) := by
  induction d with
  | zero =>
    intro i hi
    rw [List.drop_eq_nil_of_le (by omega)]
    exact Ev.step (fun k => by rw [wigeonref05_weightsOK.l0]) (Ev.ifn (by omega) (Ev.val (by rfl)))
  | succ d ih =>
    intro i hi
    rw [drop_rd (show i < l.length by omega), List.any_cons]
    refine Ev.step (fun k => by rw [wigeonref05_weightsOK.l0, w64s (show i < 1000000000000000000 by omega)]) (Ev.ifp (by omega) (Ev.ifp (by omega) ?_))
    by_cases h1 : rd l (i : Int) < 0
    · have e : outW 0 1000 (rd l (i : Int)) = true := by rw [← Bool.not_eq_false, outW_w]; omega
      rw [e]
      exact Ev.ifp h1 (Ev.val (by rfl))
    · refine Ev.ifn h1 ?_
      by_cases h2 : rd l (i : Int) > 1000
      · have e : outW 0 1000 (rd l (i : Int)) = true := by rw [← Bool.not_eq_false, outW_w]; omega
        rw [e]
        exact Ev.ifp h2 (Ev.val (by rfl))
      · have e : outW 0 1000 (rd l (i : Int)) = false := outW_w.2 (by omega)
        rw [e, Bool.false_or]
        exact Ev.ifn h2 (ih (i + 1) (by omega))
theorem rweight_ev (l : List Int) : Ev (fun k => wigeonref05_weightsOK.f k l) (errB (wOk l)) := by
  unfold wigeonref05_weightsOK.f wOk oneTo
  by_cases h1 : l.length < 1
  · rw [decide_eq_true h1]
    exact Ev.ifp (by omega) (Ev.step (fun k => by rw [wigeonref05_weightsOK.j0]) (Ev.ifp rfl (Ev.val (by rfl))))
  · rw [decide_eq_false h1]
    refine Ev.ifn (by omega) (Ev.step (fun k => by rw [wigeonref05_weightsOK.j0]) ?_)
    by_cases h2 : 12 < l.length
    · rw [decide_eq_true h2]
      exact Ev.ifp (decide_eq_true (by omega)) (Ev.val (by rfl))
    · rw [decide_eq_false h2]
      have := rweight_at l (by omega) l.length 0 (by omega)
      rw [List.drop_zero] at this
      rw [Bool.false_or, Bool.false_or]
      exact Ev.ifn (by rw [decide_eq_true_eq]; omega) this
/-- What Cheapest's cost is. -/
def cheapC (ws : List Int) : Int := dotF ws (natL (cheapL ws)) 0 ws.length
theorem cheapL_ok {ws : List Int} (h : Wts ws) : (cheapL ws).length = ws.length ∧ (∀ x ∈ cheapL ws, 1 ≤ x ∧ x ≤ 12) ∧ fillN (natL (cheapL ws)) ≤ 4096 := by
  by_cases h1 : ws.length = 1
  · rw [cheap_one h1]
    exact ⟨h1.symm, fun x hx => by obtain rfl := List.mem_singleton.1 hx; omega, by decide⟩
  · obtain ⟨s, -, g2, -, g4, g5⟩ := cheap_has h.at_ (by have := h.pos; omega) h.le
    exact ⟨g2, g5, Nat.le_of_eq g4⟩
theorem cheap_small {ws : List Int} (h : Wts ws) (i : Int) (h0 : 0 ≤ i) (h1 : i < (ws.length : Int)) : 0 ≤ rd (natL (cheapL ws)) i ∧ rd (natL (cheapL ws)) i ≤ 1000 := by
  obtain ⟨a1, a2, -⟩ := cheapL_ok h
  obtain ⟨n, rfl⟩ : ∃ n : Nat, i = (n : Int) := ⟨i.toNat, by omega⟩
  rw [rd_natL]
  have hn : n < (cheapL ws).length := by omega
  have := a2 _ (List.getElem_mem hn)
  have e : (cheapL ws).getD n 0 = (cheapL ws)[n] := by rw [List.getD_eq_getElem?_getD, List.getElem?_eq_getElem hn]; rfl
  omega
theorem cheap_ev {ws : List Int} (hw : wOk ws = true) : Ev (fun k => whistle_Cheapest.f k ws) (natL (cheapL ws), cheapC ws, 0) := by
  have h := wOk_iff hw
  unfold whistle_Cheapest.f
  refine Ev.ifp hw ?_
  have hc := cost_ev h (L := natL (cheapL ws)) (by rw [natL_len]; exact (cheapL_ok h).1) (cheap_small h)
  obtain ⟨K, hK⟩ := hc
  exact ⟨K, fun k hk => by
    have this : whistle_cost.f k ws (natL (cheapL ws)) = some (dotF ws (natL (cheapL ws)) 0 ws.length) := hK k hk
    show (whistle_cost.f k ws (natL (cheapL ws))).map _ = _
    rw [this]; rfl⟩
theorem cheap_none {ws : List Int} (hw : wOk ws = false) : Ev (fun k => whistle_Cheapest.f k ws) ([], 0, 1) := by
  unfold whistle_Cheapest.f
  exact Ev.ifn (by rw [show oneTo 0 1000 ws = wOk ws from rfl, hw]; decide) (Ev.now _)
theorem range0 (n : Nat) : List.range n = List.range' 0 n := List.range_eq_range'
/-- It is the sum of the joined weights. -/
theorem cheap_cost {ws : List Int} (h : Wts ws) (h2 : 2 ≤ ws.length) : ∃ s, Huf.Huff (ws.map Int.toNat) s ∧ cheapC ws = (s : Int) := by
  obtain ⟨s, g1, -, g3, -, -⟩ := cheap_has h.at_ h2 h.le
  refine ⟨s, g1, ?_⟩
  unfold cheapC
  rw [dot_cost h _ _ 0 (by omega), ← range0, g3]
theorem cheap_cost1 {ws : List Int} (h1 : ws.length = 1) : cheapC ws = rd ws 0 := by
  unfold cheapC
  rw [cheap_one h1, h1]
  unfold dotF dotF
  rw [rd_natL]
  show rd ws 0 * 1 + 0 = _
  omega
/-- The costs of a code. -/
def costV (ws : List Int) (C : List ByteArray) : Int × Int := if valP C ≠ 0 then (0, valP C) else if wOk ws = true ∧ ws.length = C.length then (dotF ws (lensC C) 0 ws.length, 0) else (0, 1)
theorem rd_lens (C : List ByteArray) (i : Nat) (h : i < C.length) : rd (lensC C) (i : Int) = ((gt C i).size : Int) := by
  unfold rd lensC gt
  rw [Int.toNat_natCast, List.getD_eq_getElem?_getD, List.getElem?_map, List.getD_eq_getElem?_getD, List.getElem?_eq_getElem h]; rfl
theorem lens_small {C : List ByteArray} (v : Valid C) (i : Int) (h0 : 0 ≤ i) (h1 : i < (C.length : Int)) : 0 ≤ rd (lensC C) i ∧ rd (lensC C) i ≤ 1000 := by
  obtain ⟨n, rfl⟩ : ∃ n : Nat, i = (n : Int) := ⟨i.toNat, by omega⟩
  rw [rd_lens C n (by omega)]
  have := v.size12 (gt C n) (getD_mem (by omega))
  omega
theorem lensC_len' (C : List ByteArray) : (lensC C).length = C.length := by unfold lensC; rw [List.length_map]
theorem costV_pay {ws : List Int} {C : List ByteArray} (hv : valP C = 0) : costV ws C = if wOk ws = true ∧ ws.length = C.length then (dotF ws (lensC C) 0 ws.length, 0) else (0, 1) := by
  unfold costV; rw [if_neg (by omega)]
theorem pcost_ev (ws : List Int) {C : List ByteArray} (hS : Sized C) : Ev (fun k => whistle_Cost.f k ws C) (costV ws C) := by
  unfold whistle_Cost.f
  refine Ev.bind (val_ev C hS) ?_
  by_cases hv : valP C = 0
  · rw [hv, costV_pay hv]
    have v := valP_zero.1 hv
    refine Ev.ifp rfl ?_
    unfold whistle_weighed.f
    refine Ev.some_bind ?_
    by_cases hw : wOk ws = true
    · rw [show oneTo 0 1000 ws = wOk ws from rfl, hw]
      have h := wOk_iff hw
      refine Ev.ifp rfl (Ev.step (fun k => by rw [whistle_Cost.j0]) ?_)
      by_cases hl : ws.length = C.length
      · rw [if_pos ⟨rfl, hl⟩]
        refine Ev.ifn (by simp; omega) (Ev.bind (lengths_ev (by have := v.few; omega)) (Ev.bind (cost_ev h (by rw [lensC_len']; omega) (fun i h0 h1 => lens_small v i h0 (by omega))) (Ev.now _)))
      · rw [if_neg (fun h => hl h.2)]
        exact Ev.ifp (by simp; omega) (Ev.now _)
    · rw [if_neg (fun h => hw h.1), show oneTo 0 1000 ws = wOk ws from rfl, Bool.eq_false_iff.2 hw]
      exact Ev.ifn (by decide) (Ev.step (fun k => by rw [whistle_Cost.j0]) (Ev.ifp rfl (Ev.now _)))
  · unfold costV
    rw [if_pos hv]
    exact Ev.ifn hv (Ev.now _)
theorem rcost_at {ws : List Int} {C : List ByteArray} (h : Wts ws) (v : Valid C) (hl : ws.length = C.length) (d : Nat) :
    ∀ (i : Nat) (acc : Int), i + d = C.length → 0 ≤ acc → acc ≤ 1000000 * i → Ev (fun k => wigeonref05_Cost.l0 k ws C acc (i : Int)) (acc + dotF ws (lensC C) i d, 0) := by
  have h12 := h.le
  induction d with
  | zero =>
    intro i acc hi h0 h1
    exact Ev.step (fun k => by rw [wigeonref05_Cost.l0]) (Ev.ifn (by omega) (Ev.val (by unfold dotF; rw [Int.add_zero])))
  | succ d ih =>
    intro i acc hi h0 h1
    obtain ⟨a1, a2⟩ := h.at_ (i : Int) (by omega) (by omega)
    obtain ⟨b1, b2⟩ := lens_small v (i : Int) (by omega) (by omega)
    have e0 := rd_lens C i (by omega)
    obtain ⟨p1, p2⟩ := prod_small a1 a2 b1 b2
    rw [e0] at p1 p2
    have q := ih (i + 1) (acc + rd ws (i : Int) * ((gt C i).size : Int)) (by omega) (by omega) (by omega)
    have e1 : wrap64 (rd ws (i : Int) * ((gt C i).size : Int)) = rd ws (i : Int) * ((gt C i).size : Int) := w64 (by omega) (by omega)
    have e2 : wrap64 (acc + rd ws (i : Int) * ((gt C i).size : Int)) = acc + rd ws (i : Int) * ((gt C i).size : Int) := by clear e1 q ih; exact w64 (by omega) (by omega)
    have e3 : acc + dotF ws (lensC C) i (d + 1) = (acc + rd ws (i : Int) * ((gt C i).size : Int)) + dotF ws (lensC C) (i + 1) d := by
      conv => lhs; unfold dotF
      rw [e0]; omega
    rw [e3]
    refine Ev.step (fun k => by rw [wigeonref05_Cost.l0, rdOf_gt, e1, e2, w64s (show i < 1000000000000000000 by omega)]) (Ev.ifp (by omega) (Ev.ifp (by omega) (Ev.ifp (by omega) ?_)))
    exact q
theorem rcost_ev (ws : List Int) {C : List ByteArray} (hS : Sized C) : Ev (fun k => wigeonref05_Cost.f k ws C) (costV ws C) := by
  unfold wigeonref05_Cost.f
  refine Ev.bind (rval_ev C hS) ?_
  by_cases hv : valP C = 0
  · rw [hv, costV_pay hv]
    have v := valP_zero.1 hv
    have hk := rweight_ev ws
    refine Ev.ifp rfl (Ev.bind hk ?_)
    by_cases hw : wOk ws = true
    · rw [hw]
      have h := wOk_iff hw
      refine Ev.ifp rfl (Ev.step (fun k => by rw [wigeonref05_Cost.j0]) ?_)
      by_cases hl : ws.length = C.length
      · rw [if_pos ⟨rfl, hl⟩]
        refine Ev.ifn (by simp; omega) ?_
        have := rcost_at h v hl C.length 0 0 (by omega) (Int.le_refl _) (by omega)
        rw [Int.zero_add, ← hl] at this
        exact this
      · rw [if_neg (fun h => hl h.2)]
        exact Ev.ifp (by simp; omega) (Ev.now _)
    · rw [if_neg (fun h => hw h.1), Bool.eq_false_iff.2 hw]
      exact Ev.ifn (by decide) (Ev.step (fun k => by rw [wigeonref05_Cost.j0]) (Ev.ifp rfl (Ev.now _)))
  · unfold costV
    rw [if_pos hv]
    exact Ev.ifn hv (Ev.now _)
/-- No safe code costs less. -/
theorem cheap_least {ws : List Int} {C : List ByteArray} (h : Wts ws) (v : Valid C) (hl : ws.length = C.length) (hf : fillN (lensC C) ≤ 4096) : cheapC ws ≤ dotF ws (lensC C) 0 ws.length := by
  have e : lensC C = natL (C.map fun s => s.size) := by unfold lensC natL; rw [List.map_map]; rfl
  by_cases h1 : ws.length = 1
  · rw [cheap_cost1 h1, h1]
    unfold dotF dotF
    have hs := v.size1 (gt C 0) (getD_mem (by omega))
    have hw := (h.at_ 0 (Int.le_refl _) (by omega)).1
    have e0 := rd_lens C 0 (by omega)
    rw [e0]
    show rd ws 0 ≤ rd ws 0 * _ + 0
    have := Int.mul_le_mul_of_nonneg_left (show (1 : Int) ≤ ((gt C 0).size : Int) by omega) hw
    omega
  · obtain ⟨s, g1, g2⟩ := cheap_cost h (by have := h.pos; omega)
    rw [g2, e, dot_cost h _ _ 0 (by omega), ← range0]
    have hP := Huf.huff_le g1 ((List.range ws.length).map fun i => (wN ws i, (gt C i).size)) 12 ?_ ⟨fun p hp => ?_, ?_⟩
    · have : Huf.costP ((List.range ws.length).map fun i => (wN ws i, (gt C i).size)) = costF (wN ws) (C.map fun s => s.size) (List.range ws.length) := by
        unfold Huf.costP costF
        rw [List.map_map]
        congr 1
        refine List.map_congr_left fun i hi => ?_
        have hi : i < C.length := by rw [← hl]; exact List.mem_range.1 hi
        show wN ws i * (gt C i).size = _
        congr 1
        unfold gt
        rw [List.getD_eq_getElem?_getD, List.getD_eq_getElem?_getD, List.getElem?_map, List.getElem?_eq_getElem hi]; rfl
      omega
    · rw [List.map_map]
      have : (List.range ws.length).map (Prod.fst ∘ fun i => (wN ws i, (gt C i).size)) = ws.map Int.toNat := by
        rw [← startB_w]
        unfold startB
        rw [List.map_map]; rfl
      rw [this]
    · obtain ⟨i, hi, rfl⟩ := List.mem_map.1 hp
      have hi : i < C.length := by rw [← hl]; exact List.mem_range.1 hi
      exact v.size12 _ (getD_mem hi)
    · have : Huf.fillP 12 ((List.range ws.length).map fun i => (wN ws i, (gt C i).size)) = fillN (lensC C) := by
        rw [e, fillN_nat]
        unfold Huf.fillP
        rw [List.map_map, hl]
        congr 1
        apply List.ext_getElem
        · simp
        · intro i h1 h2
          simp only [List.getElem_map, List.getElem_range, Function.comp]
          have hi : i < C.length := by simpa using h2
          unfold gt
          rw [List.getD_eq_getElem?_getD, List.getElem?_eq_getElem hi]; rfl
      rw [this]; exact hf

end Go.Proofs.Ytpkafcoflgbnaaa.Pure
