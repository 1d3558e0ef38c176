-- What the plain law WhistleCheapest needs, out of the Libs of this seat.
import Derived.Test.YtpkafcoflgbnaaaQx2
import Derived.Test.YtpkafcoflgbnaaaQx10
import Derived.Test.YtpkafcoflgbnaaaQx11
import Derived.Test.YtpkafcoflgbnaaaQx18
import Derived.Test.YtpkafcoflgbnaaaQx20
import Derived.Test.YtpkafcoflgbnaaaQx29
import Derived.Test.YtpkafcoflgbnaaaQx30
import Derived.Test.YtpkafcoflgbnaaaQx31
import Derived.Test.YtpkafcoflgbnaaaWh1
import Derived.Test.YtpkafcoflgbnaaaWh4
import Derived.Test.YtpkafcoflgbnaaaLibSP
import Derived.Sort.LotA
import Derived.Sort.Walk0
import Derived.Test.YtpkafcoflgbnaaaLibMc
import Derived.Test.YtpkafcoflgbnaaaWh5
import Derived.Test.YtpkafcoflgbnaaaWh6
import Derived.Test.YtpkafcoflgbnaaaWhP1
namespace Go.Proofs.Ytpkafcoflgbnaaa.Pure
open Go.RowKit Go.Proofs.Ytpkafcoflgbnaaa.Q Go.Proofs.YtpkafcoflgbnaaaW.PrintWords Go.Proofs.YtpkafcoflgbnaaaW.PrintLast
open Go.RowKit Go.Proofs.Ytpkafcoflgbnaaa.Q Go.Proofs.YtpkafcoflgbnaaaW.PrintWords Go.Proofs.YtpkafcoflgbnaaaW.PrintLast Go.Proofs.YtpkafcoflgbnaaaW.PrintMore
set_option linter.unusedVariables false


/-! Rounds; texts and lists; which codes and messages are valid. -/

theorem Ev.ifp {α : Type} {c : Prop} [Decidable c] {f g : Nat → Option α} {r : α} (h : c) (k : Ev f r) : Ev (fun n => if c then f n else g n) r := by
  obtain ⟨K, k⟩ := k
  exact ⟨K, fun n hn => by show (if c then f n else g n) = some r; rw [if_pos h]; exact k n hn⟩
theorem Ev.ifn {α : Type} {c : Prop} [Decidable c] {f g : Nat → Option α} {r : α} (h : ¬ c) (k : Ev g r) : Ev (fun n => if c then f n else g n) r := by
  obtain ⟨K, k⟩ := k
  exact ⟨K, fun n hn => by show (if c then f n else g n) = some r; rw [if_neg h]; exact k n hn⟩
theorem Ev.some_bind {α β : Type} {f : Nat → α → Option β} {a : α} {r : β} (k : Ev (fun n => f n a) r) : Ev (fun n => (some a).bind (f n)) r := k
theorem Ev.val {α : Type} {a r : α} (h : a = r) : Ev (fun _ => some a) r := by
  subst h
  exact Ev.now _
theorem w64 {a : Int} (h0 : -9223372036854775808 ≤ a) (h1 : a < 9223372036854775808) : wrap64 a = a := by unfold wrap64; omega
theorem w64s {i : Nat} (h : i < 1000000000000000000) : wrap64 ((i : Int) + 1) = ((i + 1 : Nat) : Int) := by rw [w64 (by omega) (by omega)]; omega
theorem rdOf_nat {α : Type} (d : α) (C : List α) (i : Nat) : rdOf d C (i : Int) = C.getD i d := by unfold rdOf; rw [Int.toNat_natCast]
theorem rd_nat (l : List Int) (i : Nat) : rd l (i : Int) = l.getD i 0 := by unfold rd; rw [Int.toNat_natCast]
theorem str_eq {a b : ByteArray} : a.toList = b.toList ↔ a = b := by
  rw [ByteArray.toList_eq, ByteArray.toList_eq]
  constructor
  · intro h
    cases a; cases b
    simp only [Array.toList_inj] at h
    rw [h]
  · intro h; rw [h]
theorem getD_mem {α : Type} {C : List α} {i : Nat} {d : α} (h : i < C.length) : C.getD i d ∈ C := by
  rw [List.getD_eq_getElem?_getD, List.getElem?_eq_getElem h]; exact List.getElem_mem h
theorem mem_getD {α : Type} {C : List α} {x d : α} (h : x ∈ C) : ∃ i, i < C.length ∧ C.getD i d = x := by
  obtain ⟨i, hi, rfl⟩ := List.mem_iff_getElem.1 h
  exact ⟨i, hi, by rw [List.getD_eq_getElem?_getD, List.getElem?_eq_getElem hi]; rfl⟩

/-! Lists of texts: long, the same, what is in them; which texts begin with which. -/

def gt (C : List ByteArray) (i : Nat) : ByteArray := C.getD i ByteArray.empty
theorem rdOf_gt (C : List ByteArray) (i : Nat) : rdOf ByteArray.empty C (i : Int) = gt C i := rdOf_nat _ _ _
theorem drop_gt {C : List ByteArray} {i : Nat} (h : i < C.length) : C.drop i = gt C i :: C.drop (i + 1) := by
  rw [List.drop_eq_getElem_cons h]
  congr 1
  unfold gt
  rw [List.getD_eq_getElem?_getD, List.getElem?_eq_getElem h]; rfl
theorem drop_rd {l : List Int} {i : Nat} (h : i < l.length) : l.drop i = rd l (i : Int) :: l.drop (i + 1) := by
  rw [List.drop_eq_getElem_cons h, rd_nat]
  congr 1
  rw [List.getD_eq_getElem?_getD, List.getElem?_eq_getElem h]; rfl
def bigC : Nat := 1000000000000000000
def longP (C : List ByteArray) : Bool := C.any (fun s => decide (100 < s.size)) || decide (60 < C.length)
theorem inS_iff {l : List ByteArray} {x : ByteArray} : Go.Lib.containsS l x = true ↔ x ∈ l := Go.Lib.containsS_iff l x
theorem inS_eq {l m : List ByteArray} {x y : ByteArray} (h : x ∈ l ↔ y ∈ m) : Go.Lib.containsS l x = Go.Lib.containsS m y := by rw [Bool.eq_iff_iff, inS_iff, inS_iff]; exact h
theorem inS_true {l : List ByteArray} {x : ByteArray} (h : x ∈ l) : Go.Lib.containsS l x = true := inS_iff.2 h
theorem inS_false {l : List ByteArray} {x : ByteArray} (h : x ∉ l) : Go.Lib.containsS l x = false := by rw [Bool.eq_false_iff]; exact fun e => h (inS_iff.1 e)

/-! What the document gives; which codes are valid, by the program and by the reference. -/

theorem mem_sortS {o : List ByteArray} {x : ByteArray} : x ∈ sortS o ↔ x ∈ o := by
  unfold sortS
  rw [List.mem_map]
  constructor
  · rintro ⟨b, hb, rfl⟩
    rw [List.mem_mergeSort, List.mem_map] at hb
    obtain ⟨y, hy, rfl⟩ := hb
    exact hy
  · intro h
    exact ⟨x.data.toList, by rw [List.mem_mergeSort, List.mem_map]; exact ⟨x, h, rfl⟩, rfl⟩
theorem known1 : whistle_FromLengths.f 30 [2, 1, 2] = some ([⟨#[45, 46]⟩, ⟨#[46]⟩, ⟨#[45, 45]⟩], 0) := by decide +kernel
theorem known2v : whistle_Validate.f 30 [⟨#[46]⟩, ⟨#[46, 45]⟩] = some 0 := by decide +kernel
theorem known3v : whistle_Validate.f 30 [⟨#[46]⟩, ⟨#[46, 45]⟩, ⟨#[45, 46]⟩] = some 0 := by decide +kernel
theorem known2e : goB [⟨#[46]⟩, ⟨#[46, 45]⟩] 30 (outA [⟨#[46]⟩, ⟨#[46, 45]⟩] 2) 0 = some [⟨#[45]⟩] := by decide +kernel
theorem known3e : goB [⟨#[46]⟩, ⟨#[46, 45]⟩, ⟨#[45, 46]⟩] 30 (outA [⟨#[46]⟩, ⟨#[46, 45]⟩, ⟨#[45, 46]⟩] 3) 0 = some [⟨#[45]⟩, ⟨#[46]⟩] := by decide +kernel
theorem safe_of {k : Nat} {C o : List ByteArray} (hv : whistle_Validate.f k C = some 0) (hC : C.length ≤ 100) (ho : goB C k (outA C C.length) 0 = some o) : whistle_IsSafe.f k C = some (!(C.any (Go.Lib.containsS o)), 0) := by
  unfold whistle_IsSafe.f endsL
  rw [hv, if_pos hC, ho]
  show some (!(C.any (Go.Lib.containsS (sortS o))), (0 : Int)) = _
  congr 3
  rw [Bool.eq_iff_iff, List.any_eq_true, List.any_eq_true]
  exact ⟨fun ⟨x, h1, h2⟩ => ⟨x, h1, inS_iff.2 (mem_sortS.1 (inS_iff.1 h2))⟩, fun ⟨x, h1, h2⟩ => ⟨x, h1, inS_iff.2 (mem_sortS.2 (inS_iff.1 h2))⟩⟩
theorem known_ev : Ev (fun k => wigeonlaw05_known.f k) true := by
  refine Ev.of (k := 30) (fun k => wigeonlaw05_known.mono k) ?_
  unfold wigeonlaw05_known.f
  rw [known1, safe_of known2v (by decide) known2e, safe_of known3v (by decide) known3e]
  decide +kernel
theorem known_bind {r : Bool} (h : r = true) : Ev (fun k => (wigeonlaw05_known.f k).bind fun t => some t) r := by
  subst h
  exact Ev.bind known_ev (Ev.now _)
/-! Notes. -/
def noteB (b : UInt8) : Bool := b == 46 || b == 45
theorem noteB_iff {b : UInt8} : noteB b = true ↔ b = 46 ∨ b = 45 := by unfold noteB; simp
theorem bt_nat {s : ByteArray} {i : Nat} (h : i < s.data.toList.length) : bt s (i : Int) = ((s.data.toList[i].toNat : Nat) : Int) := by
  have h2 : i < s.size := by rwa [Array.length_toList] at h
  exact w_bt_of h2
theorem noteW_byte (b : UInt8) : noteW ((b.toNat : Nat) : Int) = noteB b := by
  rw [Bool.eq_iff_iff, noteB_iff]
  unfold noteW
  rw [Bool.or_eq_true, decide_eq_true_eq, decide_eq_true_eq]
  constructor
  · rintro (h | h)
    · exact .inl (UInt8.toNat_inj.1 (by show b.toNat = 46; omega))
    · exact .inr (UInt8.toNat_inj.1 (by show b.toNat = 45; omega))
  · rintro (rfl | rfl)
    · exact .inl rfl
    · exact .inr rfl
theorem notesP_list (s : ByteArray) : notesP s = s.data.toList.all noteB := by
  unfold notesP
  rw [Bool.eq_iff_iff, List.all_eq_true, List.all_eq_true]
  constructor
  · intro h b hb
    obtain ⟨i, hi, rfl⟩ := List.mem_iff_getElem.1 hb
    have := h i (List.mem_range.2 (by rwa [Array.length_toList] at hi))
    rwa [bt_nat hi, noteW_byte] at this
  · intro h i hi
    have hi := List.mem_range.1 hi
    have hi2 : i < s.data.toList.length := by rwa [Array.length_toList]
    rw [bt_nat hi2, noteW_byte]
    exact h _ (List.getElem_mem hi2)
theorem isNotes_at (s : ByteArray) (hs : s.size < bigC) (d : Nat) : ∀ i, i + d = s.size → Ev (fun k => wigeonref05_isNotes.l0 k s (i : Int)) ((s.data.toList.drop i).all noteB) := by
  unfold bigC at hs
  have hlen : s.data.toList.length = s.size := Array.length_toList
  induction d with
  | zero =>
    intro i hi
    rw [List.drop_eq_nil_of_le (by omega)]
    exact Ev.step (fun k => by rw [wigeonref05_isNotes.l0]) (Ev.ifn (by omega) (Ev.val (by rfl)))
  | succ d ih =>
    intro i hi
    have h2 : i < s.data.toList.length := by omega
    rw [List.drop_eq_getElem_cons h2, List.all_cons]
    refine Ev.step (fun k => by rw [wigeonref05_isNotes.l0]) (Ev.ifp (by omega) (Ev.ifp (by omega) ?_))
    rw [bt_nat h2]
    have hn := noteW_byte s.data.toList[i]
    generalize s.data.toList[i] = b at *
    unfold noteW at hn
    by_cases h : ((b.toNat : Nat) : Int) = 46
    · refine Ev.ifp h ?_
      rw [decide_eq_true h] at hn
      rw [← hn, Bool.true_or, Bool.true_and, w64s (by omega)]
      exact ih (i + 1) (by omega)
    · refine Ev.ifn h ?_
      rw [decide_eq_false h, Bool.false_or] at hn
      by_cases h5 : ((b.toNat : Nat) : Int) = 45
      · refine Ev.ifp h5 ?_
        rw [decide_eq_true h5] at hn
        rw [← hn, Bool.true_and, w64s (by omega)]
        exact ih (i + 1) (by omega)
      · refine Ev.ifn h5 (Ev.val ?_)
        rw [decide_eq_false h5] at hn
        rw [← hn, Bool.false_and]
theorem isNotes_ev (s : ByteArray) (hs : s.size < bigC) : Ev (fun k => wigeonref05_isNotes.f k s) (notesP s) := by
  have := isNotes_at s hs s.size 0 (by omega)
  rw [List.drop_zero, ← notesP_list] at this
  exact this
/-! Validate. -/
def okS (s : ByteArray) : Bool := decide (1 ≤ s.size) && decide (s.size ≤ 12) && notesP s
def valAt (C : List ByteArray) : Nat → Nat → Int
  | 0, _ => 0
  | d + 1, i => if okS (gt C i) = false then 1 else if Go.Lib.containsS (C.take i) (gt C i) = true then 5 else valAt C d (i + 1)
def valP (C : List ByteArray) : Int := if C.length < 1 ∨ 12 < C.length then 3 else valAt C C.length 0
def Sized (C : List ByteArray) : Prop := ∀ s ∈ C, s.size ≤ 140737488351232
theorem Sized.gt {C : List ByteArray} (h : Sized C) (i : Nat) : (gt C i).size ≤ 140737488351232 := by
  by_cases hi : i < C.length
  · exact h _ (getD_mem hi)
  · unfold Pure.gt
    rw [List.getD_eq_getElem?_getD, List.getElem?_eq_none (by omega)]
    decide
theorem rval_in (C : List ByteArray) (hC : C.length ≤ 12) (i : Nat) (hi : i < C.length) (r0 : Int) (hr : Ev (fun k => wigeonref05_Validate.l0 k C ((i + 1 : Nat) : Int)) r0) (d : Nat) : ∀ j, j + d = i → Ev (fun k => wigeonref05_Validate.l1 k C (i : Int) (j : Int)) (if Go.Lib.containsS ((C.take i).drop j) (gt C i) = true then 5 else r0) := by
  induction d with
  | zero =>
    intro j hj
    rw [List.drop_eq_nil_of_le (by rw [List.length_take]; omega), inS_false (by simp), if_neg (by decide)]
    refine Ev.step (fun k => by rw [wigeonref05_Validate.l1]) (Ev.ifn (by omega) ?_)
    rw [w64s (by omega)]
    exact hr
  | succ d ih =>
    intro j hj
    have hg : gt (C.take i) j = gt C j := by
      unfold gt
      rw [List.getD_eq_getElem?_getD, List.getD_eq_getElem?_getD, List.getElem?_take_of_lt (by omega)]
    rw [drop_gt (show j < (C.take i).length by rw [List.length_take]; omega), hg]
    refine Ev.step (fun k => by rw [wigeonref05_Validate.l1, rdOf_gt, rdOf_gt]) (Ev.ifp (by omega) (Ev.ifp (by omega) (Ev.ifp (by omega) (Ev.ifp (by omega) (Ev.ifp (by omega) ?_)))))
    by_cases h : gt C j = gt C i
    · rw [inS_true (by rw [h]; simp), if_pos rfl]
      exact Ev.ifp (str_eq.2 h) (Ev.now _)
    · refine Ev.ifn (fun e => h (str_eq.1 e)) ?_
      rw [w64s (by omega)]
      have := ih (j + 1) (by omega)
      rwa [inS_eq (l := gt C j :: (C.take i).drop (j + 1)) (m := (C.take i).drop (j + 1)) (x := gt C i) (y := gt C i) (by rw [List.mem_cons]; exact ⟨fun e => e.resolve_left (fun e => h e.symm), .inr⟩)]
theorem rval_at (C : List ByteArray) (hC : C.length ≤ 12) (hS : Sized C) (d : Nat) : ∀ i, i + d = C.length → Ev (fun k => wigeonref05_Validate.l0 k C (i : Int)) (valAt C d i) := by
  induction d with
  | zero =>
    intro i hi
    exact Ev.step (fun k => by rw [wigeonref05_Validate.l0]) (Ev.ifn (by omega) (Ev.val (by rfl)))
  | succ d ih =>
    intro i hi
    have hs := hS.gt i
    have hj1 : Ev (fun k => wigeonref05_Validate.j2 k C (i : Int) true) 1 := Ev.step (fun k => by rw [wigeonref05_Validate.j2]) (Ev.ifp rfl (Ev.now _))
    unfold valAt
    refine Ev.step (fun k => by rw [wigeonref05_Validate.l0, rdOf_gt]) (Ev.ifp (by omega) (Ev.ifp (by omega) ?_))
    by_cases h1 : 1 ≤ (gt C i).size
    · refine Ev.ifn (by omega) ?_
      by_cases h2 : (gt C i).size ≤ 12
      · refine Ev.ifn (by omega) (Ev.bind (isNotes_ev _ (by unfold bigC; omega)) ?_)
        have hok : okS (gt C i) = notesP (gt C i) := by unfold okS; rw [decide_eq_true h1, decide_eq_true h2]; rfl
        rw [hok]
        cases hn : notesP (gt C i)
        · rw [if_pos rfl]; exact hj1
        · rw [if_neg (by decide)]
          refine Ev.step (fun k => by rw [wigeonref05_Validate.j2]) (Ev.ifn (by decide) ?_)
          have h0 : Ev (fun k => wigeonref05_Validate.l1 k C (i : Int) 0) (if Go.Lib.containsS ((C.take i).drop 0) (gt C i) = true then 5 else valAt C d (i + 1)) := rval_in C hC i (by omega) _ (ih (i + 1) (by omega)) i 0 (by omega)
          rwa [List.drop_zero] at h0
      · refine Ev.ifp (by omega) ?_
        rw [if_pos (by unfold okS; rw [decide_eq_false h2, Bool.and_false, Bool.false_and])]
        exact hj1
    · refine Ev.ifp (by omega) ?_
      rw [if_pos (by unfold okS; rw [decide_eq_false h1, Bool.false_and, Bool.false_and])]
      exact hj1
theorem rval_ev (C : List ByteArray) (hS : Sized C) : Ev (fun k => wigeonref05_Validate.f k C) (valP C) := by
  unfold wigeonref05_Validate.f valP
  have hj : Ev (fun k => wigeonref05_Validate.j0 k C true) 3 := Ev.step (fun k => by rw [wigeonref05_Validate.j0]) (Ev.ifp rfl (Ev.now _))
  by_cases h1 : C.length < 1
  · rw [if_pos (.inl h1)]
    exact Ev.ifp (by omega) hj
  · refine Ev.ifn (by omega) ?_
    by_cases h2 : 12 < C.length
    · rw [if_pos (.inr h2), decide_eq_true (show (C.length : Int) > 12 by omega)]
      exact hj
    · rw [if_neg (by omega), decide_eq_false (show ¬ (C.length : Int) > 12 by omega)]
      have h0 : Ev (fun k => wigeonref05_Validate.l0 k C 0) (valAt C C.length 0) := rval_at C (by omega) hS C.length 0 (by omega)
      exact Ev.step (fun k => by rw [wigeonref05_Validate.j0]) (Ev.ifn (by decide) h0)
/-- A valid code. -/
structure Valid (C : List ByteArray) : Prop where
  pos : 1 ≤ C.length
  few : C.length ≤ 12
  size1 : ∀ s ∈ C, 1 ≤ s.size
  size12 : ∀ s ∈ C, s.size ≤ 12
  notes : ∀ s ∈ C, notesP s = true
  nodup : C.Nodup
theorem okS_iff {s : ByteArray} : okS s = true ↔ 1 ≤ s.size ∧ s.size ≤ 12 ∧ notesP s = true := by
  unfold okS
  rw [Bool.and_eq_true, Bool.and_eq_true, decide_eq_true_eq, decide_eq_true_eq]
  exact and_assoc
theorem valAt_zero (C : List ByteArray) (d : Nat) : ∀ i, i + d = C.length → (valAt C d i = 0 ↔ (∀ j, i ≤ j → j < C.length → okS (gt C j) = true ∧ gt C j ∉ C.take j)) := by
  induction d with
  | zero => intro i hi; exact ⟨fun _ j h1 h2 => by omega, fun _ => rfl⟩
  | succ d ih =>
    intro i hi
    unfold valAt
    by_cases h1 : okS (gt C i) = false
    · rw [if_pos h1]
      exact ⟨fun h => by omega, fun h => by have := (h i (Nat.le_refl _) (by omega)).1; rw [h1] at this; cases this⟩
    · rw [if_neg h1]
      by_cases h2 : Go.Lib.containsS (C.take i) (gt C i) = true
      · rw [if_pos h2]
        exact ⟨fun h => by omega, fun h => absurd (inS_iff.1 h2) (h i (Nat.le_refl _) (by omega)).2⟩
      · rw [if_neg h2, ih (i + 1) (by omega)]
        constructor
        · intro h j h3 h4
          by_cases e : j = i
          · subst e
            exact ⟨by simpa using h1, fun hm => h2 (inS_iff.2 hm)⟩
          · exact h j (by omega) h4
        · intro h j h3 h4; exact h j (by omega) h4
theorem nodup_take {C : List ByteArray} : C.Nodup ↔ ∀ j, j < C.length → gt C j ∉ C.take j := by
  constructor
  · intro h j hj hm
    obtain ⟨i, hi, e⟩ := List.mem_iff_getElem.1 hm
    rw [List.length_take] at hi
    rw [List.getElem_take] at e
    have hij : i < j := by omega
    have e2 : gt C j = C[j] := by unfold gt; rw [List.getD_eq_getElem?_getD, List.getElem?_eq_getElem hj]; rfl
    rw [e2] at e
    have := (List.getElem_inj h).1 e
    omega
  · intro h
    rw [List.nodup_iff_pairwise_ne, List.pairwise_iff_getElem]
    intro i j hi hj hij e
    refine h j hj ?_
    have e2 : gt C j = C[j] := by unfold gt; rw [List.getD_eq_getElem?_getD, List.getElem?_eq_getElem hj]; rfl
    rw [e2, ← e]
    exact List.mem_iff_getElem.2 ⟨i, by rw [List.length_take]; omega, by rw [List.getElem_take]⟩
theorem valP_zero {C : List ByteArray} : valP C = 0 ↔ Valid C := by
  unfold valP
  by_cases h : C.length < 1 ∨ 12 < C.length
  · rw [if_pos h]
    exact ⟨fun e => by omega, fun v => by have := v.pos; have := v.few; omega⟩
  · rw [if_neg h, valAt_zero C C.length 0 (by omega)]
    constructor
    · intro h2
      have hm : ∀ s ∈ C, okS s = true := fun s hs => by
        obtain ⟨i, hi, rfl⟩ := mem_getD (d := ByteArray.empty) hs
        exact (h2 i (Nat.zero_le _) hi).1
      exact ⟨by omega, by omega, fun s hs => (okS_iff.1 (hm s hs)).1, fun s hs => (okS_iff.1 (hm s hs)).2.1, fun s hs => (okS_iff.1 (hm s hs)).2.2, nodup_take.2 fun j hj => (h2 j (Nat.zero_le _) hj).2⟩
    · intro v j _ hj
      have hm := getD_mem (d := ByteArray.empty) hj
      exact ⟨okS_iff.2 ⟨v.size1 _ hm, v.size12 _ hm, v.notes _ hm⟩, nodup_take.1 v.nodup j hj⟩

/-! The bytes of a text. -/

def bs (s : ByteArray) : List UInt8 := s.data.toList
theorem bs_inj {a b : ByteArray} (h : bs a = bs b) : a = b := by
  rw [← str_eq, ByteArray.toList_eq, ByteArray.toList_eq]; exact h
theorem bs_mk (l : List UInt8) : bs ⟨l.toArray⟩ = l := by unfold bs; simp
theorem bs_len (s : ByteArray) : (bs s).length = s.size := Array.length_toList
theorem headB_iff {y x : ByteArray} : headB y x = true ↔ ∃ t, bs y = bs x ++ t := by
  unfold headB Lib.hasPrefix
  rw [List.isPrefixOf_iff_prefix]
  exact ⟨fun ⟨t, h⟩ => ⟨t, h.symm⟩, fun ⟨t, h⟩ => ⟨t, h.symm⟩⟩
theorem mem_gt {C : List ByteArray} {x : ByteArray} (h : x ∈ C) : ∃ i, i < C.length ∧ gt C i = x := mem_getD h
theorem bs_app (a b : ByteArray) : bs (a ++ b) = bs a ++ bs b := by
  unfold bs
  rw [ByteArray.data_append, Array.toList_append]

/-! What is left over: the program's and the reference's searches find just that. -/

/-- s is left over of y behind x. -/
def Cut (y x s : ByteArray) : Prop := bs y = bs x ++ bs s ∧ bs s ≠ []
/-! Words. -/
def wds (C : List ByteArray) : List (List UInt8) := C.map bs
theorem mem_wds {C : List ByteArray} {x : List UInt8} : x ∈ wds C ↔ ∃ s, s ∈ C ∧ bs s = x := List.mem_map
def LeftS (C : List ByteArray) (s : ByteArray) : Prop := Left (wds C) (bs s)
theorem LeftS.base {C : List ByteArray} {x y s : ByteArray} (hx : x ∈ C) (hy : y ∈ C) (h : Cut y x s) : LeftS C s := Left.base (mem_wds.2 ⟨x, hx, rfl⟩) (mem_wds.2 ⟨y, hy, rfl⟩) h.1 h.2
/-- A list from which nothing more is left over has all. -/
theorem closed_has {C E : List ByteArray} (h1 : ∀ x ∈ C, ∀ y ∈ C, ∀ s, Cut y x s → s ∈ E) (h2 : ∀ e ∈ E, ∀ x ∈ C, ∀ s, (Cut e x s ∨ Cut x e s) → s ∈ E) {s : ByteArray} (h : LeftS C s) : s ∈ E := by
  have key : ∀ t, Left (wds C) t → (⟨t.toArray⟩ : ByteArray) ∈ E := by
    intro t ht
    induction ht with
    | base hx hy e hne =>
      obtain ⟨x, hx2, rfl⟩ := mem_wds.1 hx
      obtain ⟨y, hy2, rfl⟩ := mem_wds.1 hy
      exact h1 x hx2 y hy2 _ ⟨by rw [bs_mk]; exact e, by rw [bs_mk]; exact hne⟩
    | cut he hx e hne ih =>
      obtain ⟨x, hx2, rfl⟩ := mem_wds.1 hx
      exact h2 _ ih x hx2 _ (.inl ⟨by rw [bs_mk, bs_mk]; exact e, by rw [bs_mk]; exact hne⟩)
    | rest he hx e hne ih =>
      obtain ⟨x, hx2, rfl⟩ := mem_wds.1 hx
      exact h2 _ ih x hx2 _ (.inr ⟨by rw [bs_mk, bs_mk]; exact e, by rw [bs_mk]; exact hne⟩)
  have := key _ h
  rwa [show (⟨(bs s).toArray⟩ : ByteArray) = s from bs_inj (bs_mk _)] at this
/-- What can be left over is an end of a signal. -/
def tails (C : List ByteArray) : List ByteArray := C.flatMap fun s => (List.range (s.size + 1)).map fun i => ⟨((bs s).drop i).toArray⟩
theorem left_tail {C : List ByteArray} {s : ByteArray} (h : LeftS C s) : s ∈ tails C := by
  have key : ∀ t, Left (wds C) t → ∃ x ∈ C, ∃ a, bs x = a ++ t := by
    intro t ht
    induction ht with
    | base hx hy e _ =>
      obtain ⟨y, hy2, rfl⟩ := mem_wds.1 hy
      exact ⟨y, hy2, _, e⟩
    | cut he hx e _ ih =>
      obtain ⟨z, hz, a, ha⟩ := ih
      exact ⟨z, hz, _, by rw [ha, e, ← List.append_assoc]⟩
    | rest he hx e _ ih =>
      obtain ⟨x, hx2, rfl⟩ := mem_wds.1 hx
      exact ⟨x, hx2, _, e⟩
  obtain ⟨x, hx, a, ha⟩ := key _ h
  unfold tails
  rw [List.mem_flatMap]
  refine ⟨x, hx, ?_⟩
  rw [List.mem_map]
  refine ⟨a.length, List.mem_range.2 ?_, ?_⟩
  · have := congrArg List.length ha
    rw [List.length_append, bs_len] at this; omega
  · rw [ha, List.drop_left]
    exact bs_inj (bs_mk _)
theorem nodup_len {α : Type} {l : List α} : ∀ {m : List α}, l.Nodup → (∀ x ∈ l, x ∈ m) → l.length ≤ m.length := by
  induction l with
  | nil => intro m _ _; exact Nat.zero_le _
  | cons a l ih =>
    intro m h hm
    obtain ⟨p, q, e⟩ := List.append_of_mem (hm a (List.mem_cons_self ..))
    have h2 := List.nodup_cons.1 h
    have := ih (m := p ++ q) h2.2 (fun x hx => by
      have := hm x (List.mem_cons_of_mem _ hx)
      rw [e, List.mem_append, List.mem_cons] at this
      rw [List.mem_append]
      rcases this with h | h | h
      · exact .inl h
      · subst h; exact absurd hx h2.1
      · exact .inr h)
    rw [e, List.length_append, List.length_cons]
    rw [List.length_append] at this
    rw [List.length_cons]; omega
theorem tails_len (C : List ByteArray) (h : ∀ s ∈ C, s.size ≤ 12) : (tails C).length ≤ 13 * C.length := by
  unfold tails
  induction C with
  | nil => exact Nat.zero_le _
  | cons a C ih =>
    have h1 := h a (List.mem_cons_self ..)
    have h2 := ih (fun s hs => h s (List.mem_cons_of_mem _ hs))
    rw [List.flatMap_cons, List.length_append, List.length_map, List.length_range, List.length_cons]
    omega
/-- How a search stands. -/
structure Found (C : List ByteArray) (o : List ByteArray) (i : Nat) : Prop where
  nodup : o.Nodup
  left : ∀ s ∈ o, LeftS C s
  base : ∀ x ∈ C, ∀ y ∈ C, ∀ s, Cut y x s → s ∈ o
  done : ∀ j, j < i → ∀ x ∈ C, ∀ s, (Cut (gt o j) x s ∨ Cut x (gt o j) s) → s ∈ o
  le : i ≤ o.length
theorem Found.len {C o : List ByteArray} {i : Nat} (h : Found C o i) (v : Valid C) : o.length ≤ 156 := by
  have h1 := nodup_len h.nodup (fun s hs => left_tail (h.left s hs))
  have h2 := tails_len C v.size12
  have := v.few
  omega
theorem Found.all {C o : List ByteArray} (h : Found C o o.length) {s : ByteArray} : s ∈ o ↔ LeftS C s := by
  refine ⟨h.left s, fun hs => closed_has h.base (fun e he x hx s h2 => ?_) hs⟩
  obtain ⟨j, hj, rfl⟩ := mem_getD (d := ByteArray.empty) he
  exact h.done j hj x hx s h2

/-! The sum of lengths, in lowest terms, by both. -/

/-- n / 2^e in lowest terms. -/
def red : Nat → Nat → Nat × Nat
  | n, 0 => (n, 1)
  | n, e + 1 => if n % 2 = 0 then red (n / 2) e else (n, 2 ^ (e + 1))
def redI (n e : Nat) : Int × Int := (((red n e).1 : Nat), ((red n e).2 : Nat))
theorem red_le (n : Nat) : ∀ e, ((red n e).1 ≤ (red n e).2 ↔ n ≤ 2 ^ e) := by
  intro e
  induction e generalizing n with
  | zero => exact Iff.rfl
  | succ e ih =>
    unfold red
    split
    · rw [ih, Nat.pow_succ]; omega
    · exact Iff.rfl
theorem half_pow (e : Nat) : Int.tdiv ((2 ^ (e + 1) : Nat) : Int) 2 = ((2 ^ e : Nat) : Int) := by
  rw [Nat.pow_succ]
  generalize 2 ^ e = p
  rw [Int.tdiv_eq_ediv_of_nonneg (by omega)]; omega
theorem half_nat (n : Nat) : Int.tdiv (n : Int) 2 = ((n / 2 : Nat) : Int) := by
  rw [Int.tdiv_eq_ediv_of_nonneg (by omega)]; omega
theorem tmod_nat (n : Nat) : Int.tmod (n : Int) 2 = ((n % 2 : Nat) : Int) := by
  rw [Int.tmod_eq_emod_of_nonneg (by omega)]; omega
theorem pow_le12 {e : Nat} (h : e ≤ 12) : 2 ^ e ≤ 4096 := Nat.le_trans (Nat.pow_le_pow_right (by decide) h) (by decide)
theorem rred_ev (e : Nat) : ∀ (n : Nat), e ≤ 12 → n < 1000000 → Ev (fun k => wigeonref05_halves.l1 k (n : Int) ((2 ^ e : Nat) : Int)) (redI n e) := by
  induction e with
  | zero =>
    intro n he hn
    exact Ev.step (fun k => by rw [wigeonref05_halves.l1]) (Ev.ifn (show ¬ (((2 ^ 0 : Nat) : Int) > 1) by decide) (Ev.val (by rfl)))
  | succ e ih =>
    intro n he hn
    have hp := pow_le12 (show e ≤ 12 by omega)
    have hp0 : 0 < 2 ^ e := Nat.pow_pos (by decide)
    have hw1 : wrap64 (Int.tdiv (n : Int) 2) = ((n / 2 : Nat) : Int) := by rw [half_nat, w64 (by omega) (by omega)]
    have hw2 : wrap64 (Int.tdiv ((2 ^ (e + 1) : Nat) : Int) 2) = ((2 ^ e : Nat) : Int) := by rw [half_pow]; generalize 2 ^ e = p at *; exact w64 (by omega) (by omega)
    refine Ev.step (fun k => by rw [wigeonref05_halves.l1, hw1, hw2]) (Ev.ifp (by rw [Nat.pow_succ]; generalize 2 ^ e = p at *; omega) ?_)
    by_cases h : n % 2 = 0
    · refine Ev.ifp (by rw [tmod_nat]; omega) ?_
      have := ih (n / 2) (by omega) (by omega)
      rwa [show redI n (e + 1) = redI (n / 2) e by unfold redI; conv => lhs; unfold red; rw [if_pos h]]
    · refine Ev.ifn (by rw [tmod_nat]; omega) (Ev.val ?_)
      unfold redI red
      rw [if_neg h]
/-- The sum of 2^12 / 2^length. -/
def fillN (l : List Int) : Nat := (l.map fun x => 2 ^ (12 - x.toNat)).sum
def LenOk (l : List Int) : Prop := l.length ≤ 12 ∧ ∀ x ∈ l, 1 ≤ x ∧ x ≤ 12
theorem fillN_cons (x : Int) (l : List Int) : fillN (x :: l) = 2 ^ (12 - x.toNat) + fillN l := by unfold fillN; rw [List.map_cons, List.sum_cons]
theorem fillN_le {l : List Int} (h : ∀ x ∈ l, 1 ≤ x ∧ x ≤ 12) : fillN l ≤ 4096 * l.length := by
  induction l with
  | nil => exact Nat.le_refl _
  | cons x l ih =>
    have := ih (fun y hy => h y (List.mem_cons_of_mem _ hy))
    have := pow_le12 (show 12 - x.toNat ≤ 12 by omega)
    rw [fillN_cons, List.length_cons]; omega
theorem shl_one {a : Nat} (h : a ≤ 12) : shl .i64 1 (a : Int) = ((2 ^ a : Nat) : Int) := by
  have := pow_le12 h
  unfold shl
  rw [show min (a : Int).toNat IntKind.i64.bits = a by rw [Int.toNat_natCast]; exact Nat.min_eq_left (by show a ≤ 64; omega), Int.one_mul]
  have e : ((2 : Int) ^ a) = ((2 ^ a : Nat) : Int) := (Int.natCast_pow 2 a).symm
  rw [e, i64_w]
  generalize 2 ^ a = p at *
  exact w64 (by omega) (by omega)
theorem halves_at {l : List Int} (hl : LenOk l) (d : Nat) : ∀ (i s : Nat), i + d = l.length → s + fillN (l.drop i) ≤ 49152 → Ev (fun k => wigeonref05_halves.l0 k l (i : Int) (s : Int) 4096) (redI (s + fillN (l.drop i)) 12) := by
  have hlen := hl.1
  induction d with
  | zero =>
    intro i s hi hs
    rw [List.drop_eq_nil_of_le (by omega), show fillN [] = 0 from rfl, Nat.add_zero] at hs ⊢
    have h12 : Ev (fun k => wigeonref05_halves.l1 k (s : Int) 4096) (redI s 12) := rred_ev 12 s (by decide) (by omega)
    exact Ev.step (fun k => by rw [wigeonref05_halves.l0]) (Ev.ifn (by omega) h12)
  | succ d ih =>
    intro i s hi hs
    rw [drop_rd (show i < l.length by omega), fillN_cons] at hs ⊢
    obtain ⟨h1, h2⟩ := hl.2 (rd l (i : Int)) (by rw [rd_nat]; exact getD_mem (by omega))
    have hp := pow_le12 (show 12 - (rd l (i : Int)).toNat ≤ 12 by omega)
    have hw : wrap64 (12 - rd l (i : Int)) = ((12 - (rd l (i : Int)).toNat : Nat) : Int) := by rw [w64 (by omega) (by omega)]; omega
    have hsh := shl_one (show 12 - (rd l (i : Int)).toNat ≤ 12 by omega)
    generalize 2 ^ (12 - (rd l (i : Int)).toNat) = p at *
    refine Ev.step (fun k => by rw [wigeonref05_halves.l0, hw, hsh]) (Ev.ifp (by omega) (Ev.ifp (by omega) (Ev.ifp (by omega) ?_)))
    rw [w64s (by omega), w64 (by omega) (by omega), ← Int.natCast_add, ← Nat.add_assoc]
    exact ih (i + 1) _ (by omega) (by omega)
theorem halves_ev {l : List Int} (hl : LenOk l) : Ev (fun k => wigeonref05_halves.f k l) (redI (fillN l) 12) := by
  have h1 := fillN_le hl.2
  have hlen := hl.1
  have h0 : Ev (fun k => wigeonref05_halves.l0 k l 0 0 4096) (redI (0 + fillN (l.drop 0)) 12) := halves_at hl l.length 0 0 (by omega) (by rw [List.drop_zero]; omega)
  rwa [List.drop_zero, Nat.zero_add] at h0
/-- The lengths of a code. -/
def lensC (C : List ByteArray) : List Int := C.map fun s => (s.size : Int)
/-! No signal begins with another one, by both. -/
def preI (C : List ByteArray) (i j d : Nat) : Bool := (List.range' j d).all fun t => i == t || !headB (gt C i) (gt C t)
def preO (C : List ByteArray) (i d : Nat) : Bool := (List.range' i d).all fun t => preI C t 0 C.length
def preB (C : List ByteArray) : Bool := preO C 0 C.length
theorem preB_iff {C : List ByteArray} : preB C = true ↔ ∀ i j, i < C.length → j < C.length → i ≠ j → headB (gt C i) (gt C j) = false := by
  unfold preB preO preI
  rw [List.all_eq_true]
  constructor
  · intro h i j hi hj hij
    have h1 := h i (by rw [List.mem_range'_1]; omega)
    rw [List.all_eq_true] at h1
    have h2 := h1 j (by rw [List.mem_range'_1]; omega)
    rw [show (i == j) = false from beq_eq_false_iff_ne.2 hij, Bool.false_or, Bool.not_eq_true'] at h2
    exact h2
  · intro h i hi
    rw [List.all_eq_true]
    intro j hj
    rw [List.mem_range'_1] at hi hj
    by_cases e : i = j
    · rw [show (i == j) = true from beq_iff_eq.2 e, Bool.true_or]
    · rw [h i j (by omega) (by omega) e]; simp
def Lex (f : Nat → Int) (x y : Nat) : Prop := f x < f y ∨ f x = f y ∧ x < y
/-- The length at a place. -/
def Ln (l : List Int) (i : Nat) : Nat := (rd l (i : Int)).toNat
def keyN (l : List Int) (x : Nat) : Int := rd l ((x % l.length : Nat) : Int)
def rowO (l : List Int) (n i d : Nat) : List Nat := (List.range' i d).filter fun j => rd l (j : Int) == (n : Int)
def refO (l : List Int) (n d : Nat) : List Nat := (List.range' n d).flatMap fun m => rowO l m 0 l.length
theorem mem_rowO {l : List Int} {n i d x : Nat} : x ∈ rowO l n i d ↔ (i ≤ x ∧ x < i + d) ∧ rd l (x : Int) = (n : Int) := by
  unfold rowO
  rw [List.mem_filter, List.mem_range'_1]; simp
theorem mem_refO {l : List Int} (hl : LenOk l) {x : Nat} : x ∈ refO l 1 12 ↔ x < l.length := by
  unfold refO
  rw [List.mem_flatMap]
  constructor
  · rintro ⟨n, _, hx⟩
    have := (mem_rowO.1 hx).1; omega
  · intro hx
    obtain ⟨h1, h2⟩ := hl.2 (rd l (x : Int)) (by rw [rd_nat]; exact getD_mem hx)
    exact ⟨(rd l (x : Int)).toNat, List.mem_range'_1.2 (by omega), mem_rowO.2 ⟨by omega, by omega⟩⟩
theorem refO_lex (l : List Int) (n d : Nat) : (refO l n d).Pairwise (Lex (keyN l)) := by
  have hk : ∀ x m, x ∈ rowO l m 0 l.length → keyN l x = (m : Int) := fun x m hx => by
    obtain ⟨h1, h2⟩ := mem_rowO.1 hx
    unfold keyN; rw [Nat.mod_eq_of_lt (by omega)]; exact h2
  unfold refO
  rw [List.pairwise_flatMap]
  refine ⟨fun m _ => ?_, ?_⟩
  · refine List.Pairwise.imp_of_mem (R := (· < ·)) (fun {a b} ha hb h => .inr ⟨by rw [hk a m ha, hk b m hb], h⟩) ?_
    exact List.Pairwise.filter _ (List.pairwise_lt_range' 1)
  · refine (List.pairwise_lt_range' 1).imp fun {a b} h x hx y hy => .inl ?_
    rw [hk x a hx, hk y b hy]; omega
theorem refO_nodup (l : List Int) (n d : Nat) : (refO l n d).Nodup := by
  refine List.nodup_iff_pairwise_ne.2 ((refO_lex l n d).imp fun {a b} h e => ?_)
  subst e; unfold Lex at h; omega
theorem refO_perm {l : List Int} (hl : LenOk l) : (refO l 1 12).Perm (List.range l.length) := by
  refine (List.perm_ext_iff_of_nodup (refO_nodup l 1 12) List.nodup_range).2 fun x => ?_
  rw [mem_refO hl, List.mem_range]
/-- Signals one after another, in an order of the places. -/
def canon (l : List Int) : List Nat → Nat → List ByteArray → List ByteArray
  | [], _, out => out
  | i :: r, b, out => canon l r (b + 2 ^ (12 - Ln l i)) (out.set i (sigB (b / 2 ^ (12 - Ln l i)) (Ln l i)))
def shareL (l : List Int) (r : List Nat) : Nat := (r.map fun i => 2 ^ (12 - Ln l i)).sum
theorem shareL_cons (l : List Int) (i : Nat) (r : List Nat) : shareL l (i :: r) = 2 ^ (12 - Ln l i) + shareL l r := by unfold shareL; rw [List.map_cons, List.sum_cons]
theorem shareL_append (l : List Int) (r s : List Nat) : shareL l (r ++ s) = shareL l r + shareL l s := by unfold shareL; rw [List.map_append, List.sum_append]
theorem canon_append (l : List Int) : ∀ (r s : List Nat) (b : Nat) (out : List ByteArray), canon l (r ++ s) b out = canon l s (b + shareL l r) (canon l r b out)
  | [], s, b, out => rfl
  | i :: r, s, b, out => by
    show canon l (r ++ s) _ _ = canon l s _ (canon l r _ _)
    rw [canon_append l r s, shareL_cons, Nat.add_assoc]
theorem shareL_fill {l : List Int} (hl : LenOk l) : shareL l (refO l 1 12) = fillN l := by
  unfold shareL fillN
  rw [((refO_perm hl).map _).sum_nat]
  congr 1
  refine List.ext_getElem (by simp) fun i h1 h2 => ?_
  have hi : i < l.length := by simpa using h2
  simp only [List.getElem_map, List.getElem_range]
  unfold Ln
  rw [rd_nat, List.getD_eq_getElem?_getD, List.getElem?_eq_getElem hi]; rfl
theorem refO_up (l : List Int) : (refO l 1 12).Pairwise (fun i j => Ln l i ≤ Ln l j) := by
  refine List.Pairwise.imp_of_mem (R := Lex (keyN l)) (fun {a b} ha hb h => ?_) (refO_lex l 1 12)
  have hk : ∀ x, x ∈ refO l 1 12 → keyN l x = rd l (x : Int) := fun x hx => by
    obtain ⟨m, _, hx⟩ := List.mem_flatMap.1 hx
    have := (mem_rowO.1 hx).1
    unfold keyN; rw [Nat.mod_eq_of_lt (by omega)]
  unfold Lex at h
  rw [hk a ha, hk b hb] at h
  unfold Ln; omega
def canonP (l : List Int) : List ByteArray := canon l (refO l 1 12) 0 (List.replicate l.length ByteArray.empty)
theorem Ln_ok {l : List Int} (hl : LenOk l) {i : Nat} (hi : i < l.length) : 1 ≤ Ln l i ∧ Ln l i ≤ 12 ∧ ((Ln l i : Nat) : Int) = rd l (i : Int) := by
  obtain ⟨h1, h2⟩ := hl.2 (rd l (i : Int)) (by rw [rd_nat]; exact getD_mem hi)
  unfold Ln; omega

/-! The code for lengths: its signals, that none begins with another one, and the reference's way to it. -/

theorem gt_set (out : List ByteArray) (i j : Nat) (s : ByteArray) (h : i < out.length) : gt (out.set i s) j = if i = j then s else gt out j := by
  unfold gt
  rw [List.getD_eq_getElem?_getD, List.getD_eq_getElem?_getD, List.getElem?_set]
  by_cases e : i = j
  · rw [if_pos e, if_pos e, if_pos h]; rfl
  · rw [if_neg e, if_neg e]
theorem canon_len (l : List Int) : ∀ (r : List Nat) (b : Nat) (out : List ByteArray), (canon l r b out).length = out.length
  | [], _, _ => rfl
  | i :: r, b, out => by
    show (canon l r _ (out.set i _)).length = _
    rw [canon_len l r, List.length_set]
theorem canon_other (l : List Int) : ∀ (r : List Nat) (b : Nat) (out : List ByteArray) (j : Nat), (∀ i ∈ r, i < out.length) → j ∉ r → gt (canon l r b out) j = gt out j
  | [], _, _, _, _, _ => rfl
  | i :: r, b, out, j, hr, hj => by
    show gt (canon l r _ (out.set i _)) j = _
    rw [canon_other l r _ _ j (fun x hx => by rw [List.length_set]; exact hr x (List.mem_cons_of_mem _ hx)) (fun e => hj (List.mem_cons_of_mem _ e)), gt_set _ _ _ _ (hr i (List.mem_cons_self ..)), if_neg (fun e => hj (by rw [e]; exact List.mem_cons_self ..))]
/-- The signal at the k-th place of the order: the sum of what stands ahead of it. -/
theorem canon_at (l : List Int) : ∀ (r : List Nat) (b : Nat) (out : List ByteArray), r.Nodup → (∀ i ∈ r, i < out.length) → ∀ (k : Nat) (hk : k < r.length), gt (canon l r b out) r[k] = sigB ((b + shareL l (r.take k)) / 2 ^ (12 - Ln l r[k])) (Ln l r[k])
  | i :: r, b, out, hn, hr, 0, _ => by
    show gt (canon l r _ (out.set i _)) i = _
    rw [canon_other l r _ _ i (fun x hx => by rw [List.length_set]; exact hr x (List.mem_cons_of_mem _ hx)) (List.nodup_cons.1 hn).1, gt_set _ _ _ _ (hr i (List.mem_cons_self ..)), if_pos rfl]
    rfl
  | i :: r, b, out, hn, hr, k + 1, hk => by
    show gt (canon l r _ (out.set i _)) (r[k]'(by simpa using hk)) = sigB ((b + shareL l (i :: r.take k)) / 2 ^ (12 - Ln l (r[k]'(by simpa using hk)))) (Ln l (r[k]'(by simpa using hk)))
    rw [canon_at l r _ _ (List.nodup_cons.1 hn).2 (fun x hx => by rw [List.length_set]; exact hr x (List.mem_cons_of_mem _ hx)) k (by simpa using hk), shareL_cons, Nat.add_assoc]
/-- What the notes of a signal say as a number. -/
def valK (x : List UInt8) : Nat := x.foldl (fun v b => 2 * v + (if b = 45 then 1 else 0)) 0
theorem val_snoc (x : List UInt8) (b : UInt8) : valK (x ++ [b]) = 2 * valK x + (if b = 45 then 1 else 0) := by
  unfold valK; rw [List.foldl_append]; rfl
theorem val_bit (num b : Nat) : (if bitB num b = 45 then 1 else 0) = num / 2 ^ b % 2 := by
  unfold bitB
  by_cases h : num / 2 ^ b % 2 = 1
  · rw [if_pos h, if_pos rfl, h]
  · rw [if_neg h, if_neg (by decide)]; omega
theorem val_sig (num long : Nat) : ∀ k, k ≤ long → valK (sigK num long k) = num / 2 ^ (long - k) % 2 ^ k
  | 0, _ => by rw [Nat.pow_zero, Nat.mod_one]; rfl
  | k + 1, h => by
    show valK (sigK num long k ++ [_]) = _
    rw [val_snoc, val_sig num long k (by omega), val_bit]
    have e1 : num / 2 ^ (long - k) = num / 2 ^ (long - (k + 1)) / 2 := by
      rw [Nat.div_div_eq_div_mul, ← Nat.pow_succ, show (long - (k + 1)).succ = long - k by omega]
    rw [show long - 1 - k = long - (k + 1) by omega, e1]
    generalize num / 2 ^ (long - (k + 1)) = q
    rw [Nat.pow_succ, Nat.mul_comm (2 ^ k) 2, Nat.mod_mul]
    omega
theorem sig_take (num long : Nat) : ∀ (m k : Nat), k ≤ m → (sigK num long m).take k = sigK num long k
  | 0, k, h => by obtain rfl : k = 0 := by omega
                  rfl
  | m + 1, k, h => by
    by_cases e : k = m + 1
    · subst e
      exact List.take_of_length_le (by rw [sigK_len]; exact Nat.le_refl _)
    · show (sigK num long m ++ [_]).take k = _
      rw [List.take_append_of_le_length (by rw [sigK_len]; omega), sig_take num long m k (by omega)]
theorem bs_sig (num long : Nat) : bs (sigB num long) = sigK num long long := bs_mk _
theorem sig_size (num long : Nat) : (sigB num long).size = long := by rw [← bs_len, bs_sig, sigK_len]
theorem sig_notes (num long : Nat) : notesP (sigB num long) = true := by
  rw [notesP_list]
  have : ∀ k, (sigK num long k).all noteB = true := fun k => by
    induction k with
    | zero => rfl
    | succ k ih =>
      show (sigK num long k ++ [_]).all noteB = true
      rw [List.all_append, ih]
      unfold bitB
      split <;> rfl
  have e : (sigB num long).data.toList = sigK num long long := bs_sig num long
  rw [e]; exact this long
/-- If one signal begins another one, so does its number. -/
theorem sig_begins {n1 l1 n2 l2 : Nat} (h1 : n1 < 2 ^ l1) (h2 : n2 < 2 ^ l2) (h : headB (sigB n2 l2) (sigB n1 l1) = true) : l1 ≤ l2 ∧ n2 / 2 ^ (l2 - l1) = n1 := by
  obtain ⟨t, e⟩ := headB_iff.1 h
  rw [bs_sig, bs_sig] at e
  have hlen := congrArg List.length e
  rw [List.length_append, sigK_len, sigK_len] at hlen
  refine ⟨by omega, ?_⟩
  have et := congrArg (List.take l1) e
  rw [sig_take _ _ _ _ (by omega), List.take_append_of_le_length (by rw [sigK_len]; exact Nat.le_refl _), sig_take _ _ _ _ (Nat.le_refl _)] at et
  have ev := congrArg valK et
  rw [val_sig _ _ _ (by omega), val_sig _ _ _ (Nat.le_refl _), Nat.sub_self, Nat.pow_zero, Nat.div_one, Nat.mod_eq_of_lt h1, Nat.mod_eq_of_lt] at ev
  · exact ev
  · rw [Nat.div_lt_iff_lt_mul (Nat.pow_pos (by decide)), ← Nat.pow_add, show l1 + (l2 - l1) = l2 by omega]; exact h2
theorem shareL_take {l : List Int} {o : List Nat} {k m : Nat} (h : k < m) (hm : m ≤ o.length) : shareL l (o.take k) + 2 ^ (12 - Ln l (o[k]'(by omega))) ≤ shareL l (o.take m) := by
  have e : o.take m = o.take (k + 1) ++ (o.take m).drop (k + 1) := by
    conv => lhs; rw [← List.take_append_drop (k + 1) (o.take m)]
    rw [List.take_take, Nat.min_eq_left (by omega)]
  rw [e, shareL_append, List.take_add_one, List.getElem?_eq_getElem (show k < o.length by omega), shareL_append]
  have : shareL l (some (o[k]'(by omega))).toList = 2 ^ (12 - Ln l (o[k]'(by omega))) := by
    show shareL l [_] = _
    rw [shareL_cons]; rfl
  rw [this]; omega
theorem sig_num {S L : Nat} (hL : L ≤ 12) (h : S + 2 ^ (12 - L) ≤ 4096) : S / 2 ^ (12 - L) < 2 ^ L := by
  have hp : 0 < 2 ^ (12 - L) := Nat.pow_pos (by decide)
  rw [Nat.div_lt_iff_lt_mul hp, ← Nat.pow_add, show L + (12 - L) = 12 by omega]
  have : (2 : Nat) ^ 12 = 4096 := rfl
  omega
/-- The order's k-th signal and a later one: neither begins the other one. -/
theorem sig_apart {l : List Int} {o : List Nat} (hL : ∀ i ∈ o, Ln l i ≤ 12) (hup : o.Pairwise fun i j => Ln l i ≤ Ln l j) (hf : shareL l o ≤ 4096) {k m : Nat} (hkm : k < m) (hm : m < o.length) :
    headB (sigB (shareL l (o.take m) / 2 ^ (12 - Ln l o[m])) (Ln l o[m])) (sigB (shareL l (o.take k) / 2 ^ (12 - Ln l (o[k]'(by omega)))) (Ln l (o[k]'(by omega)))) = false ∧
    headB (sigB (shareL l (o.take k) / 2 ^ (12 - Ln l (o[k]'(by omega)))) (Ln l (o[k]'(by omega)))) (sigB (shareL l (o.take m) / 2 ^ (12 - Ln l o[m])) (Ln l o[m])) = false := by
  have h1 := shareL_take (l := l) hkm (show m ≤ o.length by omega)
  have h2 := shareL_take (l := l) (show m < m + 1 by omega) (show m + 1 ≤ o.length by omega)
  have h3 : shareL l (o.take (m + 1)) ≤ shareL l o := by
    conv => rhs; rw [← List.take_append_drop (m + 1) o]
    rw [shareL_append]; omega
  have hLk := hL _ (List.getElem_mem (show k < o.length by omega))
  have hLm := hL _ (List.getElem_mem hm)
  have hle := List.pairwise_iff_getElem.1 hup k m (by omega) hm hkm
  generalize shareL l (o.take (m + 1)) = S3 at *
  generalize shareL l (o.take m) = S2 at *
  generalize shareL l (o.take k) = S1 at *
  generalize Ln l (o[k]'(by omega)) = L1 at *
  generalize Ln l o[m] = L2 at *
  have hp1 : 0 < 2 ^ (12 - L1) := Nat.pow_pos (by decide)
  have n1 := sig_num (S := S1) hLk (by have : 0 < 2 ^ (12 - L2) := Nat.pow_pos (by decide); omega)
  have n2 := sig_num (S := S2) hLm (by omega)
  have key : ∀ (h : L1 ≤ L2), S2 / 2 ^ (12 - L2) / 2 ^ (L2 - L1) ≠ S1 / 2 ^ (12 - L1) := fun h e => by
    rw [Nat.div_div_eq_div_mul, ← Nat.pow_add, show 12 - L2 + (L2 - L1) = 12 - L1 by omega] at e
    have h5 : (S1 + 2 ^ (12 - L1)) / 2 ^ (12 - L1) ≤ S2 / 2 ^ (12 - L1) := Nat.div_le_div_right h1
    rw [Nat.add_div_right _ hp1, e] at h5
    omega
  constructor
  · rw [Bool.eq_false_iff]
    intro e
    exact key hle (sig_begins n1 n2 e).2
  · rw [Bool.eq_false_iff]
    intro e
    obtain ⟨h6, h7⟩ := sig_begins n2 n1 e
    obtain rfl : L1 = L2 := by omega
    rw [Nat.sub_self, Nat.pow_zero, Nat.div_one] at h7
    refine key hle ?_
    rw [Nat.sub_self, Nat.pow_zero, Nat.div_one]; exact h7.symm
theorem canonP_len (l : List Int) : (canonP l).length = l.length := by unfold canonP; rw [canon_len, List.length_replicate]
theorem canonP_at {l : List Int} (hl : LenOk l) {i : Nat} (hi : i < l.length) : ∃ (k : Nat) (hk : k < (refO l 1 12).length), (refO l 1 12)[k] = i ∧ gt (canonP l) i = sigB (shareL l ((refO l 1 12).take k) / 2 ^ (12 - Ln l (refO l 1 12)[k])) (Ln l (refO l 1 12)[k]) := by
  obtain ⟨k, hk, e⟩ := List.mem_iff_getElem.1 ((mem_refO hl).2 hi)
  refine ⟨k, hk, e, ?_⟩
  have := canon_at l (refO l 1 12) 0 (List.replicate l.length ByteArray.empty) (refO_nodup l 1 12) (fun j hj => by rw [List.length_replicate]; exact (mem_refO hl).1 hj) k hk
  rw [Nat.zero_add] at this
  conv => lhs; rw [← e]
  exact this
theorem canonP_size {l : List Int} (hl : LenOk l) {i : Nat} (hi : i < l.length) : (gt (canonP l) i).size = Ln l i := by
  obtain ⟨k, hk, e, h⟩ := canonP_at hl hi
  rw [h, sig_size, e]
theorem canonP_pre {l : List Int} (hl : LenOk l) (hf : fillN l ≤ 4096) : preB (canonP l) = true := by
  refine preB_iff.2 fun i j hi hj hij => ?_
  rw [canonP_len] at hi hj
  obtain ⟨k, hk, e, h⟩ := canonP_at hl hi
  obtain ⟨m, hm, e2, h2⟩ := canonP_at hl hj
  rw [h, h2]
  have hL : ∀ x ∈ refO l 1 12, Ln l x ≤ 12 := fun x hx => (Ln_ok hl ((mem_refO hl).1 hx)).2.1
  have hs : shareL l (refO l 1 12) ≤ 4096 := by rw [shareL_fill hl]; exact hf
  have hne : k ≠ m := fun q => hij (by subst q; rw [← e, ← e2])
  by_cases q : k < m
  · exact (sig_apart hL (refO_up l) hs q hm).2
  · exact (sig_apart hL (refO_up l) hs (show m < k by omega) hk).1
theorem canonP_valid {l : List Int} (hl : LenOk l) (h0 : 0 < l.length) (hf : fillN l ≤ 4096) : Valid (canonP l) := by
  have hm : ∀ s ∈ canonP l, ∃ i, i < l.length ∧ s = gt (canonP l) i := fun s hs => by
    obtain ⟨i, hi, rfl⟩ := mem_gt hs
    rw [canonP_len] at hi
    exact ⟨i, hi, rfl⟩
  refine ⟨by rw [canonP_len]; exact h0, by rw [canonP_len]; exact hl.1, fun s hs => ?_, fun s hs => ?_, fun s hs => ?_, nodup_take.2 fun j hj hin => ?_⟩
  · obtain ⟨i, hi, rfl⟩ := hm s hs
    rw [canonP_size hl hi]; exact (Ln_ok hl hi).1
  · obtain ⟨i, hi, rfl⟩ := hm s hs
    rw [canonP_size hl hi]; exact (Ln_ok hl hi).2.1
  · obtain ⟨i, hi, rfl⟩ := hm s hs
    obtain ⟨k, hk, e, h⟩ := canonP_at hl hi
    rw [h]; exact sig_notes _ _
  · obtain ⟨i, hi, e⟩ := mem_getD (d := ByteArray.empty) hin
    rw [List.length_take] at hi
    have e2 : gt (canonP l) i = gt (canonP l) j := by
      rw [← e]
      unfold gt
      rw [List.getD_eq_getElem?_getD, List.getD_eq_getElem?_getD, List.getElem?_take_of_lt (by omega)]
    have := preB_iff.1 (canonP_pre hl hf) i j (by omega) hj (by omega)
    rw [e2, headB_iff.2 ⟨[], by rw [List.append_nil]⟩] at this
    cases this
theorem canonP_lens {l : List Int} (hl : LenOk l) : lensC (canonP l) = l := by
  unfold lensC
  refine List.ext_getElem (by rw [List.length_map, canonP_len]) fun i h1 h2 => ?_
  rw [List.getElem_map]
  have e : (canonP l)[i]'(by rw [canonP_len]; exact h2) = gt (canonP l) i := by
    unfold gt; rw [List.getD_eq_getElem?_getD, List.getElem?_eq_getElem (by rw [canonP_len]; exact h2)]; rfl
  rw [e, canonP_size hl h2, (Ln_ok hl h2).2.2, rd_nat, List.getD_eq_getElem?_getD, List.getElem?_eq_getElem h2]; rfl

/-! The code for lengths, by both. -/

theorem outW_one {n : Int} : outW 1 12 n = false ↔ 1 ≤ n ∧ n ≤ 12 := by
  unfold outW; simp
def lenB (l : List Int) : Bool := oneTo 1 12 l
theorem lenB_iff {l : List Int} : lenB l = true ↔ 0 < l.length ∧ LenOk l := by
  unfold lenB oneTo LenOk
  rw [Bool.not_eq_true', Bool.or_eq_false_iff, Bool.or_eq_false_iff, decide_eq_false_iff_not, decide_eq_false_iff_not, List.any_eq_false]
  constructor
  · rintro ⟨⟨h1, h2⟩, h3⟩
    exact ⟨by omega, by omega, fun x hx => outW_one.1 (by simpa using h3 x hx)⟩
  · rintro ⟨h1, h2, h3⟩
    exact ⟨⟨by omega, by omega⟩, fun x hx => by simpa using outW_one.2 (h3 x hx)⟩
theorem rlen_at (l : List Int) (hl : l.length ≤ 12) (d : Nat) : ∀ i, i + d = l.length → Ev (fun k => wigeonref05_lengthsOK.l0 k l (i : Int)) (errB (!(l.drop i).any (outW 1 12))) := by
  induction d with
  | zero =>
    intro i hi
    rw [List.drop_eq_nil_of_le (by omega)]
    exact Ev.step (fun k => by rw [wigeonref05_lengthsOK.l0]) (Ev.ifn (by omega) (Ev.val (by rfl)))
  | succ d ih =>
    intro i hi
    rw [drop_rd (show i < l.length by omega), List.any_cons]
    refine Ev.step (fun k => by rw [wigeonref05_lengthsOK.l0, w64s (show i < 1000000000000000000 by omega)]) (Ev.ifp (by omega) (Ev.ifp (by omega) ?_))
    by_cases h1 : rd l (i : Int) < 1
    · have e : outW 1 12 (rd l (i : Int)) = true := by rw [← Bool.not_eq_false, outW_one]; omega
      rw [e]
      exact Ev.ifp h1 (Ev.val (by rfl))
    · refine Ev.ifn h1 ?_
      by_cases h2 : rd l (i : Int) > 12
      · have e : outW 1 12 (rd l (i : Int)) = true := by rw [← Bool.not_eq_false, outW_one]; omega
        rw [e]
        exact Ev.ifp h2 (Ev.val (by rfl))
      · have e : outW 1 12 (rd l (i : Int)) = false := outW_one.2 (by omega)
        rw [e, Bool.false_or]
        exact Ev.ifn h2 (ih (i + 1) (by omega))
theorem rlen_ev (l : List Int) : Ev (fun k => wigeonref05_lengthsOK.f k l) (errB (lenB l)) := by
  unfold wigeonref05_lengthsOK.f lenB oneTo
  by_cases h1 : l.length < 1
  · rw [decide_eq_true h1]
    exact Ev.ifp (by omega) (Ev.step (fun k => by rw [wigeonref05_lengthsOK.j0]) (Ev.ifp rfl (Ev.val (by rfl))))
  · rw [decide_eq_false h1]
    refine Ev.ifn (by omega) (Ev.step (fun k => by rw [wigeonref05_lengthsOK.j0]) ?_)
    by_cases h2 : 12 < l.length
    · rw [decide_eq_true h2]
      exact Ev.ifp (decide_eq_true (by omega)) (Ev.val (by rfl))
    · rw [decide_eq_false h2]
      have := rlen_at l (by omega) l.length 0 (by omega)
      rw [List.drop_zero] at this
      rw [Bool.false_or, Bool.false_or]
      exact Ev.ifn (by rw [decide_eq_true_eq]; omega) this
def fillP (l : List Int) : Int × Int × Int := if lenB l = true then ((redI (fillN l) 12).1, (redI (fillN l) 12).2, 0) else (0, 0, 1)
theorem rfill_ev (l : List Int) : Ev (fun k => wigeonref05_Fill.f k l) (fillP l) := by
  unfold wigeonref05_Fill.f fillP
  refine Ev.bind (rlen_ev l) ?_
  by_cases h : lenB l = true
  · rw [h, if_pos rfl]
    exact Ev.ifp rfl (Ev.bind (halves_ev (lenB_iff.1 h).2) (Ev.val (by rfl)))
  · rw [Bool.eq_false_iff.2 h]
    exact Ev.ifn (by decide) (Ev.val (by rfl))
theorem red_gt {n : Nat} : (redI n 12).1 > (redI n 12).2 ↔ ¬ n ≤ 4096 := by
  have := red_le n 12
  rw [show (2 : Nat) ^ 12 = 4096 from rfl] at this
  unfold redI
  omega
def fromP (l : List Int) : List ByteArray × Int := if lenB l = true then (if fillN l ≤ 4096 then (canonP l, 0) else ([], 8)) else ([], 1)
/-- The last t notes of a signal. -/
def lastK (num n t : Nat) : ByteArray := ⟨((sigK num n n).drop (n - t)).toArray⟩
theorem sig_get? (num long : Nat) : ∀ (k j : Nat), j < k → (sigK num long k)[j]? = some (bitB num (long - 1 - j))
  | k + 1, j, h => by
    show (sigK num long k ++ [bitB num (long - 1 - k)])[j]? = _
    by_cases e : j < k
    · rw [List.getElem?_append_left (by rw [sigK_len]; exact e)]; exact sig_get? num long k j e
    · obtain rfl : j = k := by omega
      rw [List.getElem?_append_right (by rw [sigK_len]; exact Nat.le_refl _), sigK_len, Nat.sub_self]; rfl
theorem sig_get (num long k j : Nat) (h : j < (sigK num long k).length) : (sigK num long k)[j] = bitB num (long - 1 - j) := by
  have := sig_get? num long k j (by rw [sigK_len] at h; exact h)
  rw [List.getElem?_eq_getElem h] at this
  exact Option.some.inj this
theorem last_succ (num n t : Nat) (h : t < n) : (⟨#[bitB num t]⟩ : ByteArray) ++ lastK num n t = lastK num n (t + 1) := by
  refine bs_inj ?_
  rw [bs_app, show bs (lastK num n t) = (sigK num n n).drop (n - t) from bs_mk _, show bs (lastK num n (t + 1)) = (sigK num n n).drop (n - (t + 1)) from bs_mk _]
  have hl : n - (t + 1) < (sigK num n n).length := by rw [sigK_len]; omega
  rw [List.drop_eq_getElem_cons hl, sig_get, show n - 1 - (n - (t + 1)) = t by omega, show n - (t + 1) + 1 = n - t by omega]
  rfl
theorem lastK_size (num n t : Nat) : (lastK num n t).size ≤ n := by
  rw [← bs_len, show bs (lastK num n t) = (sigK num n n).drop (n - t) from bs_mk _, List.length_drop, sigK_len]; omega
theorem binary_at (num n : Nat) (hn : n ≤ 12) (hm : num < 1000000) (d : Nat) : ∀ t, t + d = n → Ev (fun k => wigeonref05_binary.l0 k ((num / 2 ^ t : Nat) : Int) (n : Int) (lastK num n t) (t : Int)) (sigB num n) := by
  induction d with
  | zero =>
    intro t ht
    obtain rfl : t = n := by omega
    refine Ev.step (fun k => by rw [wigeonref05_binary.l0]) (Ev.ifn (by omega) (Ev.val ?_))
    unfold lastK sigB
    rw [Nat.sub_self, List.drop_zero]
  | succ d ih =>
    intro t ht
    have hq : num / 2 ^ t ≤ num := Nat.div_le_self _ _
    have hs := lastK_size num n t
    have hstep : Int.tdiv ((num / 2 ^ t : Nat) : Int) 2 = ((num / 2 ^ (t + 1) : Nat) : Int) := by rw [half_nat, Nat.div_div_eq_div_mul, ← Nat.pow_succ]
    have hb : num / 2 ^ (t + 1) ≤ num := Nat.div_le_self _ _
    have hw2 : wrap64 ((num / 2 ^ (t + 1) : Nat) : Int) = ((num / 2 ^ (t + 1) : Nat) : Int) := by
      generalize num / 2 ^ (t + 1) = y at hb
      exact w64 (by omega) (by omega)
    refine Ev.step (fun k => by rw [wigeonref05_binary.l0, tmod_nat, hstep, hw2, w64s (show t < 1000000000000000000 by omega)]) (Ev.ifp (by omega) ?_)
    by_cases h : num / 2 ^ t % 2 = 1
    · have e := last_succ num n t (by omega)
      unfold bitB at e
      rw [if_pos h] at e
      rw [e]
      exact Ev.ifp (by omega) (Ev.ifp (by omega) (ih (t + 1) (by omega)))
    · have e := last_succ num n t (by omega)
      unfold bitB at e
      rw [if_neg h] at e
      rw [e]
      exact Ev.ifn (by omega) (Ev.ifp (by omega) (ih (t + 1) (by omega)))
theorem binary_ev (num n : Nat) (hn : n ≤ 12) (hm : num < 1000000) : Ev (fun k => wigeonref05_binary.f k (num : Int) (n : Int)) (sigB num n) := by
  have := binary_at num n hn hm n 0 (by omega)
  rw [Nat.pow_zero, Nat.div_one] at this
  have e : lastK num n 0 = ⟨#[]⟩ := by
    unfold lastK; rw [Nat.sub_zero, List.drop_eq_nil_of_le (by rw [sigK_len]; exact Nat.le_refl _)]
  rw [e] at this
  exact this
theorem shr_nat (b a : Nat) (ha : a ≤ 12) (hb : b < 1000000) : shr .i64 (b : Int) (a : Int) = ((b / 2 ^ a : Nat) : Int) := by
  unfold shr
  rw [show min (a : Int).toNat IntKind.i64.bits = a by rw [Int.toNat_natCast]; exact Nat.min_eq_left (by show a ≤ 64; omega), Int.natCast_ediv, Int.natCast_pow]
  rfl
theorem rowO_cons {l : List Int} {n i d : Nat} : rowO l n i (d + 1) = if rd l (i : Int) = (n : Int) then i :: rowO l n (i + 1) d else rowO l n (i + 1) d := by
  unfold rowO
  rw [List.range'_succ, List.filter_cons]
  by_cases h : rd l (i : Int) = (n : Int)
  · rw [if_pos h, if_pos (by simpa using h)]
  · rw [if_neg h, if_neg (by simpa using h)]
theorem rfrom_in (l : List Int) (hl : LenOk l) (n : Nat) (hn : n ≤ 12) (r : List ByteArray × Int) (d : Nat) : ∀ (i b : Nat) (out : List ByteArray), i + d = l.length → out.length = l.length → b + shareL l (rowO l n i d) ≤ 4096 →
    Ev (fun k => wigeonref05_FromLengths.l0 k l (canon l (rowO l n i d) b out) ((b + shareL l (rowO l n i d) : Nat) : Int) ((n + 1 : Nat) : Int)) r → Ev (fun k => wigeonref05_FromLengths.l1 k l out (b : Int) (n : Int) (i : Int)) r := by
  have hlen := hl.1
  induction d with
  | zero =>
    intro i b out hi ho hs hr
    refine Ev.step (fun k => by rw [wigeonref05_FromLengths.l1]) (Ev.ifn (by omega) ?_)
    rw [w64s (show n < 1000000000000000000 by omega)]
    exact hr
  | succ d ih =>
    intro i b out hi ho hs hr
    have hw := w64s (show i < 1000000000000000000 by omega)
    by_cases h : rd l (i : Int) = (n : Int)
    · rw [rowO_cons, if_pos h] at hs hr
      rw [shareL_cons] at hs hr
      have hL : Ln l i = n := by unfold Ln; rw [h, Int.toNat_natCast]
      have hsub : wrap64 (12 - (n : Int)) = ((12 - n : Nat) : Int) := by rw [w64 (by omega) (by omega)]; omega
      have hp := pow_le12 (show 12 - n ≤ 12 by omega)
      have hq : b / 2 ^ (12 - n) ≤ b := Nat.div_le_self _ _
      rw [hL] at hs hr
      have hbb : b < 1000000 := Nat.lt_of_le_of_lt (Nat.le_trans (Nat.le_add_right b _) hs) (by decide)
      refine Ev.step (fun k => by rw [wigeonref05_FromLengths.l1, hsub, shr_nat b (12 - n) (by omega) (by omega), shl_one (show 12 - n ≤ 12 by omega)]) (Ev.ifp (by omega) (Ev.ifp (by omega) (Ev.ifp h (Ev.ifp (by omega) (Ev.bind (binary_ev _ n hn (by omega)) ?_)))))
      refine Ev.ifp (show (i : Int) < (out.length : Int) by omega) ?_
      rw [hw, Int.toNat_natCast]
      have hc : canon l (i :: rowO l n (i + 1) d) b out = canon l (rowO l n (i + 1) d) (b + 2 ^ (12 - n)) (out.set i (sigB (b / 2 ^ (12 - n)) n)) := by
        show canon l _ (b + 2 ^ (12 - Ln l i)) (out.set i (sigB (b / 2 ^ (12 - Ln l i)) (Ln l i))) = _
        rw [hL]
      rw [hc, ← Nat.add_assoc] at hr
      generalize 2 ^ (12 - n) = p at *
      rw [show ((b : Int) + (p : Int)) = ((b + p : Nat) : Int) by omega, w64 (by omega) (by omega)]
      exact ih (i + 1) _ _ (by omega) (by rw [List.length_set]; exact ho) (by omega) hr
    · rw [rowO_cons, if_neg h] at hs hr
      refine Ev.step (fun k => by rw [wigeonref05_FromLengths.l1, hw]) (Ev.ifp (by omega) (Ev.ifp (by omega) (Ev.ifn h ?_)))
      exact ih (i + 1) b out (by omega) ho hs hr
theorem refO_cons (l : List Int) (n d : Nat) : refO l n (d + 1) = rowO l n 0 l.length ++ refO l (n + 1) d := by
  unfold refO
  rw [List.range'_succ, List.flatMap_cons]
theorem rfrom_out (l : List Int) (hl : LenOk l) (d : Nat) : ∀ (n b : Nat) (out : List ByteArray), n + d = 13 → out.length = l.length → b + shareL l (refO l n d) ≤ 4096 →
    Ev (fun k => wigeonref05_FromLengths.l0 k l out (b : Int) (n : Int)) (canon l (refO l n d) b out, 0) := by
  induction d with
  | zero =>
    intro n b out hn ho hs
    exact Ev.step (fun k => by rw [wigeonref05_FromLengths.l0]) (Ev.ifn (by omega) (Ev.val (by rfl)))
  | succ d ih =>
    intro n b out hn ho hs
    rw [refO_cons, shareL_append] at hs
    rw [refO_cons, canon_append]
    refine Ev.step (fun k => by rw [wigeonref05_FromLengths.l0]) (Ev.ifp (by omega) ?_)
    refine rfrom_in l hl n (by omega) _ l.length 0 b out (by omega) ho (by omega) ?_
    exact ih (n + 1) _ _ (by omega) (by rw [canon_len]; exact ho) (by omega)
theorem rfrom_ev (l : List Int) : Ev (fun k => wigeonref05_FromLengths.f k l) (fromP l) := by
  unfold wigeonref05_FromLengths.f fromP
  refine Ev.bind (rfill_ev l) ?_
  unfold fillP
  by_cases h : lenB l = true
  · rw [if_pos h, if_pos h]
    obtain ⟨h0, hl⟩ := lenB_iff.1 h
    have hlen := hl.1
    refine Ev.ifp rfl ?_
    by_cases hf : fillN l ≤ 4096
    · rw [if_pos hf]
      refine Ev.ifn (by rw [red_gt]; omega) (Ev.ifp (by omega) (Ev.ifp (by rw [Int.toNat_natCast]; omega) ?_))
      have := rfrom_out l hl 12 1 0 (List.replicate l.length ByteArray.empty) (by omega) (by rw [List.length_replicate]) (by rw [shareL_fill hl]; omega)
      rw [Int.toNat_natCast]
      exact this
    · rw [if_neg hf]
      exact Ev.ifp (red_gt.2 hf) (Ev.val (by rfl))
  · rw [if_neg h, if_neg h]
    exact Ev.ifn (by decide) (Ev.val (by rfl))

/-! Two lightest are put together again and again: no lengths with Kraft's sum cost less; Cheapest's lengths are such ones. -/
/-! The cheapest lengths: two lightest are put together again and again. -/
/-- What is whistled if two lightest weights are put together again and again. -/
inductive Huf.Huff : List Nat → Nat → Prop
  | one (a : Nat) : Huf.Huff [a] 0
  | step {l r : List Nat} {a b s : Nat} : l.Perm (a :: b :: r) → (∀ x ∈ b :: r, a ≤ x) → (∀ x ∈ r, b ≤ x) → Huf.Huff ((a + b) :: r) s → Huf.Huff l (s + (a + b))
def Huf.costP (P : List (Nat × Nat)) : Nat := (P.map fun p => p.1 * p.2).sum
def Huf.longP (P : List (Nat × Nat)) : Nat := (P.map fun p => p.2).sum
def Huf.fillP (M : Nat) (P : List (Nat × Nat)) : Nat := (P.map fun p => 2 ^ (M - p.2)).sum
def Huf.KraftP (M : Nat) (P : List (Nat × Nat)) : Prop := (∀ p ∈ P, p.2 ≤ M) ∧ Huf.fillP M P ≤ 2 ^ M
theorem Huf.costP_cons (p : Nat × Nat) (P : List (Nat × Nat)) : Huf.costP (p :: P) = p.1 * p.2 + Huf.costP P := by unfold Huf.costP; rw [List.map_cons, List.sum_cons]
theorem Huf.longP_cons (p : Nat × Nat) (P : List (Nat × Nat)) : Huf.longP (p :: P) = p.2 + Huf.longP P := by unfold Huf.longP; rw [List.map_cons, List.sum_cons]
theorem Huf.fillP_cons (M : Nat) (p : Nat × Nat) (P : List (Nat × Nat)) : Huf.fillP M (p :: P) = 2 ^ (M - p.2) + Huf.fillP M P := by unfold Huf.fillP; rw [List.map_cons, List.sum_cons]
theorem Huf.costP_perm {P Q : List (Nat × Nat)} (h : P.Perm Q) : Huf.costP P = Huf.costP Q := (h.map _).sum_nat
theorem Huf.longP_perm {P Q : List (Nat × Nat)} (h : P.Perm Q) : Huf.longP P = Huf.longP Q := (h.map _).sum_nat
theorem Huf.fillP_perm {M : Nat} {P Q : List (Nat × Nat)} (h : P.Perm Q) : Huf.fillP M P = Huf.fillP M Q := (h.map _).sum_nat
theorem Huf.KraftP.perm {M : Nat} {P Q : List (Nat × Nat)} (hk : Huf.KraftP M P) (h : P.Perm Q) : Huf.KraftP M Q := ⟨fun p hp => hk.1 p (h.mem_iff.2 hp), by rw [← Huf.fillP_perm h]; exact hk.2⟩
theorem Huf.fillP_snd {M : Nat} {P Q : List (Nat × Nat)} (h : (P.map Prod.snd).Perm (Q.map Prod.snd)) : Huf.fillP M P = Huf.fillP M Q := by
  have := (h.map fun k => 2 ^ (M - k)).sum_nat
  rw [List.map_map, List.map_map] at this
  exact this
theorem Huf.fillP_scale {M m : Nat} (P : List (Nat × Nat)) (hm : ∀ p ∈ P, p.2 ≤ m) (h : m ≤ M) : Huf.fillP M P = 2 ^ (M - m) * Huf.fillP m P := by
  induction P with
  | nil => simp [Huf.fillP]
  | cons p P ih =>
    have hp := hm p (List.mem_cons_self ..)
    rw [Huf.fillP_cons, Huf.fillP_cons, ih fun q hq => hm q (List.mem_cons_of_mem _ hq), Nat.mul_add, ← Nat.pow_add, show M - m + (m - p.2) = M - p.2 by omega]
theorem Huf.KraftP.scale {M m : Nat} {P : List (Nat × Nat)} (hk : Huf.KraftP M P) (hm : ∀ p ∈ P, p.2 ≤ m) (h : m ≤ M) : Huf.KraftP m P := by
  refine ⟨hm, ?_⟩
  have h1 := hk.2
  rw [Huf.fillP_scale P hm h, show 2 ^ M = 2 ^ (M - m) * 2 ^ m by rw [← Nat.pow_add]; congr 1; omega] at h1
  exact Nat.le_of_mul_le_mul_left h1 (Nat.pow_pos (by decide))
theorem Huf.fillP_even {m : Nat} (P : List (Nat × Nat)) (hm : ∀ p ∈ P, p.2 < m) : Huf.fillP m P % 2 = 0 := by
  induction P with
  | nil => rfl
  | cons p P ih =>
    have hp := hm p (List.mem_cons_self ..)
    have := ih fun q hq => hm q (List.mem_cons_of_mem _ hq)
    rw [Huf.fillP_cons, show m - p.2 = (m - p.2 - 1) + 1 by omega, Nat.pow_succ]; omega
theorem Huf.max_at : ∀ (P : List (Nat × Nat)), P ≠ [] → ∃ p ∈ P, ∀ q ∈ P, q.2 ≤ p.2
  | [], h => absurd rfl h
  | [p], _ => ⟨p, List.mem_cons_self .., fun q hq => by rw [List.mem_singleton] at hq; subst hq; exact Nat.le_refl _⟩
  | p :: q :: P, _ => by
    obtain ⟨m, hm, hmax⟩ := Huf.max_at (q :: P) (by simp)
    by_cases h : p.2 ≤ m.2
    · refine ⟨m, List.mem_cons_of_mem _ hm, fun x hx => ?_⟩
      rcases List.mem_cons.1 hx with e | e
      · subst e; exact h
      · exact hmax x e
    · refine ⟨p, List.mem_cons_self .., fun x hx => ?_⟩
      rcases List.mem_cons.1 hx with e | e
      · subst e; exact Nat.le_refl _
      · have := hmax x e; omega
theorem Huf.perm_head {β : Type} {x : β} {l : List β} (h : x ∈ l) : ∃ r, l.Perm (x :: r) := by
  obtain ⟨s, t, rfl⟩ := List.append_of_mem h
  exact ⟨s ++ t, List.perm_middle⟩
/-- A lightest weight may have a greatest length. -/
theorem Huf.exch {p : Nat × Nat} {R : List (Nat × Nat)} {a : Nat} (ha : a ∈ (p :: R).map Prod.fst) (hmin : ∀ x ∈ (p :: R).map Prod.fst, a ≤ x) (hmax : ∀ q ∈ R, q.2 ≤ p.2) :
    ∃ R', ((p :: R).map Prod.fst).Perm (a :: R'.map Prod.fst) ∧ (R'.map Prod.snd).Perm (R.map Prod.snd) ∧ Huf.costP ((a, p.2) :: R') ≤ Huf.costP (p :: R) := by
  by_cases e : p.1 = a
  · refine ⟨R, by rw [List.map_cons, e], List.Perm.refl _, ?_⟩
    rw [Huf.costP_cons, Huf.costP_cons, e]
    exact Nat.le_refl _
  · rw [List.map_cons] at ha
    rcases List.mem_cons.1 ha with h | h
    · exact absurd h.symm e
    · obtain ⟨q, hq, rfl⟩ := List.mem_map.1 h
      obtain ⟨R2, hp⟩ := Huf.perm_head hq
      refine ⟨(p.1, q.2) :: R2, ?_, ?_, ?_⟩
      · rw [List.map_cons, List.map_cons]
        exact ((hp.map Prod.fst).cons p.1).trans (List.Perm.swap _ _ _)
      · rw [List.map_cons]
        exact (hp.map Prod.snd).symm
      · rw [Huf.costP_cons, Huf.costP_cons, Huf.costP_cons, Huf.costP_perm hp, Huf.costP_cons]
        have h1 := hmin p.1 (by simp)
        have h2 := hmax q hq
        obtain ⟨d, hd⟩ := Nat.le.dest h1
        obtain ⟨f, hf⟩ := Nat.le.dest h2
        have e1 : q.1 * p.2 = q.1 * q.2 + q.1 * f := by rw [← hf, Nat.mul_add]
        have e2 : p.1 * p.2 = p.1 * q.2 + p.1 * f := by rw [← hf, Nat.mul_add]
        have h3 : q.1 * f ≤ p.1 * f := Nat.mul_le_mul_right _ h1
        show q.1 * p.2 + (p.1 * q.2 + Huf.costP R2) ≤ p.1 * p.2 + (q.1 * q.2 + Huf.costP R2)
        omega
theorem Huf.huff_le {l : List Nat} {s : Nat} (h : Huf.Huff l s) : ∀ (P : List (Nat × Nat)) (M : Nat), (P.map Prod.fst).Perm l → Huf.KraftP M P → s ≤ Huf.costP P := by
  induction h with
  | one a => intro P M _ _; exact Nat.zero_le _
  | @step l r a b s hl ha hb _ ih =>
    suffices H : ∀ (n : Nat) (P : List (Nat × Nat)) (M : Nat), Huf.longP P ≤ n → (P.map Prod.fst).Perm l → Huf.KraftP M P → s + (a + b) ≤ Huf.costP P from fun P M => H _ P M (Nat.le_refl _)
    intro n
    induction n with
    | zero =>
      intro P M hn hp hk
      exfalso
      have hlen : 2 ≤ P.length := by rw [← List.length_map (f := Prod.fst), (hp.trans hl).length_eq]; simp
      match P, hlen with
      | p :: q :: P, _ =>
        rw [Huf.longP_cons, Huf.longP_cons] at hn
        have := hk.2
        rw [Huf.fillP_cons, Huf.fillP_cons, show p.2 = 0 by omega, show q.2 = 0 by omega, Nat.sub_zero] at this
        have := Nat.pow_pos (n := M) (show 0 < 2 by decide)
        omega
    | succ n ihn =>
      intro P M hn hp hk
      have hlen : 2 ≤ P.length := by rw [← List.length_map (f := Prod.fst), (hp.trans hl).length_eq]; simp
      have hPn : P ≠ [] := by intro e; rw [e] at hlen; simp at hlen
      obtain ⟨p, hpm, hmax⟩ := Huf.max_at P hPn
      obtain ⟨Q, hQ⟩ := Huf.perm_head hpm
      have hk := (hk.scale hmax (hk.1 p hpm)).perm hQ
      have hmaxQ : ∀ q ∈ Q, q.2 ≤ p.2 := fun q hq => hk.1 q (List.mem_cons_of_mem _ hq)
      rw [Huf.costP_perm hQ]
      rw [Huf.longP_perm hQ, Huf.longP_cons] at hn
      have hp := ((hQ.map Prod.fst).symm.trans hp).trans hl
      have hQl : 1 ≤ Q.length := by have := hQ.length_eq; rw [List.length_cons] at this; omega
      have hpos : 1 ≤ p.2 := by
        apply Classical.byContradiction
        intro h0
        match Q, hQl, hk with
        | q :: Q, _, hk =>
          have := hk.2
          rw [Huf.fillP_cons, Huf.fillP_cons, show p.2 = 0 by omega] at this
          have := Nat.pow_pos (n := 0 - q.2) (show 0 < 2 by decide)
          simp at *
          omega
      by_cases hq : ∃ q ∈ Q, q.2 = p.2
      · obtain ⟨R, hR1, hR2, hR3⟩ := Huf.exch (p := p) (R := Q) (a := a) (hp.mem_iff.2 (by simp)) (fun x hx => by
          rcases List.mem_cons.1 (hp.mem_iff.1 hx) with e | e
          · omega
          · exact ha x e) hmaxQ
        have hw1 : (R.map Prod.fst).Perm (b :: r) := (hR1.symm.trans hp).cons_inv
        have hmem : p.2 ∈ R.map Prod.snd := by
          obtain ⟨q, hq, e⟩ := hq
          exact hR2.mem_iff.2 (List.mem_map.2 ⟨q, hq, e⟩)
        obtain ⟨q2, hq2, e2⟩ := List.mem_map.1 hmem
        obtain ⟨R2, hR4⟩ := Huf.perm_head hq2
        have hmax2 : ∀ q ∈ R, q.2 ≤ p.2 := fun q hq => by
          have := hR2.mem_iff.1 (List.mem_map.2 ⟨q, hq, rfl⟩)
          obtain ⟨q3, hq3, e3⟩ := List.mem_map.1 this
          rw [← e3]; exact hmaxQ q3 hq3
        have hw2 := (hR4.map Prod.fst).symm.trans hw1
        obtain ⟨R3, hR5, hR6, hR7⟩ := Huf.exch (p := q2) (R := R2) (a := b) (hw2.mem_iff.2 (by simp)) (fun x hx => by
          rcases List.mem_cons.1 (hw2.mem_iff.1 hx) with e | e
          · omega
          · exact hb x e) (fun q hq => by rw [e2]; exact hmax2 q (hR4.mem_iff.2 (List.mem_cons_of_mem _ hq)))
        have hw3 : (R3.map Prod.fst).Perm r := (hR5.symm.trans hw2).cons_inv
        have hf : Huf.fillP p.2 (p :: Q) = 2 + Huf.fillP p.2 R3 := by
          have e1 := Huf.fillP_snd (M := p.2) hR2
          rw [Huf.fillP_perm hR4, Huf.fillP_cons, e2] at e1
          rw [Huf.fillP_cons, ← e1, ← Huf.fillP_snd hR6]
          simp
          omega
        have hc := hR3
        rw [Huf.costP_cons, Huf.costP_perm hR4] at hc
        rw [Huf.costP_cons, e2] at hR7
        have := ih ((a + b, p.2 - 1) :: R3) p.2 (by rw [List.map_cons]; exact hw3.cons _) ⟨fun x hx => ?_, ?_⟩
        · rw [Huf.costP_cons] at this
          simp only at this hc hR7
          obtain ⟨k, hk⟩ : ∃ k, p.2 = k + 1 := ⟨p.2 - 1, by omega⟩
          rw [hk] at this hc hR7
          rw [Nat.add_sub_cancel, Nat.add_mul] at this
          rw [Nat.mul_add, Nat.mul_one] at hc hR7
          omega
        · rcases List.mem_cons.1 hx with e | e
          · rw [e]; exact Nat.sub_le _ _
          · obtain ⟨q3, hq3, e3⟩ := List.mem_map.1 (hR6.mem_iff.1 (List.mem_map.2 ⟨x, e, rfl⟩))
            rw [← e3]; exact hmax2 q3 (hR4.mem_iff.2 (List.mem_cons_of_mem _ hq3))
        · have h2 := hk.2
          rw [hf] at h2
          rw [Huf.fillP_cons, show p.2 - (p.2 - 1) = 1 by omega]
          exact h2
      · have hlt : ∀ q ∈ Q, q.2 < p.2 := fun q hq2 => by
          have := hmaxQ q hq2
          have : q.2 ≠ p.2 := fun e => hq ⟨q, hq2, e⟩
          omega
        have hev := Huf.fillP_even Q hlt
        have h2 := hk.2
        rw [Huf.fillP_cons, Nat.sub_self, Nat.pow_zero] at h2
        have := ihn ((p.1, p.2 - 1) :: Q) p.2 (by rw [Huf.longP_cons]; simp only; omega) (by rw [List.map_cons]; rw [List.map_cons] at hp; exact hp.trans hl.symm) ⟨fun x hx => ?_, ?_⟩
        · rw [Huf.costP_cons] at this ⊢
          have h3 : p.1 * (p.2 - 1) ≤ p.1 * p.2 := Nat.mul_le_mul_left _ (Nat.sub_le _ _)
          simp only at this
          omega
        · rcases List.mem_cons.1 hx with e | e
          · rw [e]; exact Nat.sub_le _ _
          · exact hmaxQ x e
        · rw [Huf.fillP_cons, show p.2 - (p.2 - 1) = 1 by omega]
          obtain ⟨k, hk2⟩ : ∃ k, p.2 = k + 1 := ⟨p.2 - 1, by omega⟩
          rw [hk2, Nat.pow_succ] at h2 ⊢
          rw [hk2] at hev
          omega
theorem Huf.fillP_up (M : Nat) (P : List (Nat × Nat)) (h : ∀ p ∈ P, p.2 ≤ M) : Huf.fillP (M + 1) P = 2 * Huf.fillP M P := by
  rw [Huf.fillP_scale P h (Nat.le_succ M), show M.succ - M = 1 by omega, Nat.pow_one]
/-- The sum is the cost of some lengths. -/
theorem Huf.huff_has {l : List Nat} {s : Nat} (h : Huf.Huff l s) : ∃ (P : List (Nat × Nat)) (M : Nat), (P.map Prod.fst).Perm l ∧ Huf.KraftP M P ∧ Huf.costP P = s := by
  induction h with
  | one a => exact ⟨[(a, 0)], 0, List.Perm.refl _, ⟨fun p hp => by rw [List.mem_singleton] at hp; subst hp; exact Nat.le_refl _, by simp [Huf.fillP]⟩, by simp [Huf.costP]⟩
  | @step l r a b s hl ha hb _ ih =>
    obtain ⟨P, M, hp, hk, hc⟩ := ih
    have hm : a + b ∈ P.map Prod.fst := hp.mem_iff.2 (List.mem_cons_self ..)
    obtain ⟨q, hq, e⟩ := List.mem_map.1 hm
    obtain ⟨R, hR⟩ := Huf.perm_head hq
    have hk := hk.perm hR
    have hp2 := (hR.map Prod.fst).symm.trans hp
    rw [List.map_cons, e] at hp2
    have hp3 := hp2.cons_inv
    have hRM : ∀ x ∈ R, x.2 ≤ M := fun x hx => hk.1 x (List.mem_cons_of_mem _ hx)
    have hqM := hk.1 q (List.mem_cons_self ..)
    refine ⟨(a, q.2 + 1) :: (b, q.2 + 1) :: R, M + 1, ?_, ⟨fun x hx => ?_, ?_⟩, ?_⟩
    · rw [List.map_cons, List.map_cons]
      exact ((hp3.cons b).cons a).trans hl.symm
    · rcases List.mem_cons.1 hx with e | hx
      · rw [e]; exact Nat.succ_le_succ hqM
      · rcases List.mem_cons.1 hx with e | hx
        · rw [e]; exact Nat.succ_le_succ hqM
        · exact Nat.le_succ_of_le (hRM x hx)
    · have h2 := hk.2
      rw [Huf.fillP_cons] at h2
      rw [Huf.fillP_cons, Huf.fillP_cons, Huf.fillP_up M R hRM, Nat.pow_succ]
      simp only [Nat.add_sub_add_right]
      omega
    · have h2 := Huf.costP_perm hR
      rw [hc, Huf.costP_cons, e, Nat.add_mul] at h2
      rw [Huf.costP_cons, Huf.costP_cons, h2]
      simp only [Nat.mul_add, Nat.mul_one]
      omega
/-- The sum does not hang on the order, nor on which of equal ones are taken. -/
theorem Huf.huff_det {l l' : List Nat} {s s' : Nat} (h : Huf.Huff l s) (h' : Huf.Huff l' s') (hp : l.Perm l') : s = s' := by
  obtain ⟨P, M, h1, h2, h3⟩ := Huf.huff_has h
  obtain ⟨P', M', h1', h2', h3'⟩ := Huf.huff_has h'
  have e1 := Huf.huff_le h' P M (h1.trans hp) h2
  have e2 := Huf.huff_le h P' M' (h1'.trans hp.symm) h2'
  omega
/-! The cheapest lengths are a code's, and cost what the sum of the joined weights is. -/
/-- What is left of it when an order is changed. -/
theorem Huf.Huff.perm {l l' : List Nat} {s : Nat} (h : Huf.Huff l s) (hp : l.Perm l') : Huf.Huff l' s := by
  cases h with
  | one a =>
    obtain rfl := List.perm_singleton.1 hp.symm
    exact .one a
  | step h1 h2 h3 h4 => exact .step (hp.symm.trans h1) h2 h3 h4
def costF (ws : Nat → Nat) (l : List Nat) (S : List Nat) : Nat := (S.map fun i => ws i * l.getD i 0).sum
structure Full (ws : Nat → Nat) (n : Nat) (o : List Br) (l : List Nat) : Prop where
  good : Q.Good n o l
  wsum : ∀ b ∈ o, b.1 = (b.2.map ws).sum
  kraft : ∀ b ∈ o, (b.2.map fun i => 2 ^ (12 - l.getD i 0)).sum = 4096
  deep : ∀ b ∈ o, ∀ i ∈ b.2, l.getD i 0 + 1 ≤ b.2.length
theorem costF_perm {ws : Nat → Nat} {l S T : List Nat} (h : S.Perm T) : costF ws l S = costF ws l T := (h.map _).sum_nat
theorem costF_app (ws : Nat → Nat) (l S T : List Nat) : costF ws l (S ++ T) = costF ws l S + costF ws l T := by unfold costF; rw [List.map_append, List.sum_append]
theorem costF_up (ws : Nat → Nat) (l l' : List Nat) : ∀ S : List Nat, (∀ i ∈ S, l'.getD i 0 = l.getD i 0 + 1) → costF ws l' S = costF ws l S + (S.map ws).sum
  | [], _ => rfl
  | i :: S, h => by
    have h1 := costF_up ws l l' S fun j hj => h j (List.mem_cons_of_mem _ hj)
    unfold costF at *
    rw [List.map_cons, List.map_cons, List.map_cons, List.sum_cons, List.sum_cons, List.sum_cons, h1, h i (List.mem_cons_self ..), Nat.mul_add, Nat.mul_one]; omega
theorem costF_same (ws : Nat → Nat) (l l' : List Nat) (S : List Nat) (h : ∀ i ∈ S, l'.getD i 0 = l.getD i 0) : costF ws l' S = costF ws l S := by
  unfold costF
  rw [List.map_congr_left (fun i hi => by rw [h i hi])]
theorem kraft_up (l l' : List Nat) : ∀ S : List Nat, (∀ i ∈ S, l'.getD i 0 = l.getD i 0 + 1) → (∀ i ∈ S, l.getD i 0 ≤ 11) → 2 * (S.map fun i => 2 ^ (12 - l'.getD i 0)).sum = (S.map fun i => 2 ^ (12 - l.getD i 0)).sum
  | [], _, _ => rfl
  | i :: S, h, hd => by
    have h1 := kraft_up l l' S (fun j hj => h j (List.mem_cons_of_mem _ hj)) (fun j hj => hd j (List.mem_cons_of_mem _ hj))
    have h2 := hd i (List.mem_cons_self ..)
    rw [List.map_cons, List.map_cons, List.sum_cons, List.sum_cons, h i (List.mem_cons_self ..), Nat.mul_add, h1, show 12 - l.getD i 0 = (12 - (l.getD i 0 + 1)) + 1 by omega, Nat.pow_succ]
    omega
theorem Full.perm {ws : Nat → Nat} {n : Nat} {o o' : List Br} {l : List Nat} (h : Full ws n o l) (hp : o.Perm o') : Full ws n o' l where
  good := h.good.perm hp
  wsum := fun b hb => h.wsum b (hp.mem_iff.2 hb)
  kraft := fun b hb => h.kraft b (hp.mem_iff.2 hb)
  deep := fun b hb => h.deep b (hp.mem_iff.2 hb)
theorem Full.two {ws : Nat → Nat} {n : Nat} {a b : Br} {r : List Br} {l : List Nat} (h : Full ws n (a :: b :: r) l) (hn : n ≤ 12) :
    Full ws n (joinB a b :: r) (bump l (joinB a b).2) ∧ costF ws (bump l (joinB a b).2) (List.range n) = costF ws l (List.range n) + (joinB a b).1 := by
  obtain ⟨hg, hnd, hlt, hdis⟩ := h.good.join
  have hget := fun j => bump_get (joinB a b).2 l j hnd (fun i hi => by rw [h.good.len]; exact hlt i hi)
  have hup : ∀ i ∈ (joinB a b).2, (bump l (joinB a b).2).getD i 0 = l.getD i 0 + 1 := fun i hi => by rw [hget, if_pos hi]
  have hst : ∀ x ∈ r, ∀ i ∈ x.2, (bump l (joinB a b).2).getD i 0 = l.getD i 0 := fun x hx i hi => by rw [hget, if_neg (hdis x hx i hi)]; rfl
  have hwj : (joinB a b).1 = ((joinB a b).2.map ws).sum := by
    show a.1 + b.1 = ((a.2 ++ b.2).map ws).sum
    rw [List.map_append, List.sum_append, h.wsum a (by simp), h.wsum b (by simp)]
  have hlen : ∀ x ∈ a :: b :: r, x.2.length ≤ n := fun x hx => by
    have h1 : ((a :: b :: r).flatMap fun b => b.2).length = n := by rw [h.good.part.length_eq, List.length_range]
    obtain ⟨r', hr'⟩ := Huf.perm_head hx
    have h2 := ((hr'.flatMap_right fun b : Br => b.2).length_eq)
    rw [h1, List.flatMap_cons, List.length_append] at h2
    omega
  have hsmall : ∀ i ∈ (joinB a b).2, l.getD i 0 ≤ 11 := fun i hi => by
    rcases List.mem_append.1 (show i ∈ a.2 ++ b.2 from hi) with hi | hi
    · have := h.deep a (by simp) i hi
      have := hlen a (by simp); omega
    · have := h.deep b (by simp) i hi
      have := hlen b (by simp); omega
  refine ⟨⟨hg, fun x hx => ?_, fun x hx => ?_, fun x hx i hi => ?_⟩, ?_⟩
  · rcases List.mem_cons.1 hx with rfl | hx
    · exact hwj
    · exact h.wsum x (by simp [hx])
  · rcases List.mem_cons.1 hx with rfl | hx
    · have h1 := kraft_up l (bump l (joinB a b).2) (joinB a b).2 hup hsmall
      have h2 : ((joinB a b).2.map fun i => 2 ^ (12 - l.getD i 0)).sum = 8192 := by
        show ((a.2 ++ b.2).map _).sum = _
        rw [List.map_append, List.sum_append, h.kraft a (by simp), h.kraft b (by simp)]
      omega
    · rw [List.map_congr_left (g := fun i => 2 ^ (12 - l.getD i 0)) (fun i hi => by rw [hst x hx i hi])]
      exact h.kraft x (by simp [hx])
  · rcases List.mem_cons.1 hx with rfl | hx
    · rw [hup i hi, show (joinB a b).2 = a.2 ++ b.2 from rfl, List.length_append]
      have ha : 0 < a.2.length := List.length_pos_iff.2 (h.good.ne a (by simp))
      have hb : 0 < b.2.length := List.length_pos_iff.2 (h.good.ne b (by simp))
      rcases List.mem_append.1 (show i ∈ a.2 ++ b.2 from hi) with hi | hi
      · have := h.deep a (by simp) i hi; omega
      · have := h.deep b (by simp) i hi; omega
    · rw [hst x hx i hi]
      exact h.deep x (by simp [hx]) i hi
  · have hp : (List.range n).Perm ((joinB a b).2 ++ (r.flatMap fun b => b.2)) := by
      have := hg.part
      rw [List.flatMap_cons] at this
      exact this.symm
    rw [costF_perm hp, costF_perm hp, costF_app, costF_app, costF_up ws l _ _ hup, costF_same ws l _ (r.flatMap fun b => b.2) (fun i hi => by obtain ⟨x, hx, hi⟩ := List.mem_flatMap.1 hi; exact hst x hx i hi), hwj]
    omega
theorem cheap_go (ws : Nat → Nat) (n : Nat) (hn : n ≤ 12) : ∀ (k : Nat) (o : List Br) (l : List Nat), Full ws n o l → o.length = k → 0 < k →
    ∃ s b, Huf.Huff (o.map fun b => b.1) s ∧ Full ws n [b] (cheapRun k o l) ∧ costF ws (cheapRun k o l) (List.range n) = costF ws l (List.range n) + s := by
  intro k
  induction k with
  | zero => intro o l _ _ h; omega
  | succ k ih =>
    intro o l hF hk _
    unfold cheapRun
    by_cases h1 : o.length ≤ 1
    · rw [if_pos h1]
      match o, hk, hF with
      | [b], _, hF => exact ⟨0, b, .one _, hF, rfl⟩
      | b :: c :: o, _, _ => simp at h1
    · rw [if_neg h1]
      have h2 : 2 ≤ o.length := by omega
      obtain ⟨a, b, r, -, e1, e2, hp, m1, m2⟩ := sortB_cases h2
      have hl := stepO_len h2
      obtain ⟨hF2, hc⟩ := (hF.perm hp).two hn
      have hp2 : (joinB a b :: r).Perm (stepO o) := by rw [e2]; exact List.perm_append_comm (l₁ := [joinB a b]) (l₂ := r)
      rw [e1]
      obtain ⟨s, c, g1, g2, g3⟩ := ih (stepO o) (bump l (joinB a b).2) (hF2.perm hp2) (by omega) (by omega)
      refine ⟨s + (a.1 + b.1), c, ?_, g2, by rw [g3, hc]; show _ + (a.1 + b.1) + s = _; omega⟩
      refine .step (r := r.map fun b => b.1) (hp.map _) (fun x hx => ?_) (fun x hx => ?_) (g1.perm (hp2.symm.map _))
      · obtain ⟨y, hy, rfl⟩ := List.mem_map.1 (show x ∈ (b :: r).map fun b => b.1 from hx)
        exact m1 y hy
      · obtain ⟨y, hy, rfl⟩ := List.mem_map.1 hx
        exact m2 y hy
theorem list_range {l : List Nat} {n : Nat} (h : l.length = n) : (List.range n).map (fun i => l.getD i 0) = l := by
  apply List.ext_getElem
  · simp [h]
  · intro i h1 h2
    simp only [List.getElem_map, List.getElem_range]
    rw [List.getD_eq_getElem?_getD, List.getElem?_eq_getElem h2]; rfl
def natL (l : List Nat) : List Int := l.map fun n : Nat => (n : Int)
theorem natL_len (l : List Nat) : (natL l).length = l.length := by unfold natL; rw [List.length_map]
theorem fillN_nat (l : List Nat) : fillN (natL l) = (l.map fun x => 2 ^ (12 - x)).sum := by
  unfold fillN natL
  rw [List.map_map]; rfl
theorem sum_ge {S : List Nat} (f : Nat → Nat) : ∀ {S : List Nat} {i j : Nat}, i ∈ S → j ∈ S → i ≠ j → f i + f j ≤ (S.map f).sum := by
  intro S
  have one : ∀ (S : List Nat) (i : Nat), i ∈ S → f i ≤ (S.map f).sum := by
    intro S
    induction S with
    | nil => intro i h; cases h
    | cons x S ih =>
      intro i h
      rw [List.map_cons, List.sum_cons]
      rcases List.mem_cons.1 h with rfl | h
      · omega
      · have := ih i h; omega
  induction S with
  | nil => intro i j h; cases h
  | cons x S ih =>
    intro i j hi hj hne
    rw [List.map_cons, List.sum_cons]
    rcases List.mem_cons.1 hi with rfl | hi
    · rcases List.mem_cons.1 hj with rfl | hj
      · exact absurd rfl hne
      · have := one S j hj; omega
    · rcases List.mem_cons.1 hj with rfl | hj
      · have h5 : f i ≤ (S.map f).sum := one S i (by assumption)
        omega
      · have := ih hi hj hne; omega
def wN (ws : List Int) (i : Nat) : Nat := (rd ws (i : Int)).toNat
theorem startB_w (ws : List Int) : (startB ws).map (fun b => b.1) = ws.map Int.toNat := by
  unfold startB
  rw [List.map_map]
  apply List.ext_getElem
  · simp
  · intro i h1 h2
    simp only [List.getElem_map, List.getElem_range, Function.comp]
    have h3 : i < ws.length := by simpa using h2
    unfold rd
    rw [Int.toNat_natCast, List.getD_eq_getElem?_getD, List.getElem?_eq_getElem h3]; rfl
theorem cheap_full {ws : List Int} (hw : ∀ i : Int, 0 ≤ i → i < (ws.length : Int) → 0 ≤ rd ws i ∧ rd ws i ≤ 1000) (h2 : 2 ≤ ws.length) : Full (wN ws) ws.length (startB ws) (firstL ws.length) := by
  have hm : ∀ b ∈ startB ws, ∃ i, i < ws.length ∧ b = ((rd ws (i : Int)).toNat, [i]) := fun b hb => by
    obtain ⟨i, hi, rfl⟩ := List.mem_map.1 hb
    exact ⟨i, List.mem_range.1 hi, rfl⟩
  have hz : ∀ i, (firstL ws.length).getD i 0 = 0 := fun i => by
    unfold firstL
    rw [if_neg (by omega), List.getD_eq_getElem?_getD, List.getElem?_replicate]; split <;> rfl
  refine ⟨Q.Good.start hw, fun b hb => ?_, fun b hb => ?_, fun b hb i hi => ?_⟩
  · obtain ⟨i, hi, rfl⟩ := hm b hb
    simp [wN]
  · obtain ⟨i, hi, rfl⟩ := hm b hb
    show 2 ^ (12 - (firstL ws.length).getD i 0) + 0 = 4096
    rw [hz]; rfl
  · obtain ⟨j, hj, rfl⟩ := hm b hb
    rw [hz]
    exact Nat.le_refl _
/-- The cheapest lengths. -/
theorem cheap_has {ws : List Int} (hw : ∀ i : Int, 0 ≤ i → i < (ws.length : Int) → 0 ≤ rd ws i ∧ rd ws i ≤ 1000) (h2 : 2 ≤ ws.length) (h12 : ws.length ≤ 12) :
    ∃ s, Huf.Huff (ws.map Int.toNat) s ∧ (cheapL ws).length = ws.length ∧ costF (wN ws) (cheapL ws) (List.range ws.length) = s ∧ fillN (natL (cheapL ws)) = 4096 ∧ ∀ x ∈ cheapL ws, 1 ≤ x ∧ x ≤ 12 := by
  have hst : (startB ws).length = ws.length := by unfold startB; simp
  obtain ⟨s, b, g1, g2, g3⟩ := cheap_go (wN ws) ws.length h12 ws.length (startB ws) (firstL ws.length) (cheap_full hw h2) hst (by omega)
  rw [startB_w] at g1
  have g2 : Full (wN ws) ws.length [b] (cheapL ws) := g2
  have hz : costF (wN ws) (firstL ws.length) (List.range ws.length) = 0 := by
    have : ∀ S : List Nat, costF (wN ws) (firstL ws.length) S = 0 := fun S => by
      induction S with
      | nil => rfl
      | cons i S ih =>
        unfold costF at ih ⊢
        rw [List.map_cons, List.sum_cons, ih]
        unfold firstL
        rw [if_neg (by omega), List.getD_eq_getElem?_getD, List.getElem?_replicate]; split <;> simp
    exact this _
  have hlen := g2.good.len
  have hperm : b.2.Perm (List.range ws.length) := by
    have := g2.good.part
    simpa using this
  have hk := g2.kraft b (List.mem_singleton.2 rfl)
  have hfill : fillN (natL (cheapL ws)) = 4096 := by
    rw [fillN_nat, ← hk, (hperm.map _).sum_nat]
    conv => lhs; rw [← list_range hlen]
    rw [List.map_map]; rfl
  refine ⟨s, g1, hlen, by rw [show cheapL ws = cheapRun ws.length (startB ws) (firstL ws.length) from rfl, g3, hz]; omega, hfill, fun x hx => ?_⟩
  obtain ⟨i, hi, rfl⟩ := List.getElem_of_mem hx
  have hib : i ∈ b.2 := hperm.mem_iff.2 (List.mem_range.2 (by omega))
  have hgi : (cheapL ws).getD i 0 = (cheapL ws)[i] := by rw [List.getD_eq_getElem?_getD, List.getElem?_eq_getElem hi]; rfl
  have hd := g2.deep b (List.mem_singleton.2 rfl) i hib
  have hbl : b.2.length = ws.length := by rw [hperm.length_eq, List.length_range]
  rw [hgi] at hd
  refine ⟨?_, by omega⟩
  refine Nat.pos_of_ne_zero fun h0 => ?_
  obtain ⟨j, hj, hne⟩ : ∃ j, j < ws.length ∧ i ≠ j := by
    by_cases e : i = 0
    · exact ⟨1, by omega, by omega⟩
    · exact ⟨0, by omega, e⟩
  have hjb : j ∈ b.2 := hperm.mem_iff.2 (List.mem_range.2 hj)
  have h3 := sum_ge (S := b.2) (fun i => 2 ^ (12 - (cheapL ws).getD i 0)) hib hjb hne
  rw [hk] at h3
  simp only [hgi, h0] at h3
  have h4 : 0 < 2 ^ (12 - (cheapL ws).getD j 0) := Nat.pow_pos (by decide)
  omega
theorem cheap_one {ws : List Int} (h1 : ws.length = 1) : cheapL ws = [1] := by
  unfold cheapL firstL
  rw [h1, if_pos rfl]
  unfold cheapRun startB
  rw [h1]; rfl

/-! Costs, and the smallest one, by both. -/

def wOk (ws : List Int) : Bool := oneTo 0 1000 ws
theorem outW_w {n : Int} : outW 0 1000 n = false ↔ 0 ≤ n ∧ n ≤ 1000 := by
  unfold outW; simp
structure Wts (ws : List Int) : Prop where
  pos : 0 < ws.length
  le : ws.length ≤ 12
  at_ : ∀ i : Int, 0 ≤ i → i < (ws.length : Int) → 0 ≤ rd ws i ∧ rd ws i ≤ 1000
theorem wOk_iff {ws : List Int} (h : wOk ws = true) : Wts ws := by
  obtain ⟨h1, h2, h3⟩ := oneTo_parts h
  exact ⟨h1, h2, h3⟩
/-- The sum of products, from a place on. -/
def dotF (ws L : List Int) : Nat → Nat → Int
  | _, 0 => 0
  | i, d + 1 => rd ws (i : Int) * rd L (i : Int) + dotF ws L (i + 1) d
theorem rd_natL (l : List Nat) (i : Nat) : rd (natL l) (i : Int) = (l.getD i 0 : Nat) := by
  unfold rd natL
  rw [Int.toNat_natCast, List.getD_eq_getElem?_getD, List.getElem?_map, List.getD_eq_getElem?_getD]
  cases l[i]? <;> rfl
theorem dot_cost {ws : List Int} (h : Wts ws) (l : List Nat) (d : Nat) : ∀ i, i + d ≤ ws.length → dotF ws (natL l) i d = ((costF (wN ws) l (List.range' i d) : Nat) : Int) := by
  induction d with
  | zero => intro i _; rfl
  | succ d ih =>
    intro i hi
    have hw := (h.at_ (i : Int) (by omega) (by omega)).1
    unfold dotF
    rw [ih (i + 1) (by omega), rd_natL]
    unfold costF
    rw [List.range'_succ, List.map_cons, List.sum_cons, Int.natCast_add, Int.natCast_mul]
    congr 2
    unfold wN
    omega
theorem prod_small {a b : Int} (h0 : 0 ≤ a) (h1 : a ≤ 1000) (h2 : 0 ≤ b) (h3 : b ≤ 1000) : 0 ≤ a * b ∧ a * b ≤ 1000000 := by
  refine ⟨Int.mul_nonneg h0 h2, ?_⟩
  have := Int.mul_le_mul h1 h3 h2 (by omega)
  omega
theorem cost_at {ws L : List Int} (h : Wts ws) (hl : L.length = ws.length) (hL : ∀ i : Int, 0 ≤ i → i < (ws.length : Int) → 0 ≤ rd L i ∧ rd L i ≤ 1000) (d : Nat) :
    ∀ (i : Nat) (acc : Int), i + d = ws.length → 0 ≤ acc → acc ≤ 1000000 * i → Ev (fun k => whistle_cost.l0 k L acc ws (ws.length : Int) (i : Int)) (acc + dotF ws L i d) := by
  have h12 := h.le
  induction d with
  | zero =>
    intro i acc hi h0 h1
    exact Ev.step (fun k => by rw [whistle_cost.l0]) (Ev.ifn (by omega) (Ev.val (by unfold dotF; omega)))
  | succ d ih =>
    intro i acc hi h0 h1
    obtain ⟨a1, a2⟩ := h.at_ (i : Int) (by omega) (by omega)
    obtain ⟨b1, b2⟩ := hL (i : Int) (by omega) (by omega)
    obtain ⟨p1, p2⟩ := prod_small a1 a2 b1 b2
    have q := ih (i + 1) (acc + rd ws (i : Int) * rd L (i : Int)) (by omega) (by omega) (by omega)
    have e1 : wrap64 (rd ws (i : Int) * rd L (i : Int)) = rd ws (i : Int) * rd L (i : Int) := w64 (by omega) (by omega)
    have e2 : wrap64 (acc + rd ws (i : Int) * rd L (i : Int)) = acc + rd ws (i : Int) * rd L (i : Int) := by clear e1 q ih; exact w64 (by omega) (by omega)
    have e3 : acc + dotF ws L i (d + 1) = (acc + rd ws (i : Int) * rd L (i : Int)) + dotF ws L (i + 1) d := by
      clear e1 e2 q ih
      conv => lhs; unfold dotF
      omega
    rw [e3]
    refine Ev.step (fun k => by rw [whistle_cost.l0, e1, e2, w64s (show i < 1000000000000000000 by omega)]) (Ev.ifp (by omega) (Ev.ifp (by omega) (Ev.ifp (by omega) (Ev.ifp (by omega) ?_))))
    exact q
theorem cost_ev {ws L : List Int} (h : Wts ws) (hl : L.length = ws.length) (hL : ∀ i : Int, 0 ≤ i → i < (ws.length : Int) → 0 ≤ rd L i ∧ rd L i ≤ 1000) : Ev (fun k => whistle_cost.f k ws L) (dotF ws L 0 ws.length) := by
  have := cost_at h hl hL ws.length 0 0 (by omega) (Int.le_refl _) (by omega)
  rw [Int.zero_add] at this
  exact this
theorem rweight_at (l : List Int) (hl : l.length ≤ 12) (d : Nat) : ∀ i, i + d = l.length → Ev (fun k => wigeonref05_weightsOK.l0 k l (i : Int)) (errB (!(l.drop i).any (outW 0 1000))) := by
  induction d with
  | zero =>
    intro i hi
    rw [List.drop_eq_nil_of_le (by omega)]
    exact Ev.step (fun k => by rw [wigeonref05_weightsOK.l0]) (Ev.ifn (by omega) (Ev.val (by rfl)))
  | succ d ih =>
    intro i hi
    rw [drop_rd (show i < l.length by omega), List.any_cons]
    refine Ev.step (fun k => by rw [wigeonref05_weightsOK.l0, w64s (show i < 1000000000000000000 by omega)]) (Ev.ifp (by omega) (Ev.ifp (by omega) ?_))
    by_cases h1 : rd l (i : Int) < 0
    · have e : outW 0 1000 (rd l (i : Int)) = true := by rw [← Bool.not_eq_false, outW_w]; omega
      rw [e]
      exact Ev.ifp h1 (Ev.val (by rfl))
    · refine Ev.ifn h1 ?_
      by_cases h2 : rd l (i : Int) > 1000
      · have e : outW 0 1000 (rd l (i : Int)) = true := by rw [← Bool.not_eq_false, outW_w]; omega
        rw [e]
        exact Ev.ifp h2 (Ev.val (by rfl))
      · have e : outW 0 1000 (rd l (i : Int)) = false := outW_w.2 (by omega)
        rw [e, Bool.false_or]
        exact Ev.ifn h2 (ih (i + 1) (by omega))
theorem rweight_ev (l : List Int) : Ev (fun k => wigeonref05_weightsOK.f k l) (errB (wOk l)) := by
  unfold wigeonref05_weightsOK.f wOk oneTo
  by_cases h1 : l.length < 1
  · rw [decide_eq_true h1]
    exact Ev.ifp (by omega) (Ev.step (fun k => by rw [wigeonref05_weightsOK.j0]) (Ev.ifp rfl (Ev.val (by rfl))))
  · rw [decide_eq_false h1]
    refine Ev.ifn (by omega) (Ev.step (fun k => by rw [wigeonref05_weightsOK.j0]) ?_)
    by_cases h2 : 12 < l.length
    · rw [decide_eq_true h2]
      exact Ev.ifp (decide_eq_true (by omega)) (Ev.val (by rfl))
    · rw [decide_eq_false h2]
      have := rweight_at l (by omega) l.length 0 (by omega)
      rw [List.drop_zero] at this
      rw [Bool.false_or, Bool.false_or]
      exact Ev.ifn (by rw [decide_eq_true_eq]; omega) this
/-! The reference's smallest cost. -/
theorem take_at (l : List Int) (hl : l.length ≤ 100) (d : Nat) : ∀ i m, i + d = l.length → m < i → (∀ j, j < i → rd l (m : Int) ≤ rd l (j : Int)) →
    ∃ m', m' < l.length ∧ (∀ j, j < l.length → rd l (m' : Int) ≤ rd l (j : Int)) ∧ Ev (fun k => wigeonref05_take.l0 k l (m : Int) (i : Int)) (rd l (m' : Int), l.take m' ++ l.drop (m' + 1)) := by
  induction d with
  | zero =>
    intro i m hi hm hmin
    refine ⟨m, by omega, fun j hj => hmin j (by omega), ?_⟩
    have e : ((m : Int) + 1).toNat = m + 1 := by omega
    have e2 : wrap64 ((m : Int) + 1) = ((m + 1 : Nat) : Int) := w64s (by omega)
    refine Ev.step (fun k => by rw [wigeonref05_take.l0, e2]) (Ev.ifn (by omega) (Ev.ifp (by omega) (Ev.ifp (by omega) (Ev.ifp ?_ ?_))))
    · rw [Int.toNat_natCast, List.length_take]; show 0 + _ < _; omega
    · refine Ev.some_bind ?_
      rw [List.nil_append, Int.toNat_natCast, Int.toNat_natCast]
      refine Ev.ifp (by omega) (Ev.ifp (by omega) (Ev.ifp (by omega) (Ev.ifp ?_ (Ev.now _))))
      rw [List.length_take, List.length_drop]; omega
  | succ d ih =>
    intro i m hi hm hmin
    by_cases h1 : rd l (i : Int) < rd l (m : Int)
    · obtain ⟨m', x1, x2, x3⟩ := ih (i + 1) i (by omega) (by omega) (fun j hj => by
        rcases (by omega : j = i ∨ j < i) with rfl | hj
        · exact Int.le_refl _
        · have := hmin j hj; omega)
      refine ⟨m', x1, x2, ?_⟩
      exact Ev.step (fun k => by rw [wigeonref05_take.l0, w64s (show i < 1000000000000000000 by omega)]) (Ev.ifp (by omega) (Ev.ifp (by omega) (Ev.ifp (by omega) (Ev.ifp (by omega) (Ev.ifp h1 x3)))))
    · obtain ⟨m', x1, x2, x3⟩ := ih (i + 1) m (by omega) (by omega) (fun j hj => by
        rcases (by omega : j = i ∨ j < i) with rfl | hj
        · omega
        · exact hmin j hj)
      refine ⟨m', x1, x2, ?_⟩
      exact Ev.step (fun k => by rw [wigeonref05_take.l0, w64s (show i < 1000000000000000000 by omega)]) (Ev.ifp (by omega) (Ev.ifp (by omega) (Ev.ifp (by omega) (Ev.ifp (by omega) (Ev.ifn h1 x3)))))
theorem take_perm {l : List Nat} {m : Nat} (h : m < l.length) : l.Perm (l.getD m 0 :: (l.take m ++ l.drop (m + 1))) := by
  have e : l = l.take m ++ l[m] :: l.drop (m + 1) := by rw [List.getElem_cons_drop, List.take_append_drop]
  have e2 : l.getD m 0 = l[m] := by rw [List.getD_eq_getElem?_getD, List.getElem?_eq_getElem h]; rfl
  rw [e2]
  conv => lhs; rw [e]
  exact List.perm_middle
theorem take_ev (l : List Nat) (h0 : 0 < l.length) (hl : l.length ≤ 100) : ∃ (a : Nat) (r : List Nat), l.Perm (a :: r) ∧ (∀ x ∈ r, a ≤ x) ∧ Ev (fun k => wigeonref05_take.f k (natL l)) ((a : Int), natL r) := by
  obtain ⟨m, h1, h2, h3⟩ := take_at (natL l) (by rw [natL_len]; exact hl) (l.length - 1) 1 0 (by rw [natL_len]; omega) (by omega) (fun j hj => by
    obtain rfl : j = 0 := by omega
    exact Int.le_refl _)
  rw [natL_len] at h1 h2
  have hp := take_perm h1
  refine ⟨l.getD m 0, l.take m ++ l.drop (m + 1), hp, fun x hx => ?_, ?_⟩
  · obtain ⟨j, hj, rfl⟩ := List.getElem_of_mem (hp.mem_iff.2 (List.mem_cons_of_mem _ hx))
    have := h2 j hj
    rw [rd_natL, rd_natL] at this
    have e : l.getD j 0 = l[j] := by rw [List.getD_eq_getElem?_getD, List.getElem?_eq_getElem hj]; rfl
    omega
  · have e : (natL l).take m ++ (natL l).drop (m + 1) = natL (l.take m ++ l.drop (m + 1)) := by unfold natL; rw [List.map_append, List.map_take, List.map_drop]
    rw [rd_natL, e] at h3
    exact h3
theorem least_step (l r2 : List Nat) (a b s : Nat) (acc : Int) (hl : 1 < l.length) (hl2 : r2.length < 100) {r : List Nat} (t1 : Ev (fun k => wigeonref05_take.f k (natL l)) ((a : Int), natL r)) (t2 : Ev (fun k => wigeonref05_take.f k (natL r)) ((b : Int), natL r2))
    (ha : a ≤ 100000) (hb : b ≤ 100000) (h0 : 0 ≤ acc) (h1 : acc ≤ 1000000) (g : Ev (fun k => wigeonref05_Least.l0 k (natL (r2 ++ [a + b])) (acc + ((a : Int) + (b : Int)))) (acc + ((a : Int) + (b : Int)) + (s : Int), 0)) :
    Ev (fun k => wigeonref05_Least.l0 k (natL l) acc) (acc + ((s + (a + b) : Nat) : Int), 0) := by
  have e1 : wrap64 ((a : Int) + (b : Int)) = (a : Int) + (b : Int) := w64 (by omega) (by omega)
  have e2 : wrap64 (acc + ((a : Int) + (b : Int))) = acc + ((a : Int) + (b : Int)) := by clear e1; exact w64 (by omega) (by omega)
  have e3 : natL r2 ++ [(a : Int) + (b : Int)] = natL (r2 ++ [a + b]) := by unfold natL; rw [List.map_append]; simp
  have e4 : acc + ((s + (a + b) : Nat) : Int) = acc + ((a : Int) + (b : Int)) + (s : Int) := by clear e1 e2 e3; omega
  have c1 : (((natL l).length : Nat) : Int) > 1 := by rw [natL_len]; clear e1 e2 e3 e4; omega
  have c2 : (natL r2).length < 17592186044416 := by rw [natL_len]; clear e1 e2 e3 e4; omega
  refine Ev.step (fun k => by rw [wigeonref05_Least.l0]) (Ev.ifp c1 (Ev.bind t1 (Ev.bind t2 (Ev.ifp c2 ?_))))
  show Ev (fun k => wigeonref05_Least.l0 k (natL r2 ++ [wrap64 ((a : Int) + (b : Int))]) (wrap64 (acc + wrap64 ((a : Int) + (b : Int))))) _
  rw [e1, e2, e3, e4]
  exact g
theorem least_go (n : Nat) : ∀ (l : List Nat) (acc : Int), l.length = n + 1 → n ≤ 12 → l.sum ≤ 12000 → 0 ≤ acc → acc + 12000 * (n : Int) ≤ 1000000 → ∃ s, Huf.Huff l s ∧ Ev (fun k => wigeonref05_Least.l0 k (natL l) acc) (acc + (s : Int), 0) := by
  induction n with
  | zero =>
    intro l acc hl _ _ _ _
    match l, hl with
    | [a], _ => exact ⟨0, .one a, Ev.step (fun k => by rw [wigeonref05_Least.l0]) (Ev.ifn (by rw [natL_len]; simp) (Ev.val (by simp)))⟩
  | succ n ih =>
    intro l acc hl hn hs h0 h1
    obtain ⟨a, r, p1, m1, t1⟩ := take_ev l (by omega) (by omega)
    have hr : r.length = n + 1 := by have := p1.length_eq; simp at this; omega
    obtain ⟨b, r2, p2, m2, t2⟩ := take_ev r (by omega) (by omega)
    have hr2 : r2.length = n := by have := p2.length_eq; simp at this; omega
    have hpp : l.Perm (a :: b :: r2) := p1.trans (p2.cons a)
    have hsum : a + (b + r2.sum) = l.sum := by have := hpp.sum_nat; simp at this; omega
    have hlen : (r2 ++ [a + b]).length = n + 1 := by simp [hr2]
    have hs2 : (r2 ++ [a + b]).sum ≤ 12000 := by rw [List.sum_append]; simp; omega
    obtain ⟨s, g1, g2⟩ := ih (r2 ++ [a + b]) (acc + ((a : Int) + (b : Int))) hlen (by omega) hs2 (by omega) (by omega)
    exact ⟨s + (a + b), .step hpp (fun x hx => m1 x (p2.mem_iff.2 hx)) m2 (g1.perm (List.perm_append_comm (l₁ := r2) (l₂ := [a + b]))), least_step l r2 a b s acc (by omega) (by omega) t1 t2 (by omega) (by omega) h0 (by omega) g2⟩
theorem natL_toNat {ws : List Int} (h : Wts ws) : natL (ws.map Int.toNat) = ws := by
  unfold natL
  rw [List.map_map]
  apply List.ext_getElem
  · simp
  · intro i h1 h2
    have := (h.at_ (i : Int) (by omega) (by omega)).1
    unfold rd at this
    rw [Int.toNat_natCast, List.getD_eq_getElem?_getD, List.getElem?_eq_getElem h2] at this
    simp only [List.getElem_map, Function.comp]
    simp only [Option.getD_some] at this
    omega
theorem sum_wts {ws : List Int} (h : Wts ws) : (ws.map Int.toNat).sum ≤ 12000 := by
  have h1 : ∀ x ∈ ws.map Int.toNat, x ≤ 1000 := fun x hx => by
    obtain ⟨y, hy, rfl⟩ := List.mem_map.1 hx
    obtain ⟨i, hi, rfl⟩ := List.getElem_of_mem hy
    have := (h.at_ (i : Int) (by omega) (by omega)).2
    unfold rd at this
    rw [Int.toNat_natCast, List.getD_eq_getElem?_getD, List.getElem?_eq_getElem hi] at this
    simp only [Option.getD_some] at this
    omega
  have h2 : ∀ l : List Nat, (∀ x ∈ l, x ≤ 1000) → l.sum ≤ 1000 * l.length := by
    intro l
    induction l with
    | nil => intro _; simp
    | cons x l ih =>
      intro hx
      have a1 := hx x (List.mem_cons_self ..)
      have a2 := ih fun y hy => hx y (List.mem_cons_of_mem _ hy)
      simp only [List.sum_cons, List.length_cons]; omega
  have h3 := h2 _ h1
  rw [List.length_map] at h3
  have := h.le
  omega
/-- The smallest cost, by both: n lengths, at least two. -/
theorem least_ev {ws : List Int} (h : Wts ws) (hw : wOk ws = true) (h2 : 2 ≤ ws.length) : ∃ s, Huf.Huff (ws.map Int.toNat) s ∧ Ev (fun k => wigeonref05_Least.f k ws) ((s : Int), 0) := by
  have h12 := h.le
  obtain ⟨s, g1, g2⟩ := least_go (ws.length - 1) (ws.map Int.toNat) 0 (by rw [List.length_map]; omega) (by omega) (sum_wts h) (Int.le_refl _) (by omega)
  refine ⟨s, g1, ?_⟩
  rw [natL_toNat h, Int.zero_add] at g2
  unfold wigeonref05_Least.f
  have hk := rweight_ev ws
  rw [hw] at hk
  refine Ev.bind hk (Ev.ifp rfl (Ev.ifn (by omega) (Ev.some_bind (Ev.ifp ?_ ?_))))
  · show 0 + ws.length < _; omega
  · rw [List.nil_append]; exact g2
theorem least_one {ws : List Int} (hw : wOk ws = true) (h1 : ws.length = 1) : Ev (fun k => wigeonref05_Least.f k ws) (rd ws 0, 0) := by
  unfold wigeonref05_Least.f
  have hk := rweight_ev ws
  rw [hw] at hk
  exact Ev.bind hk (Ev.ifp rfl (Ev.ifp (by omega) (Ev.ifp (by omega) (Ev.now _))))
theorem least_bad {ws : List Int} (hw : wOk ws = false) : Ev (fun k => wigeonref05_Least.f k ws) (0, 1) := by
  unfold wigeonref05_Least.f
  have hk := rweight_ev ws
  rw [hw] at hk
  exact Ev.bind hk (Ev.ifn (by decide) (Ev.now _))
/-- What Cheapest's cost is. -/
def cheapC (ws : List Int) : Int := dotF ws (natL (cheapL ws)) 0 ws.length
theorem cheapL_ok {ws : List Int} (h : Wts ws) : (cheapL ws).length = ws.length ∧ (∀ x ∈ cheapL ws, 1 ≤ x ∧ x ≤ 12) ∧ fillN (natL (cheapL ws)) ≤ 4096 := by
  by_cases h1 : ws.length = 1
  · rw [cheap_one h1]
    exact ⟨h1.symm, fun x hx => by obtain rfl := List.mem_singleton.1 hx; omega, by decide⟩
  · obtain ⟨s, -, g2, -, g4, g5⟩ := cheap_has h.at_ (by have := h.pos; omega) h.le
    exact ⟨g2, g5, Nat.le_of_eq g4⟩
theorem cheap_small {ws : List Int} (h : Wts ws) (i : Int) (h0 : 0 ≤ i) (h1 : i < (ws.length : Int)) : 0 ≤ rd (natL (cheapL ws)) i ∧ rd (natL (cheapL ws)) i ≤ 1000 := by
  obtain ⟨a1, a2, -⟩ := cheapL_ok h
  obtain ⟨n, rfl⟩ : ∃ n : Nat, i = (n : Int) := ⟨i.toNat, by omega⟩
  rw [rd_natL]
  have hn : n < (cheapL ws).length := by omega
  have := a2 _ (List.getElem_mem hn)
  have e : (cheapL ws).getD n 0 = (cheapL ws)[n] := by rw [List.getD_eq_getElem?_getD, List.getElem?_eq_getElem hn]; rfl
  omega
theorem cheap_ev {ws : List Int} (hw : wOk ws = true) : Ev (fun k => whistle_Cheapest.f k ws) (natL (cheapL ws), cheapC ws, 0) := by
  have h := wOk_iff hw
  unfold whistle_Cheapest.f
  refine Ev.ifp hw ?_
  have hc := cost_ev h (L := natL (cheapL ws)) (by rw [natL_len]; exact (cheapL_ok h).1) (cheap_small h)
  obtain ⟨K, hK⟩ := hc
  exact ⟨K, fun k hk => by
    have this : whistle_cost.f k ws (natL (cheapL ws)) = some (dotF ws (natL (cheapL ws)) 0 ws.length) := hK k hk
    show (whistle_cost.f k ws (natL (cheapL ws))).map _ = _
    rw [this]; rfl⟩
theorem cheap_none {ws : List Int} (hw : wOk ws = false) : Ev (fun k => whistle_Cheapest.f k ws) ([], 0, 1) := by
  unfold whistle_Cheapest.f
  exact Ev.ifn (by rw [show oneTo 0 1000 ws = wOk ws from rfl, hw]; decide) (Ev.now _)
theorem range0 (n : Nat) : List.range n = List.range' 0 n := List.range_eq_range'
/-- It is the sum of the joined weights. -/
theorem cheap_cost {ws : List Int} (h : Wts ws) (h2 : 2 ≤ ws.length) : ∃ s, Huf.Huff (ws.map Int.toNat) s ∧ cheapC ws = (s : Int) := by
  obtain ⟨s, g1, -, g3, -, -⟩ := cheap_has h.at_ h2 h.le
  refine ⟨s, g1, ?_⟩
  unfold cheapC
  rw [dot_cost h _ _ 0 (by omega), ← range0, g3]
theorem cheap_cost1 {ws : List Int} (h1 : ws.length = 1) : cheapC ws = rd ws 0 := by
  unfold cheapC
  rw [cheap_one h1, h1]
  unfold dotF dotF
  rw [rd_natL]
  show rd ws 0 * 1 + 0 = _
  omega
/-- The costs of a code. -/
def costV (ws : List Int) (C : List ByteArray) : Int × Int := if valP C ≠ 0 then (0, valP C) else if wOk ws = true ∧ ws.length = C.length then (dotF ws (lensC C) 0 ws.length, 0) else (0, 1)
theorem rd_lens (C : List ByteArray) (i : Nat) (h : i < C.length) : rd (lensC C) (i : Int) = ((gt C i).size : Int) := by
  unfold rd lensC gt
  rw [Int.toNat_natCast, List.getD_eq_getElem?_getD, List.getElem?_map, List.getD_eq_getElem?_getD, List.getElem?_eq_getElem h]; rfl
theorem lens_small {C : List ByteArray} (v : Valid C) (i : Int) (h0 : 0 ≤ i) (h1 : i < (C.length : Int)) : 0 ≤ rd (lensC C) i ∧ rd (lensC C) i ≤ 1000 := by
  obtain ⟨n, rfl⟩ : ∃ n : Nat, i = (n : Int) := ⟨i.toNat, by omega⟩
  rw [rd_lens C n (by omega)]
  have := v.size12 (gt C n) (getD_mem (by omega))
  omega
theorem costV_pay {ws : List Int} {C : List ByteArray} (hv : valP C = 0) : costV ws C = if wOk ws = true ∧ ws.length = C.length then (dotF ws (lensC C) 0 ws.length, 0) else (0, 1) := by
  unfold costV; rw [if_neg (by omega)]
theorem rcost_at {ws : List Int} {C : List ByteArray} (h : Wts ws) (v : Valid C) (hl : ws.length = C.length) (d : Nat) :
    ∀ (i : Nat) (acc : Int), i + d = C.length → 0 ≤ acc → acc ≤ 1000000 * i → Ev (fun k => wigeonref05_Cost.l0 k ws C acc (i : Int)) (acc + dotF ws (lensC C) i d, 0) := by
  have h12 := h.le
  induction d with
  | zero =>
    intro i acc hi h0 h1
    exact Ev.step (fun k => by rw [wigeonref05_Cost.l0]) (Ev.ifn (by omega) (Ev.val (by unfold dotF; rw [Int.add_zero])))
  | succ d ih =>
    intro i acc hi h0 h1
    obtain ⟨a1, a2⟩ := h.at_ (i : Int) (by omega) (by omega)
    obtain ⟨b1, b2⟩ := lens_small v (i : Int) (by omega) (by omega)
    have e0 := rd_lens C i (by omega)
    obtain ⟨p1, p2⟩ := prod_small a1 a2 b1 b2
    rw [e0] at p1 p2
    have q := ih (i + 1) (acc + rd ws (i : Int) * ((gt C i).size : Int)) (by omega) (by omega) (by omega)
    have e1 : wrap64 (rd ws (i : Int) * ((gt C i).size : Int)) = rd ws (i : Int) * ((gt C i).size : Int) := w64 (by omega) (by omega)
    have e2 : wrap64 (acc + rd ws (i : Int) * ((gt C i).size : Int)) = acc + rd ws (i : Int) * ((gt C i).size : Int) := by clear e1 q ih; exact w64 (by omega) (by omega)
    have e3 : acc + dotF ws (lensC C) i (d + 1) = (acc + rd ws (i : Int) * ((gt C i).size : Int)) + dotF ws (lensC C) (i + 1) d := by
      conv => lhs; unfold dotF
      rw [e0]; omega
    rw [e3]
    refine Ev.step (fun k => by rw [wigeonref05_Cost.l0, rdOf_gt, e1, e2, w64s (show i < 1000000000000000000 by omega)]) (Ev.ifp (by omega) (Ev.ifp (by omega) (Ev.ifp (by omega) ?_)))
    exact q
theorem rcost_ev (ws : List Int) {C : List ByteArray} (hS : Sized C) : Ev (fun k => wigeonref05_Cost.f k ws C) (costV ws C) := by
  unfold wigeonref05_Cost.f
  refine Ev.bind (rval_ev C hS) ?_
  by_cases hv : valP C = 0
  · rw [hv, costV_pay hv]
    have v := valP_zero.1 hv
    have hk := rweight_ev ws
    refine Ev.ifp rfl (Ev.bind hk ?_)
    by_cases hw : wOk ws = true
    · rw [hw]
      have h := wOk_iff hw
      refine Ev.ifp rfl (Ev.step (fun k => by rw [wigeonref05_Cost.j0]) ?_)
      by_cases hl : ws.length = C.length
      · rw [if_pos ⟨rfl, hl⟩]
        refine Ev.ifn (by simp; omega) ?_
        have := rcost_at h v hl C.length 0 0 (by omega) (Int.le_refl _) (by omega)
        rw [Int.zero_add, ← hl] at this
        exact this
      · rw [if_neg (fun h => hl h.2)]
        exact Ev.ifp (by simp; omega) (Ev.now _)
    · rw [if_neg (fun h => hw h.1), Bool.eq_false_iff.2 hw]
      exact Ev.ifn (by decide) (Ev.step (fun k => by rw [wigeonref05_Cost.j0]) (Ev.ifp rfl (Ev.now _)))
  · unfold costV
    rw [if_pos hv]
    exact Ev.ifn hv (Ev.now _)

end Go.Proofs.Ytpkafcoflgbnaaa.Pure
