-- Written by a program of this session (wip/tools/gprint.py, over the kit's print); Lean checks it.
import Derived.Test.YtlbhighbhchdmaaQx0
import Derived.Test.YtlbhighbhchdmaaQx2
namespace Go.Proofs.Ytlbhighbhchdmaa.Q
open Go.RowKit Go.Proofs.YtlbhighbhchdmaaW.PrintWords Go.Proofs.YtlbhighbhchdmaaW.PrintLast Go.Proofs.YtlbhighbhchdmaaW.PrintMore
attribute [local go_sem] max2_int min2_int max_two min_two max_three min_three max_four min_four   -- for this text's walks alone
set_option linter.unusedVariables false
set_option linter.unusedSimpArgs false

/-! ### wigeonlaw01_long: function 27 -/
def wigeonlaw01_long.f (a0 : ByteArray) : Option (Bool) := some (decide ((a0.size : Int) > 200))
set_option maxHeartbeats 8000000 in
set_option maxRecDepth 100000 in
theorem wigeonlaw01_long.calls (a0 : ByteArray) (r : Bool) (w : World) (h : wigeonlaw01_long.f a0 = some r) :
    Calls Try.prog 27 #[.string a0] w fun e w' => e = .returned (.bool r) ∧ Drawn0 w w' := by
  have H : (some (decide ((a0.size : Int) > 200))) = some r := h
  clear h
  obtain rfl := Option.some.inj H
  go_enter Try.func27, Try.ntmps27
  go_wp2
  go_ret
  exact ⟨by first | rfl | (simp; done) | (simp [*]; done), by repeat (first | exact Drawn0.refl _ | apply Drawn0.step)⟩

/-! ### ring_form: function 71 -/
-- GIVEN wigeon/ring.form rounds=0 making=1
-- IMPORT Derived.Laws.RangeAny Derived.Laws.Runes Derived.Lib.Hide Derived.Lib.OthersKept
def okb (worn : Bool) (letters i : Nat) (c : Int) : Bool := (if i ≥ letters then decide (48 ≤ c ∧ c ≤ 57) else decide (65 ≤ c ∧ c ≤ 90)) || (worn && c == 63)
def formP (s : ByteArray) (worn : Bool) : Int × Bool := if s.size < 7 ∨ s.size > 8 then (0, false) else if (List.range s.size).all (fun i => okb worn (s.size - 6) i (bt s i)) then ((s.size : Int) - 6, true) else (0, false)
theorem formP_good {s : ByteArray} {worn : Bool} (h0 : 7 ≤ s.size) (h1 : s.size ≤ 8) (h : ∀ i, i < s.size → okb worn (s.size - 6) i (bt s i) = true) : formP s worn = ((s.size : Int) - 6, true) := by
  unfold formP
  rw [if_neg (by omega), if_pos]
  rw [List.all_eq_true]
  intro i hi
  exact h i (List.mem_range.1 hi)
theorem formP_bad {s : ByteArray} {worn : Bool} (i : Nat) (hi : i < s.size) (h : okb worn (s.size - 6) i (bt s i) = false) : formP s worn = (0, false) := by
  unfold formP
  split
  · rfl
  · rw [if_neg]
    intro ha
    rw [List.all_eq_true] at ha
    have := ha i (List.mem_range.2 hi)
    rw [h] at this
    exact absurd this (by decide)
def FormPost (w : World) (n : Int) (b : Bool) (e : Ending) (w' : World) : Prop := e = .returned (.tuple #[.int .i64 n, .bool b]) ∧ Below w.heap.size w w'
theorem below_iter (w : World) (s : ByteArray) (p : Nat) : Below w.heap.size w (w.iter s p) := (Below.refl _ _).alloc (Nat.le_refl _) _
theorem bt_of {s : ByteArray} {p : Nat} (h : p < s.size) : bt s p = (((s[p]'h).toNat : Nat) : Int) := by
  have := bt_at s p (by rw [Int.toNat_natCast]; exact h)
  rw [← this]; rfl
theorem form_post_good {s : ByteArray} {worn : Bool} (h0 : 7 ≤ s.size) (h1 : s.size ≤ 8) (w : World) (p : Nat) (h : ∀ i, i < s.size → okb worn (s.size - 6) i (bt s i) = true) : FormPost w (formP s worn).1 (formP s worn).2 (.returned (.tuple #[.int .i64 ((s.size : Int) - 6), .bool true])) (w.iter s p) := by
  rw [formP_good h0 h1 h]
  exact ⟨rfl, below_iter w s p⟩
theorem form_post_bad {s : ByteArray} {worn : Bool} (w : World) (p i : Nat) (hi : i < s.size) (h : okb worn (s.size - 6) i (bt s i) = false) : FormPost w (formP s worn).1 (formP s worn).2 (.returned (.tuple #[.int .i64 0, .bool false])) (w.iter s p) := by
  rw [formP_bad i hi h]
  exact ⟨rfl, below_iter w s p⟩
def Good (s : ByteArray) (worn : Bool) (p : Nat) : Prop := ∀ i, i < p → okb worn (s.size - 6) i (bt s i) = true
theorem Good.step {s : ByteArray} {worn : Bool} {p : Nat} (h : Good s worn p) (h1 : okb worn (s.size - 6) p (bt s p) = true) : Good s worn (p + 1) := by
  intro i hi
  by_cases e : i = p
  · rw [e]; exact h1
  · exact h i (by omega)
def ring_form.f (a0 a1 : ByteArray) : Option (Int × Bool) := if a0.size ≤ 9223372036854775807 then if a1 = ⟨#[]⟩ then some (formP a0 false) else if a1 = ⟨#[63]⟩ then some (formP a0 true) else none else none
theorem enc_low : ∀ c : Nat, c < 128 → ((Utf8.encode (c : Int)).toList == [63]) = decide (c = 63) := by
  intro c hc
  have hv : Utf8.valid (c : Int) = true := by rw [validRune_eq]; unfold validRune; simp; omega
  have e : Utf8.encode (c : Int) = ⟨#[UInt8.ofNat c]⟩ := by
    unfold Utf8.encode
    simp only [hv, if_true, Int.toNat_natCast, if_pos hc]
  rw [e, ByteArray.toList_eq]
  exact (by decide +kernel : ∀ c : Fin 128, (([UInt8.ofNat c.val] : List UInt8) == [63]) = decide (c.val = 63)) ⟨c, hc⟩
theorem enc_high (c : Int) (hc : 128 ≤ c) : ((Utf8.encode c).toList == [63]) = false := by
  rw [ByteArray.toList_eq]
  have h2 : 2 ≤ (Utf8.encode c).size := by
    by_cases hv : Utf8.valid c = true
    · exact (encode_facts c hv hc).1
    · unfold Utf8.encode
      simp only [hv, Bool.false_eq_true, if_false]
      decide
  cases hq : ((Utf8.encode c).data.toList == [63]) with
  | false => rfl
  | true =>
    rw [beq_iff_eq] at hq
    have : (Utf8.encode c).data.toList.length = 1 := by rw [hq]; rfl
    have h3 : (Utf8.encode c).data.toList.length = (Utf8.encode c).size := rfl
    omega
set_option maxHeartbeats 8000000 in
set_option maxRecDepth 100000 in
theorem ring_form.short (a0 : ByteArray) (a1 : ByteArray) (w : World) (h : a0.size < 7) :
    Calls Try.prog 71 #[.string a0, .string a1] w (FormPost w 0 false) := by
  have hl : decide (((a0.size : Int) - 6) < 1) = true := by simp; omega
  go_enter Try.func71, Try.ntmps71
  go_wp2
  go_ret2
  exact ⟨rfl, Below.refl _ _⟩
set_option maxHeartbeats 8000000 in
set_option maxRecDepth 100000 in
theorem ring_form.long (a0 : ByteArray) (a1 : ByteArray) (w : World) (h : 8 < a0.size) (hs : a0.size ≤ 9223372036854775807) :
    Calls Try.prog 71 #[.string a0, .string a1] w (FormPost w 0 false) := by
  have hl : decide (((a0.size : Int) - 6) < 1) = false := by simp; omega
  have hm : decide (2 < ((a0.size : Int) - 6)) = true := by simp; omega
  go_enter Try.func71, Try.ntmps71
  go_wp2
  go_ret2
  exact ⟨rfl, Below.refl _ _⟩
set_option maxHeartbeats 8000000 in
set_option maxRecDepth 100000 in
theorem ring_form.mid (a0 : ByteArray) (w : World) (h0 : 7 ≤ a0.size) (h1 : a0.size ≤ 8) :
    Calls Try.prog 71 #[.string a0, .string ⟨#[]⟩] w (FormPost w (formP a0 false).1 (formP a0 false).2) := by
  have hl : decide (((a0.size : Int) - 6) < 1) = false := by simp; omega
  have hm : decide (2 < ((a0.size : Int) - 6)) = false := by simp; omega
  have hG := @form_post_good a0 false h0 h1 w
  have hB := @form_post_bad a0 false w
  generalize (formP a0 false).1 = rn at *
  generalize (formP a0 false).2 = rb at *
  have HG := Lib.hid hG
  have HB := Lib.hid hB
  clear hG hB
  go_enter Try.func71, Try.ntmps71
  go_wp2
  go_loopw [7] (fun _ w' => ∃ pos : Nat, w' = w.iter a0 pos ∧ pos ≤ a0.size ∧ Good a0 false pos) (fun _ w' => a0.size - w'.iterPos w.heap.size)
  case atStart => exact ⟨0, rfl, Nat.zero_le _, fun i hi => by omega⟩
  case round =>
    obtain ⟨pos, rfl, hp1, hp2⟩ := hrel
    by_cases hp : pos < a0.size
    · have hbt := bt_of hp
      by_cases ha : (a0[pos]'hp).toNat < 128
      · have hnx : ∀ ty, (Instr.next (.pointer (some ⟨w.heap.size, 0, none⟩)) true ty).run Try.prog (w.iter a0 pos) = _ := fun ty => run_next_ascii w a0 pos ty hp ha
        generalize (a0[pos]'hp).toNat = c at *
        have Hbt := Lib.hid hbt
        clear hbt
        by_cases hok : okb false (a0.size - 6) pos (c : Int) = true
        · have hst := hp2.step (by rw [Hbt.out]; exact hok)
          have Hst := Lib.hid hst
          have Hok := Lib.hid hok
          clear hst hp2 hok
          go_wp2
          all_goals first | exact ⟨⟨pos + 1, rfl, hp, Hst.out⟩, by simp; omega⟩ | (exfalso; have h9 := Hok.out; unfold okb at h9; (try simp only [Bool.not_eq_true', decide_eq_false_iff_not] at *); split at h9 <;> simp at h9 <;> omega)
        · have Hst := Lib.hid (HB.out (pos + 1) pos hp (by rw [Hbt.out]; simpa using hok))
          have Hok := Lib.hid hok
          clear hp2 hok
          go_wp2
          all_goals first | (go_ret2; exact Hst.out) | (exfalso; have h9 := Hok.out; unfold okb at h9; (try simp only [Bool.not_eq_false', decide_eq_true_eq] at *); split at h9 <;> simp at h9 <;> omega)
      · have hnx : ∀ ty, (Instr.next (.pointer (some ⟨w.heap.size, 0, none⟩)) true ty).run Try.prog (w.iter a0 pos) = _ := fun ty => run_next_any w a0 pos ty hp
        have hd := (decode_high a0 pos hp (by omega)).1
        have hd2 := decode_le a0 pos
        have hok : okb false (a0.size - 6) pos (bt a0 pos) = false := by rw [hbt]; unfold okb; split <;> simp <;> omega
        have Hst := Lib.hid (HB.out (pos + (Utf8.decode a0 pos).2) pos hp hok)
        clear hp2 hok hbt
        generalize Utf8.decode a0 pos = c at *
        go_wp2
        all_goals first | (go_ret2; exact Hst.out) | (exfalso; (try simp only [Bool.not_eq_true', decide_eq_false_iff_not, Bool.not_eq_false', decide_eq_true_eq] at *); omega)
    · have hnx : ∀ ty, (Instr.next (.pointer (some ⟨w.heap.size, 0, none⟩)) true ty).run Try.prog (w.iter a0 pos) = _ := fun ty => run_next_end w a0 pos ty hp
      have Hst := Lib.hid (HG.out pos (fun i hi => hp2 i (by omega)))
      clear hp2
      go_wp2
      go_ret2
      exact Hst.out
set_option maxHeartbeats 8000000 in
set_option maxRecDepth 100000 in
theorem ring_form.midq (a0 : ByteArray) (w : World) (h0 : 7 ≤ a0.size) (h1 : a0.size ≤ 8) :
    Calls Try.prog 71 #[.string a0, .string ⟨#[63]⟩] w (FormPost w (formP a0 true).1 (formP a0 true).2) := by
  have hl : decide (((a0.size : Int) - 6) < 1) = false := by simp; omega
  have hm : decide (2 < ((a0.size : Int) - 6)) = false := by simp; omega
  have hG := @form_post_good a0 true h0 h1 w
  have hB := @form_post_bad a0 true w
  generalize (formP a0 true).1 = rn at *
  generalize (formP a0 true).2 = rb at *
  have HG := Lib.hid hG
  have HB := Lib.hid hB
  clear hG hB
  go_enter Try.func71, Try.ntmps71
  go_wp2
  go_loopw [7] (fun _ w' => ∃ pos : Nat, w' = w.iter a0 pos ∧ pos ≤ a0.size ∧ Good a0 true pos) (fun _ w' => a0.size - w'.iterPos w.heap.size)
  case atStart => exact ⟨0, rfl, Nat.zero_le _, fun i hi => by omega⟩
  case round =>
    obtain ⟨pos, rfl, hp1, hp2⟩ := hrel
    by_cases hp : pos < a0.size
    · have hbt := bt_of hp
      by_cases ha : (a0[pos]'hp).toNat < 128
      · have hnx : ∀ ty, (Instr.next (.pointer (some ⟨w.heap.size, 0, none⟩)) true ty).run Try.prog (w.iter a0 pos) = _ := fun ty => run_next_ascii w a0 pos ty hp ha
        have henc := enc_low _ ha
        generalize (a0[pos]'hp).toNat = c at *
        have Hbt := Lib.hid hbt
        clear hbt
        by_cases hok : okb true (a0.size - 6) pos (c : Int) = true
        · have hst := hp2.step (by rw [Hbt.out]; exact hok)
          have Hst := Lib.hid hst
          have Hok := Lib.hid hok
          clear hst hp2 hok
          go_wp2
          all_goals first | exact ⟨⟨pos + 1, rfl, hp, Hst.out⟩, by simp; omega⟩ | (exfalso; have h9 := Hok.out; unfold okb at h9; (try simp only [Bool.not_eq_true', decide_eq_false_iff_not, Bool.not_eq_false', decide_eq_true_eq] at *); split at h9 <;> simp at h9 <;> omega)
        · have Hst := Lib.hid (HB.out (pos + 1) pos hp (by rw [Hbt.out]; simpa using hok))
          have Hok := Lib.hid hok
          clear hp2 hok
          go_wp2
          all_goals first | (go_ret2; exact Hst.out) | (exfalso; have h9 := Hok.out; unfold okb at h9; (try simp only [Bool.not_eq_true', decide_eq_false_iff_not, Bool.not_eq_false', decide_eq_true_eq] at *); split at h9 <;> simp at h9 <;> omega)
      · have hnx : ∀ ty, (Instr.next (.pointer (some ⟨w.heap.size, 0, none⟩)) true ty).run Try.prog (w.iter a0 pos) = _ := fun ty => run_next_any w a0 pos ty hp
        have hd := (decode_high a0 pos hp (by omega)).1
        have hd2 := decode_le a0 pos
        have hok : okb true (a0.size - 6) pos (bt a0 pos) = false := by rw [hbt]; unfold okb; split <;> simp <;> omega
        have Hst := Lib.hid (HB.out (pos + (Utf8.decode a0 pos).2) pos hp hok)
        have henc := enc_high ((Utf8.decode a0 pos).1 : Int) (by omega)
        clear hp2 hok hbt
        generalize Utf8.decode a0 pos = c at *
        go_wp2
        all_goals first | (go_ret2; exact Hst.out) | (exfalso; (try simp only [Bool.not_eq_true', decide_eq_false_iff_not, Bool.not_eq_false', decide_eq_true_eq] at *); omega)
    · have hnx : ∀ ty, (Instr.next (.pointer (some ⟨w.heap.size, 0, none⟩)) true ty).run Try.prog (w.iter a0 pos) = _ := fun ty => run_next_end w a0 pos ty hp
      have Hst := Lib.hid (HG.out pos (fun i hi => hp2 i (by omega)))
      clear hp2
      go_wp2
      go_ret2
      exact Hst.out
theorem ring_form.calls (a0 : ByteArray) (a1 : ByteArray) (r1 : Int) (r2 : Bool) (w : World) (h : ring_form.f a0 a1 = some (r1, r2)) :
    Calls Try.prog 71 #[.string a0, .string a1] w fun e w' => e = .returned (.tuple #[.int .i64 r1, .bool r2]) ∧ Below w.heap.size w w' := by
  unfold ring_form.f at h
  by_cases hs : a0.size ≤ 9223372036854775807
  · rw [if_pos hs] at h
    by_cases h7 : a0.size < 7
    · have e : ∀ b, formP a0 b = (0, false) := fun b => by unfold formP; rw [if_pos (.inl h7)]
      rw [e, e] at h
      have hr : r1 = 0 ∧ r2 = false := by
        split at h
        · simpa [eq_comm] using h
        · split at h
          · simpa [eq_comm] using h
          · exact absurd h (by simp)
      obtain ⟨rfl, rfl⟩ := hr
      exact ring_form.short a0 a1 w h7
    · by_cases h8 : 8 < a0.size
      · have e : ∀ b, formP a0 b = (0, false) := fun b => by unfold formP; rw [if_pos (.inr h8)]
        rw [e, e] at h
        have hr : r1 = 0 ∧ r2 = false := by
          split at h
          · simpa [eq_comm] using h
          · split at h
            · simpa [eq_comm] using h
            · exact absurd h (by simp)
        obtain ⟨rfl, rfl⟩ := hr
        exact ring_form.long a0 a1 w h8 hs
      · by_cases h1 : a1 = ⟨#[]⟩
        · subst h1
          rw [if_pos rfl] at h
          have h2 := Option.some.inj h
          have := ring_form.mid a0 w (by omega) (by omega)
          rw [h2] at this
          exact this
        · rw [if_neg h1] at h
          by_cases h3 : a1 = ⟨#[63]⟩
          · subst h3
            rw [if_pos rfl] at h
            have h2 := Option.some.inj h
            have := ring_form.midq a0 w (by omega) (by omega)
            rw [h2] at this
            exact this
          · rw [if_neg h3] at h
            exact absurd h (by simp)
  · rw [if_neg hs] at h
    exact absurd h (by simp)

/-! ### ring_digits: function 73 -/
-- GIVEN wigeon/ring.digits rounds=0 making=1
-- IMPORT Derived.Laws.RangeAny Derived.Laws.Runes Derived.Lib.Hide Derived.Lib.OthersKept
def asciiB (s : ByteArray) : Bool := (List.range s.size).all (fun i => decide (bt s i < 128))
def digsTo (t : ByteArray) (p : Nat) : List Int := (List.range p).map (fun i : Nat => bt t (i : Int) - 48)
theorem digsTo_succ (t : ByteArray) (p : Nat) : digsTo t (p + 1) = digsTo t p ++ [bt t p - 48] := by
  unfold digsTo
  rw [List.range_succ, List.map_append]
  rfl
theorem digsTo_length (t : ByteArray) (p : Nat) : (digsTo t p).length = p := by simp [digsTo]
def ring_digits.f (a0 : ByteArray) (a1 : Int) : Option (List Int) := if asciiB a0 = true ∧ 0 ≤ a1 ∧ a1 ≤ a0.size ∧ a0.size ≤ 1000 then some (digsTo (a0.extract a1.toNat a0.size) (a0.size - a1.toNat)) else none
set_option maxHeartbeats 8000000 in
set_option maxRecDepth 100000 in
theorem ring_digits.walk (a0 : ByteArray) (n : Nat) (w : World) (hn : n ≤ a0.size) (hs : a0.size ≤ 1000) (ha : ∀ i (h : i < (a0.extract n a0.size).size), ((a0.extract n a0.size)[i]'h).toNat < 128) :
    Calls Try.prog 73 #[.string a0, .int .i64 n] w fun e w' => ∃ v0_ : Value, e = .returned (v0_) ∧ Kd.R (Kd.int .i64) 3 w' w.heap.size (fun _ => True) v0_ (digsTo (a0.extract n a0.size) (a0.size - n)) ∧ Below w.heap.size w w' := by
  have Hsz := Lib.hid (show (a0.extract n a0.size).size = a0.size - n by simp)
  go_enter Try.func73, Try.ntmps73
  go_wp2
  have HA := Lib.hid ha
  clear ha
  have hts : (a0.extract n a0.size).size ≤ 1000 := by simp; omega
  generalize ht : a0.extract n a0.size = t at *
  have Ht := Lib.hid ht
  clear ht
  go_loopw [5] (fun v w' => ∃ pos : Nat, pos ≤ t.size ∧ w'.heap[w.heap.size]? = some (.stringIter t pos) ∧ Kd.R (Kd.int .i64) 3 w' w.heap.size (fun k => k ≠ w.heap.size) v (digsTo t pos) ∧ Below w.heap.size w w') (fun _ w' => t.size - w'.iterPos w.heap.size)
  case atStart => exact ⟨0, Nat.zero_le _, World.iter_heap _ _ _, Kd.R_nil _ _ _ _ _, (Below.refl _ _).alloc (Nat.le_refl _) _⟩
  case round =>
    obtain ⟨pos, hp1, hk, HO, HB⟩ := hrel
    have HK := Lib.hid hk
    have HOo := Lib.hid HO
    have HBo := Lib.hid HB
    clear HO HB
    by_cases hp : pos < t.size
    · have ha := HA.out pos hp
      have hbt := bt_at t pos (by rw [Int.toNat_natCast]; exact hp)
      have hnx : ∀ ty, (Instr.next (.pointer (some ⟨w.heap.size, 0, none⟩)) true ty).run Try.prog wr = _ := fun ty => Lib.run_next_ascii_at wr w.heap.size t pos ty hk hp ha
      have hbt2 : (((t[pos]'hp).toNat : Nat) : Int) = bt t pos := hbt
      generalize (t[pos]'hp).toNat = c at *
      have Hbt := Lib.hid hbt2
      clear hbt hbt2 hk
      have HO2 := Lib.hid (show Kd.R (Kd.int .i64) 3 (wr.iterAt w.heap.size t (pos + 1)) w.heap.size (fun k => k ≠ w.heap.size) u5 (digsTo t pos) from Kd.R_step HOo.out (fun k hk _ => Lib.iterAt_other wr w.heap.size k t (pos + 1) hk))
      have HB2 := Lib.hid (Lib.below_iterAt HBo.out (Nat.le_refl w.heap.size) t (pos + 1))
      have HK2 := Lib.hid (Lib.iterAt_heap wr w.heap.size t pos (pos + 1) HK.out)
      have Hnx := Lib.hid (digsTo_succ t pos)
      go_wp2_with (first | ((with_reducible refine gate_builtin (b := .append) (xs := #[.tmp 15, .tmp 19]) rfl ?_); at_builtin; refine Kd.R_append (Kd.int .i64) (w0 := w) w.heap.size rfl (.tmp 15) (.tmp 19) 28 3 (.int .i64 0) 8 rfl Try.underlying28 info3 rfl (by decide) (by omega) u5 (digsTo t pos) ((c : Int) - 48) [.int .i64 ((c : Int) - 48)] (fun k => k ≠ w.heap.size) (fun _ => False) rfl rfl ?aP (fun _ hk => hk.elim) ?aF ?aO ?aB ?aS ?aL ?_; (case aP => exact rfl); (case aB => exact HB2.out); (case aF => exact fun k hk => by have := HB2.out.size; have h3 : w.heap.size < (wr.iterAt w.heap.size t (pos + 1)).heap.size := (Array.getElem?_eq_some_iff.1 HK2.out).1; omega); (case aO => exact HO2.out); (case aS => exact below_size HB2.out); (case aL => rw [digsTo_length]; omega); intro v1 w6 ho hb hg hat; rw [Hbt.out, ← Hnx.out] at ho; have n0 := Lib.hid hb; have n1 := Lib.hid ho; have n2 := Lib.hid (show w6.heap[w.heap.size]? = some (.stringIter t (pos + 1)) from (hg.block _ (Array.getElem?_eq_some_iff.1 HK2.out).1 (Kd.R_away HO2.out (fun _ h => h))).trans HK2.out); clear ho hb hg hat))
      go_roundw
      case rel => exact ⟨pos + 1, hp, n2.out, n1.out, n0.out⟩
      case measure =>
        have e1 : wr.iterPos w.heap.size = pos := by simp [World.iterPos, HK.out]
        have e2 : w6.iterPos w.heap.size = pos + 1 := by simp [World.iterPos, n2.out]
        rw [e1, e2]
        omega
    · have hnx : ∀ ty, (Instr.next (.pointer (some ⟨w.heap.size, 0, none⟩)) true ty).run Try.prog wr = _ := fun ty => Lib.run_next_end_at wr w.heap.size t pos ty hk hp
      clear hk
      have hpe : pos = t.size := by omega
      have HR := Lib.hid (show Kd.R (Kd.int .i64) 3 wr w.heap.size (fun _ => True) u5 (digsTo (a0.extract n a0.size) (a0.size - n)) by rw [Ht.out, ← Hsz.out, ← hpe]; exact Kd.R_mono HOo.out (fun _ _ => trivial))
      clear hpe
      go_wp2
      go_ret
      exact ⟨u5, rfl, HR.out, HBo.out⟩
theorem asciiB_get {s : ByteArray} (h : asciiB s = true) (i : Nat) (hi : i < s.size) : (s[i]'hi).toNat < 128 := by
  unfold asciiB at h
  rw [List.all_eq_true] at h
  have h1 := of_decide_eq_true (h i (List.mem_range.2 hi))
  have h2 := bt_at s i (by rw [Int.toNat_natCast]; exact hi)
  have h3 : (((s[i]'hi).toNat : Nat) : Int) = bt s i := h2
  omega
theorem ring_digits.calls (a0 : ByteArray) (a1 : Int) (r : List Int) (w : World) (h : ring_digits.f a0 a1 = some r) :
    Calls Try.prog 73 #[.string a0, .int .i64 a1] w fun e w' => ∃ v0_ : Value, e = .returned (v0_) ∧ Kd.R (Kd.int .i64) 3 w' w.heap.size (fun _ => True) v0_ r ∧ Below w.heap.size w w' := by
  unfold ring_digits.f at h
  split at h
  · rename_i hc
    obtain ⟨h1, h2, h3, h4⟩ := hc
    obtain ⟨n, rfl⟩ := Int.eq_ofNat_of_zero_le h2
    obtain rfl := Option.some.inj h
    exact ring_digits.walk a0 n w (by omega) h4 (fun i hi => by
      have e : (a0.extract n a0.size)[i]'hi = a0[n + i]'(by simp at hi; omega) := by simp [ByteArray.getElem_extract]
      rw [e]
      exact asciiB_get h1 _ _)
  · exact absurd h (by simp)

/-! ### ring_Valid: function 36 -/
def ring_Valid.f (k : Nat) (a0 : ByteArray) : Option (Int) := (ring_form.f a0 (⟨#[]⟩ : ByteArray)).bind fun bt246 => (if bt246.2 = true then ((ring_digits.f a0 bt246.1).bind fun t248 => ((ring_sum.f k t248 0).bind fun t251 => (if t251 = 0 then (some 0) else (some 6)))) else (some 2))
theorem ring_Valid.mono : ∀ a0 k, LeO (ring_Valid.f k a0) (ring_Valid.f (k + 1) a0) := by
  intro a0 k
  unfold ring_Valid.f
  repeat' first
      | (with_reducible exact ring_sum.mono _ _ _)
      | (with_reducible exact LeO.refl _)
      | (with_reducible exact LeO.none _)
      | (with_reducible refine LeO.ite ?_ ?_)
      | (with_reducible refine LeO.bind ?_ (fun _ => ?_))
      | exact ring_sum.mono _ _ _
      | exact LeO.none _
      | refine LeO.ite ?_ ?_
      | refine LeO.bind ?_ (fun _ => ?_)
set_option maxHeartbeats 8000000 in
set_option maxRecDepth 100000 in
theorem ring_Valid.calls (k : Nat) (a0 : ByteArray) (r : Int) (w : World) (h : ring_Valid.f k a0 = some r) :
    Calls Try.prog 36 #[.string a0] w fun e w' => e = .returned (.int .i64 r) ∧ Below w.heap.size w w' := by
  have HB := Aside0.mk (Below.refl w.heap.size w)
  have H : ((ring_form.f a0 (⟨#[]⟩ : ByteArray)).bind fun bt246 => (if bt246.2 = true then ((ring_digits.f a0 bt246.1).bind fun t248 => ((ring_sum.f k t248 0).bind fun t251 => (if t251 = 0 then (some 0) else (some 6)))) else (some 2))) = some r := h
  clear h
  replace H := Option.bind_eq_some_iff.mp H
  obtain ⟨⟨t246, t247⟩, A20, H⟩ := H
  replace H : (if t247 = true then ((ring_digits.f a0 t246).bind fun t248 => ((ring_sum.f k t248 0).bind fun t251 => (if t251 = 0 then (some 0) else (some 6)))) else (some 2)) = some r := H
  have A2 := Aside0.mk A20
  clear A20
  by_cases c3 : t247 = true
  · subst c3
    have H1 : ((ring_digits.f a0 t246).bind fun t248 => ((ring_sum.f k t248 0).bind fun t251 => (if t251 = 0 then (some 0) else (some 6)))) = some r := by rw [if_pos rfl] at H; exact H
    clear H
    have H := H1
    clear H1
    replace H := Option.bind_eq_some_iff.mp H
    obtain ⟨t248, A40, H⟩ := H
    replace H : ((ring_sum.f k t248 0).bind fun t251 => (if t251 = 0 then (some 0) else (some 6))) = some r := H
    have A4 := Aside0.mk A40
    clear A40
    replace H := Option.bind_eq_some_iff.mp H
    obtain ⟨t251, A50, H⟩ := H
    replace H : (if t251 = 0 then (some 0) else (some 6)) = some r := H
    have A5 := Aside0.mk A50
    clear A50
    by_cases c6 : t251 = 0
    · rw [if_pos c6] at H
      have c6b0 : (t251 == 0) = true := beq_iff_eq.mpr c6
      have c6b1 : (t251 != 0) = false := bne_eq_false_iff_eq.mpr c6
      clear c6
      obtain rfl := Option.some.inj H
      go_enter Try.func36, Try.ntmps36
      go_wp2_with (first | ((with_reducible refine gate_callee (f := 71) rfl ?_); refine goesL_ (some 7) rfl rfl Try.func71 (by kernel_rfl) rfl #[.string a0, .string (⟨#[]⟩ : ByteArray)] rfl (by (try simp only [List.map_toArray, List.map_cons, List.map_nil]); first | done | rfl | (simp only [List.length_drop, List.length_take]; rfl)) ?_; (with_reducible refine (ring_form.calls a0 (⟨#[]⟩ : ByteArray) t246 true _ A2.out).mono ?_); rintro e w7 ⟨rfl, hb⟩; refine ⟨_, rfl, ?_⟩; have n0_ := Aside0.mk (below_step (by repeat (first | (with_reducible first | exact HB.out | apply below_alloc | apply pw_below_drewN | apply below_drew1) | exact HB.out)) hb); clear HB; have HB := n0_; clear n0_; (try clear hb); (try clear hb2); (try clear hk); (try clear hi)) | ((with_reducible refine gate_callee (f := 73) rfl ?_); refine goesL_ (some 16) rfl rfl Try.func73 (by kernel_rfl) rfl #[.string a0, .int .i64 t246] rfl (by (try simp only [List.map_toArray, List.map_cons, List.map_nil]); first | done | rfl | (simp only [List.length_drop, List.length_take]; rfl)) ?_; (with_reducible refine (ring_digits.calls a0 t246 t248 _ A4.out).mono ?_); rintro e w8 ⟨v249, rfl, ho0, hb⟩; refine ⟨_, rfl, ?_⟩; have n0_ := Aside0.mk (Kd.R_lower ho0 (below_size (by repeat (first | (with_reducible first | exact HB.out | apply below_alloc | apply pw_below_drewN | apply below_drew1) | exact HB.out)))); have n1_ := Aside0.mk (below_step (by repeat (first | (with_reducible first | exact HB.out | apply below_alloc | apply pw_below_drewN | apply below_drew1) | exact HB.out)) hb); clear HB; have HO250 := n0_; have HB := n1_; clear n0_ n1_; (try clear hb); (try clear hb2); (try clear hk); (try clear hi); (try clear ho0); obtain ⟨Ao9, co9, eo9⟩ := Kd.R_slice HO250.out; subst eo9) | ((with_reducible refine gate_callee (f := 60) rfl ?_); refine goesL_ (some 17) rfl rfl Try.func60 (by kernel_rfl) rfl #[.slice Ao9 t248.length co9, .int .i64 0] rfl (by (try simp only [List.map_toArray, List.map_cons, List.map_nil]); first | done | rfl | (simp only [List.length_drop, List.length_take]; rfl)) ?_; (with_reducible refine (ring_sum.calls k _ _ t248 0 t251 _ ?side1 ?side2 A5.out).mono ?_); (case side1 => repeat (first | exact (Kd.R_reads' HO250.out).2.2 | (with_reducible refine Kd.C_alloc ?_ _) | (with_reducible refine Kd.C_drewN ?_ _) | (with_reducible refine Kd.C_drew ?_))); (case side2 => exact (Kd.R_reads' HO250.out).2.1); rintro e w' ⟨rfl, ⟨nd, rfl⟩⟩; refine ⟨_, rfl, ?_⟩))
      go_ret
      exact ⟨by first | rfl | (simp [errW_none, errW_some] <;> rfl) | (simp [*, errW_none, errW_some] <;> rfl), by repeat (first | (with_reducible first | exact HB.out | apply below_alloc | apply pw_below_drewN | apply below_drew1) | exact HB.out)⟩
    · rw [if_neg c6] at H
      have c6b0 : (t251 == 0) = false := beq_eq_false_iff_ne.mpr c6
      have c6b1 : (t251 != 0) = true := bne_iff_ne.mpr c6
      obtain rfl := Option.some.inj H
      go_enter Try.func36, Try.ntmps36
      go_wp2_with (first | ((with_reducible refine gate_callee (f := 71) rfl ?_); refine goesL_ (some 7) rfl rfl Try.func71 (by kernel_rfl) rfl #[.string a0, .string (⟨#[]⟩ : ByteArray)] rfl (by (try simp only [List.map_toArray, List.map_cons, List.map_nil]); first | done | rfl | (simp only [List.length_drop, List.length_take]; rfl)) ?_; (with_reducible refine (ring_form.calls a0 (⟨#[]⟩ : ByteArray) t246 true _ A2.out).mono ?_); rintro e w10 ⟨rfl, hb⟩; refine ⟨_, rfl, ?_⟩; have n0_ := Aside0.mk (below_step (by repeat (first | (with_reducible first | exact HB.out | apply below_alloc | apply pw_below_drewN | apply below_drew1) | exact HB.out)) hb); clear HB; have HB := n0_; clear n0_; (try clear hb); (try clear hb2); (try clear hk); (try clear hi)) | ((with_reducible refine gate_callee (f := 73) rfl ?_); refine goesL_ (some 16) rfl rfl Try.func73 (by kernel_rfl) rfl #[.string a0, .int .i64 t246] rfl (by (try simp only [List.map_toArray, List.map_cons, List.map_nil]); first | done | rfl | (simp only [List.length_drop, List.length_take]; rfl)) ?_; (with_reducible refine (ring_digits.calls a0 t246 t248 _ A4.out).mono ?_); rintro e w11 ⟨v249, rfl, ho0, hb⟩; refine ⟨_, rfl, ?_⟩; have n0_ := Aside0.mk (Kd.R_lower ho0 (below_size (by repeat (first | (with_reducible first | exact HB.out | apply below_alloc | apply pw_below_drewN | apply below_drew1) | exact HB.out)))); have n1_ := Aside0.mk (below_step (by repeat (first | (with_reducible first | exact HB.out | apply below_alloc | apply pw_below_drewN | apply below_drew1) | exact HB.out)) hb); clear HB; have HO250 := n0_; have HB := n1_; clear n0_ n1_; (try clear hb); (try clear hb2); (try clear hk); (try clear hi); (try clear ho0); obtain ⟨Ao12, co12, eo12⟩ := Kd.R_slice HO250.out; subst eo12) | ((with_reducible refine gate_callee (f := 60) rfl ?_); refine goesL_ (some 17) rfl rfl Try.func60 (by kernel_rfl) rfl #[.slice Ao12 t248.length co12, .int .i64 0] rfl (by (try simp only [List.map_toArray, List.map_cons, List.map_nil]); first | done | rfl | (simp only [List.length_drop, List.length_take]; rfl)) ?_; (with_reducible refine (ring_sum.calls k _ _ t248 0 t251 _ ?side1 ?side2 A5.out).mono ?_); (case side1 => repeat (first | exact (Kd.R_reads' HO250.out).2.2 | (with_reducible refine Kd.C_alloc ?_ _) | (with_reducible refine Kd.C_drewN ?_ _) | (with_reducible refine Kd.C_drew ?_))); (case side2 => exact (Kd.R_reads' HO250.out).2.1); rintro e w' ⟨rfl, ⟨nd, rfl⟩⟩; refine ⟨_, rfl, ?_⟩))
      go_ret
      exact ⟨by first | rfl | (simp [errW_none, errW_some] <;> rfl) | (simp [*, errW_none, errW_some] <;> rfl), by repeat (first | (with_reducible first | exact HB.out | apply below_alloc | apply pw_below_drewN | apply below_drew1) | exact HB.out)⟩
  · replace c3 := Bool.eq_false_iff.mpr c3
    subst c3
    have H1 : (some 2) = some r := by rw [if_neg (show ¬ (false = true) by decide)] at H; exact H
    clear H
    have H := H1
    clear H1
    obtain rfl := Option.some.inj H
    go_enter Try.func36, Try.ntmps36
    go_wp2_with (first | ((with_reducible refine gate_callee (f := 71) rfl ?_); refine goesL_ (some 7) rfl rfl Try.func71 (by kernel_rfl) rfl #[.string a0, .string (⟨#[]⟩ : ByteArray)] rfl (by (try simp only [List.map_toArray, List.map_cons, List.map_nil]); first | done | rfl | (simp only [List.length_drop, List.length_take]; rfl)) ?_; (with_reducible refine (ring_form.calls a0 (⟨#[]⟩ : ByteArray) t246 false _ A2.out).mono ?_); rintro e w13 ⟨rfl, hb⟩; refine ⟨_, rfl, ?_⟩; have n0_ := Aside0.mk (below_step (by repeat (first | (with_reducible first | exact HB.out | apply below_alloc | apply pw_below_drewN | apply below_drew1) | exact HB.out)) hb); clear HB; have HB := n0_; clear n0_; (try clear hb); (try clear hb2); (try clear hk); (try clear hi)))
    go_ret
    exact ⟨by first | rfl | (simp [errW_none, errW_some] <;> rfl) | (simp [*, errW_none, errW_some] <;> rfl), by repeat (first | (with_reducible first | exact HB.out | apply below_alloc | apply pw_below_drewN | apply below_drew1) | exact HB.out)⟩

end Go.Proofs.Ytlbhighbhchdmaa.Q
