/- The code for lengths: the order of the lengths and the signals one after another. For all lists of lengths. -/
import Derived.Test.YtpkafcoflgbnaaaWLast
import Derived.Test.YtpkafcoflgbnaaaWMore
import Derived.Test.YtpkafcoflgbnaaaProg
import Derived.Test.YtpkafcoflgbnaaaShelf
import Derived.OwnWalk
import Derived.Handy
import Derived.Deep.DeepMust
import Derived.Lib.Hide
import Derived.Outline
import Derived.IntWalk
import Derived.Deep.RegionWith
import Derived.RangeFuncBox
import Derived.Lib.OwnBridge
import Derived.Test.YtpkafcoflgbnaaaWh2
import Derived.Deep.QuietTactic
import Derived.BigQuiet
import Derived.Sort.LotA
namespace Go.Proofs.Ytpkafcoflgbnaaa.Q
open Go.RowKit Go.Proofs.YtpkafcoflgbnaaaW.PrintWords Go.Proofs.YtpkafcoflgbnaaaW.PrintLast Go.Proofs.YtpkafcoflgbnaaaW.PrintMore Go.Shelf
set_option linter.unusedVariables false
set_option linter.unusedSimpArgs false
/-! FromLengths: the order of the lengths, by the library's stable sort of at most 12. -/
def cfN (l : List Int) (x y : Nat) : Int := Lib.compareInt (rd l ((x % l.length : Nat) : Int)) (rd l ((y % l.length : Nat) : Int))
def encN (n x : Nat) : Value := .int .i64 ((x % n : Nat) : Int)
def ordN (l : List Int) : Array Nat := Go.Sort.insertionSort (ltOf (cfN l)) (List.range l.length).toArray 0 l.length
/-- The comparison of FromLengths. -/
theorem cmp_calls (B : Nat) (A0 : Option Addr) (c0 : Nat) (l : List Int) (i k : Int) (W : World) (hB : W.cell? ⟨B, 0, none⟩ = some (.slice A0 l.length c0)) (hr0 : Kd.C (Kd.int .i64) W A0 l.length l) (hi0 : 0 ≤ i) (hi1 : i < (l.length : Int)) (hk0 : 0 ≤ k) (hk1 : k < (l.length : Int)) :
    Calls Try.prog 72 #[.int .i64 i, .int .i64 k, .pointer (some ⟨B, 0, none⟩)] W fun e w' => e = .returned (.int .i64 (Lib.compareInt (rd l i) (rd l k))) ∧ ∃ q, w' = W.drewN q := by
  obtain ⟨ad, e, hci⟩ := Kd.at_int hr0 i hi0 hi1
  obtain ⟨ad2, e2, hck⟩ := Kd.at_int hr0 k hk0 hk1
  subst e
  cases e2
  clear hr0
  have d1 := decide_eq_true hi0
  have d2 := decide_eq_true hi1
  have d3 := decide_eq_true hk0
  have d4 := decide_eq_true hk1
  go_enter Try.func72, Try.ntmps72
  go_wp2
  go_quiet ((go_at_call 73; exact Calls.quiet_of_same (Try.cmp_Compare_int _ _ _)))
  go_wp2
  first | go_end0 | go_returns | go_ret
  exact ⟨rfl, _, rfl⟩
theorem encN_one (n : Nat) : OneCell (encN n) := fun _ => rfl
theorem lt_cfN (l : List Int) (x y : Nat) : ltOf (cfN l) x y = decide (rd l ((x % l.length : Nat) : Int) < rd l ((y % l.length : Nat) : Int)) := by
  unfold ltOf cfN Lib.compareInt
  generalize rd l ((x % l.length : Nat) : Int) = a
  generalize rd l ((y % l.length : Nat) : Int) = b
  by_cases h : a < b
  · simp [h]
  · by_cases h2 : a > b <;> simp [h, h2]
theorem swo_cfN (l : List Int) : Go.Sort.SWO (ltOf (cfN l)) where
  irrefl := fun x => by rw [lt_cfN]; simp
  trans := fun x y z h1 h2 => by rw [lt_cfN, decide_eq_true_eq] at *; omega
  ntrans := fun x y z h1 h2 => by rw [lt_cfN, decide_eq_false_iff_not] at *; omega
theorem ordN_holds (l : List Int) : Go.Sort.PermIn 0 l.length (List.range l.length).toArray (ordN l) ∧ Go.Sort.SortedIn (ltOf (cfN l)) 0 l.length (ordN l) :=
  Go.Sort.insertionSort_holds (swo_cfN l) (List.range l.length).toArray 0 l.length (Nat.zero_le _) (by simp)
theorem ordN_size (l : List Int) : (ordN l).size = l.length := by rw [(ordN_holds l).1.1]; simp
theorem grown_sort {α : Type} [Inhabited α] (enc : α → Value) (W : World) (blk m : Nat) (dk : Array α) (os : Array Obj) : W.grownBy (sortWorld enc W blk 0 m dk os) (some blk) := by
  refine ⟨rfl, rfl, rfl, by simp [sortWorld, Go.Sort.grow, Go.Sort.putRow, Go.Sort.mapBlock, Go.Sort.ahead], fun k hk hne => ?_⟩
  have hn : blk ≠ k := fun e => hne (by rw [e])
  simp [sortWorld, Go.Sort.grow, Go.Sort.putRow, Go.Sort.mapBlock, Go.Sort.ahead, Array.getElem?_append, Array.getElem_modify, hn, hk]
/-- The library's stable sort of at most 12 numbers. -/
theorem stable_calls (w0 : World) (B blk : Nat) (A0 : Option Addr) (c0 cap : Nat) (l : List Int) (W : World) (hB : W.cell? ⟨B, 0, none⟩ = some (.slice A0 l.length c0)) (hBb : B ≠ blk) (hr0 : Kd.C (Kd.int .i64) w0 A0 l.length l) (hb0 : Below w0.heap.size w0 W) (hblk : w0.heap.size ≤ blk)
    (hl : 0 < l.length) (h12 : l.length ≤ 12) (hH : Go.Sort.Holds (encN l.length) W blk 0 (List.range l.length).toArray) :
    Calls Try.prog 71 #[.slice (some ⟨blk, 0, none⟩) l.length cap, .func (.func 72) #[] #[.pointer (some ⟨B, 0, none⟩)]] W fun e w' => e = .returned (.tuple #[]) ∧ ∃ n, w' = (Go.Sort.putRow (encN l.length) W blk 0 (ordN l)).drewN n := by
  have hcmp : CmpReads Try.prog 72 #[.pointer (some ⟨B, 0, none⟩)] (encN l.length) (cfN l) blk 0 (List.range l.length).toArray.size W := by
    intro m os dk hs x y
    have hg := grown_sort (encN l.length) W blk m dk os
    have hBB : B < W.heap.size := World.block_lt_of_cell? W _ hB
    have hcell := (hg.cell (a := ⟨B, 0, none⟩) hB (by intro e; injection e with e; exact hBb e))
    have hrow := Kd.C_below hr0 (hb0.grown hg hb0.size (fun k e => by cases e; exact hblk))
    exact cmp_calls B A0 c0 l _ _ _ hcell hrow (by omega) (by have := Nat.mod_lt x hl; omega) (by omega) (by have := Nat.mod_lt y hl; omega)
  have hins0 := Try.insertionSortCmpFunc_one (encN l.length) (encN_one _) (cfN l) 72 #[.pointer (some ⟨B, 0, none⟩)] blk 0 cap 0 l.length (List.range l.length).toArray W (enters_of Try.func72 (by kernel_rfl) rfl) hcmp hH (Nat.zero_le _) (by simp) (by simp; omega)
  have hsz : (List.range l.length).toArray.size = l.length := by simp
  rw [hsz] at hins0
  have hins : Calls Try.prog 115 #[.slice (some ⟨blk, 0, none⟩) l.length cap, .int .i64 0, .int .i64 l.length, .func (.func 72) #[] #[.pointer (some ⟨B, 0, none⟩)]] W fun e w' => e = .returned (.tuple #[]) ∧ ∃ n, w' = (Go.Sort.putRow (encN l.length) W blk 0 (ordN l)).drewN n := hins0
  clear hins0
  have hstab : Calls Try.prog 105 #[.slice (some ⟨blk, 0, none⟩) l.length cap, .int .i64 l.length, .func (.func 72) #[] #[.pointer (some ⟨B, 0, none⟩)]] W fun e w' => e = .returned (.tuple #[]) ∧ ∃ n, w' = (Go.Sort.putRow (encN l.length) W blk 0 (ordN l)).drewN n := by
    have d1 : decide ((20 : Int) ≤ (l.length : Int)) = false := decide_eq_false (by omega)
    have d2 : decide ((20 : Int) < (l.length : Int)) = false := decide_eq_false (by omega)
    clear hcmp hH hr0
    go_enter Try.func105, Try.ntmps105
    go_wp2
    refine wp_loop_rounds 1 ?_
    rw [rounds_succ]
    go_wp2_with (first | (go_at_call 115; go_must (with_reducible refine hins.mono ?_); rintro _ w1 ⟨rfl, n, rfl⟩))
    refine wp_loop_rounds 1 ?_
    rw [rounds_succ]
    go_wp2
    go_end0
    exact ⟨rfl, n, rfl⟩
  clear hcmp hH hr0
  go_enter Try.func71, Try.ntmps71
  go_wp2_with (first | (go_at_call 105; go_must (with_reducible refine hstab.mono ?_); rintro _ w1 ⟨rfl, n, rfl⟩))
  go_end0
  exact ⟨rfl, n, rfl⟩
/-! FromLengths: plainly. -/
def bitB (num b : Nat) : UInt8 := if num / 2 ^ b % 2 = 1 then 45 else 46
/-- The first k notes of a signal. -/
def sigK (num long : Nat) : Nat → List UInt8
  | 0 => []
  | k + 1 => sigK num long k ++ [bitB num (long - 1 - k)]
def sigB (num long : Nat) : ByteArray := ⟨(sigK num long long).toArray⟩
def nextN (first : Bool) (num long li : Nat) : Nat := if first = true then num else (num + 1) * 2 ^ (li - long)
def nextL (first : Bool) (long li : Nat) : Nat := if first = true then long else li
def fromGo (l : List Int) : List Int → Bool → Nat → Nat → List ByteArray → Option (List ByteArray)
  | [], _, _, _, out => some out
  | i :: r, first, num, long, out =>
    if (decide (long ≤ (rd l i).toNat) && decide (nextN first num long (rd l i).toNat < 100000)) = true then fromGo l r false (nextN first num long (rd l i).toNat) (nextL first long (rd l i).toNat) (out.set i.toNat (sigB (nextN first num long (rd l i).toNat) (nextL first long (rd l i).toNat))) else none
def ordL (l : List Int) : List Int := (ordN l).toList.map fun x => ((x % l.length : Nat) : Int)
def fromL (l : List Int) : Option (List ByteArray) := fromGo l (ordL l) true 0 (rd l (rd (ordL l) 0)).toNat (List.replicate l.length ByteArray.empty)
theorem sigK_len (num long : Nat) : ∀ k, (sigK num long k).length = k
  | 0 => rfl
  | k + 1 => by show (sigK num long k ++ _).length = _; rw [List.length_append, sigK_len num long k]; rfl
theorem ordL_len (l : List Int) : (ordL l).length = l.length := by unfold ordL; rw [List.length_map, Array.length_toList, ordN_size]
/-- One signal, written note by note: the inner loop's byte. -/
theorem note_calls (b : Nat) (num long k : Nat) (W : World) (h : IsB b (sigK num long k) W) (hk : k ≤ 12) :
    Calls Try.prog 74 #[.pointer (some ⟨b, 0, none⟩), .int .u8 (bitB num (long - 1 - k)).toNat] W fun e w' => e = .returned .nilIface ∧ IsB b (sigK num long (k + 1)) w' ∧ Below b W w' := by
  have := wbyte_calls b (Lib.byteCells (sigK num long k)) ((bitB num (long - 1 - k)).toNat : Int) W h (by rw [Lib.byteCells_length, sigK_len]; omega)
  refine this.mono ?_
  rintro e w' ⟨rfl, h1, h2⟩
  refine ⟨rfl, ?_, h2⟩
  unfold IsB
  rw [show sigK num long (k + 1) = sigK num long k ++ [bitB num (long - 1 - k)] from rfl, Lib.byteCells_append]
  exact h1
/-- The rows of the call's own: the order, and what is returned. -/
theorem ord_row {w : World} {base g cap q n : Nat} {zs : List Nat} {ys : Array Nat} (h : w.ownsRow base 3 1 (.slice (some ⟨g, 0, none⟩) n cap) n (zs.map (encN n))) (hy : ys.size = n) :
    ((Go.Sort.putRow (encN n) w g 0 ys).drewN q).ownsRow base 3 1 (.slice (some ⟨g, 0, none⟩) n cap) n (ys.toList.map (encN n)) := by
  have := Go.Lib.ownsRow_putRow (q := q) (k := n) (ys := ys.toList) h (by simpa using hy) (Nat.le_refl _)
  rw [List.take_of_length_le (by simp; omega)] at this
  rw [← sortWorld_none]
  unfold sortWorld
  rw [Go.Sort.grow_empty]
  simpa using this
def Rat60 (A0 : Option Addr) (n c0 : Nat) (p d : Int) (W : World) : Prop := Calls Try.prog 60 #[.slice A0 n c0] W fun e w' => e = .returned (.agg #[.int .i64 p, .int .i64 d]) ∧ Below W.heap.size W w'
theorem from_bad (A0 : Option Addr) (n c0 : Nat) (e0 : Int) (w : World) (hne : e0 ≠ 0)
    (hv : AtLater w (RetI 70 #[.slice A0 n c0] e0)) :
    Calls Try.prog 34 #[.slice A0 n c0] w fun e w' => e = .returned (.tuple #[.slice none 0 0, .int .i64 e0]) ∧ Below w.heap.size w w' := by
  have h1 : (e0 == 0) = false := by simpa using hne
  have h2 : (e0 != 0) = true := by simpa using hne
  clear hne
  have hb0 : Below w.heap.size w (w.alloc (.cells #[.slice A0 n c0] 35)) := (Below.refl _ _).alloc (Nat.le_refl _) _
  have hv1 := hv _ hb0
  clear hv
  unfold RetI at hv1
  go_enter Try.func34, Try.ntmps34
  go_wp2_with (first | (go_at_call 70; go_must (with_reducible refine hv1.mono ?_); rintro e w' ⟨rfl, hb⟩))
  go_ret2
  exact ⟨rfl, hb0.trans (hb.mono hb0.size)⟩
theorem from_rule (A0 : Option Addr) (n c0 : Nat) (p d : Int) (w : World) (hpd : decide (p > d) = true)
    (hv : AtLater w (RetI 70 #[.slice A0 n c0] 0)) (hf : AtLater w (Rat60 A0 n c0 p d)) :
    Calls Try.prog 34 #[.slice A0 n c0] w fun e w' => e = .returned (.tuple #[.slice none 0 0, .int .i64 8]) ∧ Below w.heap.size w w' := by
  have hb0 : Below w.heap.size w (w.alloc (.cells #[.slice A0 n c0] 35)) := (Below.refl _ _).alloc (Nat.le_refl _) _
  have hv1 := hv _ hb0
  have hbx : (w.alloc (.cells #[.slice A0 n c0] 35)).cell? ⟨w.heap.size, 0, none⟩ = some (.slice A0 n c0) := (Boxed.new w 35 _).cell
  have HF := hf.hid
  clear hv hf
  unfold RetI at hv1
  go_enter Try.func34, Try.ntmps34
  go_wp2_with (first | (go_at_call 70; go_must (with_reducible refine hv1.mono ?_); rintro _ w1 ⟨rfl, hb⟩; have hb1 := hb0.trans (hb.mono hb0.size); have hbx1 := (hb.cell (World.block_lt_of_cell? _ _ hbx)).trans hbx; have hf1 := HF.out _ hb1; unfold Rat60 at hf1) | (go_at_call 60; go_must (with_reducible refine hf1.mono ?_); rintro _ w2 ⟨rfl, hb2⟩))
  go_ret2
  exact ⟨rfl, (hb1.trans (hb2.mono hb1.size)).alloc (hb1.trans (hb2.mono hb1.size)).size _⟩
def idxC (n i : Nat) : List Value := (List.range n).map fun j => if j < i then Value.int .i64 (j : Int) else Value.int .i64 0
theorem idxC_zero (n : Nat) : idxC n 0 = (madeCells (Value.int .i64 0).cells (n * 1)).toList := by
  rw [show (Value.int IntKind.i64 0).cells = #[Value.int .i64 0] from rfl, toList_madeCells_one, Nat.mul_one]
  unfold idxC
  apply List.ext_getElem
  · simp
  · intro j h1 h2; simp
theorem idxC_set (n i : Nat) (hi : i < n) : (idxC n i).set i (.int .i64 (i : Int)) = idxC n (i + 1) := by
  unfold idxC
  apply List.ext_getElem
  · simp
  · intro j h1 h2
    simp only [List.getElem_set, List.getElem_map, List.getElem_range]
    by_cases e : i = j
    · subst e; simp
    · rw [if_neg e]
      by_cases h : j < i
      · rw [if_pos h, if_pos (by omega)]
      · rw [if_neg h, if_neg (by omega)]
theorem idxC_all (n : Nat) : idxC n n = (List.range n).map (encN n) := by
  unfold idxC
  apply List.map_congr_left
  intro j hj
  have hj := List.mem_range.1 hj
  rw [if_pos hj]
  unfold encN
  rw [Nat.mod_eq_of_lt hj]
theorem idxC_len (n i : Nat) : (idxC n i).length = n := by unfold idxC; simp
theorem idxC_get (n i j : Nat) (hj : j < n) : ∃ v, (idxC n i)[j]? = some v ∧ v.oneCell' = true := by
  refine ⟨(idxC n i)[j]'(by rw [idxC_len]; exact hj), List.getElem?_eq_getElem _, ?_⟩
  unfold idxC
  simp only [List.getElem_map, List.getElem_range]
  split <;> rfl
theorem ordL_cells (l : List Int) : (ordL l).map (Value.int .i64) = (ordN l).toList.map (encN l.length) := by
  unfold ordL
  rw [List.map_map]
  rfl
theorem sort_post (w0 : World) (B blk : Nat) (A0 : Option Addr) (c0 : Nat) (l : List Int) (W : World) (hB : W.cell? ⟨B, 0, none⟩ = some (.slice A0 l.length c0)) (hBb : B ≠ blk) (hr0 : Kd.C (Kd.int .i64) w0 A0 l.length l) (hb0 : Below w0.heap.size w0 W) (hblk : w0.heap.size ≤ blk)
    (hl : 0 < l.length) (h12 : l.length ≤ 12) (ho : W.ownsRow blk 3 1 (.slice (some ⟨blk, 0, none⟩) l.length l.length) l.length (idxC l.length l.length)) :
    Calls Try.prog 71 #[.slice (some ⟨blk, 0, none⟩) l.length l.length, .func (.func 72) #[] #[.pointer (some ⟨B, 0, none⟩)]] W fun e w' => e = .returned (.tuple #[]) ∧ w'.ownsRow blk 3 1 (.slice (some ⟨blk, 0, none⟩) l.length l.length) l.length ((ordL l).map (Value.int .i64)) ∧ W.grownBy w' (some blk) := by
  rw [idxC_all] at ho
  have hH : Go.Sort.Holds (encN l.length) W blk 0 (List.range l.length).toArray := by
    obtain ⟨g, cap, e, _, _, _, _, _, hH⟩ := Go.Lib.holds_of_ownsRow ho (by intro h; cases h)
    cases e
    exact hH
  refine (stable_calls w0 B blk A0 c0 l.length l W hB hBb hr0 hb0 hblk hl h12 hH).mono ?_
  rintro e w' ⟨rfl, q, rfl⟩
  refine ⟨rfl, ?_, ?_⟩
  · rw [ordL_cells]
    exact ord_row ho (ordN_size l)
  · rw [← sortWorld_none]
    exact grown_sort _ _ _ _ _ _
theorem ordL_in (l : List Int) (hl : 0 < l.length) (k : Nat) (hk : k < l.length) : 0 ≤ rd (ordL l) (k : Int) ∧ rd (ordL l) (k : Int) < (l.length : Int) ∧ (ordL l)[k]? = some (rd (ordL l) (k : Int)) := by
  have hk3 : k < (ordN l).toList.length := by rw [Array.length_toList, ordN_size]; exact hk
  have e : (ordL l)[k]? = some (((ordN l).toList[k] % l.length : Nat) : Int) := by
    unfold ordL
    rw [List.getElem?_map, List.getElem?_eq_getElem hk3]; rfl
  have e2 : rd (ordL l) (k : Int) = (((ordN l).toList[k] % l.length : Nat) : Int) := by
    unfold rd
    rw [Int.toNat_natCast, List.getD_eq_getElem?_getD, e]; rfl
  rw [e2, e]
  have := Nat.mod_lt ((ordN l).toList[k]) hl
  exact ⟨by omega, by omega, rfl⟩
theorem i64_and1 (n : Int) : bits .and .i64 n 1 = n % 2 := by
  have h1 : (BitVec.ofInt 64 1).toNat = 2 ^ 1 - 1 := by decide
  have key : (BitVec.ofInt 64 n &&& BitVec.ofInt 64 1).toNat = (n % ((2 ^ 64 : Nat) : Int)).toNat % 2 ^ 1 := by
    rw [BitVec.toNat_and, BitVec.toNat_ofInt, h1, Nat.and_two_pow_sub_one_eq_mod]
  show IntKind.i64.wrap ((BitVec.ofInt 64 n &&& BitVec.ofInt 64 1).toNat : Nat) = n % 2
  rw [key, IntKind.wrap_i64]
  omega
theorem bit_at (N : Nat) (z : Int) (m L : Nat) (hz : z + (m : Int) + 1 = (L : Int)) (h0 : 0 ≤ z) : bits .and .i64 ((N : Int) / 2 ^ z.toNat) 1 = ((N / 2 ^ (L - 1 - m) % 2 : Nat) : Int) := by
  rw [i64_and1, show z.toNat = L - 1 - m by omega]
  push_cast
  rfl
theorem bitB_one (N b : Nat) (h : N / 2 ^ b % 2 = 1) : ((bitB N b).toNat : Int) = 45 := by unfold bitB; rw [if_pos h]; rfl
theorem bitB_zero (N b : Nat) (h : N / 2 ^ b % 2 = 0) : ((bitB N b).toNat : Int) = 46 := by unfold bitB; rw [if_neg (by omega)]; rfl
theorem owns_base2 {w : World} {b base : Nat} {e : TypeId} {v : Value} {n : Nat} {xs : List Value} (h : w.ownsRow base e 1 v n xs) (hb : b ≤ base) : w.ownsRow b e 1 v n xs := by
  rcases h.2 with hn | ⟨g, cap, cur, rfl, h1, h2⟩
  · exact ⟨h.1, .inl hn⟩
  · exact ⟨h.1, .inr ⟨g, cap, cur, rfl, by omega, h2⟩⟩
theorem fromGo_step {l : List Int} {i : Int} {rest : List Int} {first : Bool} {num long : Nat} {outs r : List ByteArray} (h : fromGo l (i :: rest) first num long outs = some r) :
    long ≤ (rd l i).toNat ∧ nextN first num long (rd l i).toNat < 100000 ∧ fromGo l rest false (nextN first num long (rd l i).toNat) (nextL first long (rd l i).toNat) (outs.set i.toNat (sigB (nextN first num long (rd l i).toNat) (nextL first long (rd l i).toNat))) = some r := by
  unfold fromGo at h
  split at h
  · rename_i hc
    rw [Bool.and_eq_true, decide_eq_true_eq, decide_eq_true_eq] at hc
    exact ⟨hc.1, hc.2, h⟩
  · cases h
theorem drop_ord (l : List Int) (hl : 0 < l.length) (k : Nat) (hk : k < l.length) : (ordL l).drop k = rd (ordL l) (k : Int) :: (ordL l).drop (k + 1) := by
  have hk2 : k < (ordL l).length := by rw [ordL_len]; exact hk
  rw [List.drop_eq_getElem_cons hk2]
  congr 1
  have := (ordL_in l hl k hk).2.2
  rw [List.getElem?_eq_getElem hk2] at this
  exact Option.some.inj this
set_option maxHeartbeats 8000000 in
set_option maxRecDepth 100000 in
theorem from_ok (A0 : Option Addr) (c0 : Nat) (l : List Int) (r : List ByteArray) (p d : Int) (w : World) (hr0 : Kd.C (Kd.int .i64) w A0 l.length l) (hpd : decide (p > d) = false)
    (hv : AtLater w (RetI 70 #[.slice A0 l.length c0] 0)) (hf : AtLater w (Rat60 A0 l.length c0 p d)) (hl : 0 < l.length) (h12 : l.length ≤ 12) (hin : ∀ i : Int, 0 ≤ i → i < (l.length : Int) → 1 ≤ rd l i ∧ rd l i ≤ 12) (hgo : fromL l = some r) :
    Calls Try.prog 34 #[.slice A0 l.length c0] w fun e w' => ∃ v, e = .returned (.tuple #[v, .int .i64 0]) ∧ w'.ownsRow w.heap.size 9 1 v r.length (r.map Value.string) ∧ Below w.heap.size w w' := by
  obtain ⟨i3, hi3, hz30, hz31, hz32⟩ := info_parts (show (Try.prog.info? 3).map (fun i => (i.zero, i.size, i.bytes)) = some (some (.int .i64 0), 1, 8) by kernel_rfl)
  obtain ⟨i9, hi9, hz90, hz91, hz92⟩ := info_parts info9
  have hb0 : Below w.heap.size w (w.alloc (.cells #[.slice A0 l.length c0] 35)) := (Below.refl _ _).alloc (Nat.le_refl _) _
  have hv1 := hv _ hb0
  have hbx : (w.alloc (.cells #[.slice A0 l.length c0] 35)).cell? ⟨w.heap.size, 0, none⟩ = some (.slice A0 l.length c0) := (Boxed.new w 35 _).cell
  have hbl := World.block_lt_of_cell? _ _ hbx
  have HF := hf.hid
  have HI := Lib.hid hin
  have HG := Lib.hid hgo
  have HR := Lib.hid hr0
  clear hv hf hin hgo hr0
  unfold RetI at hv1
  go_enter Try.func34, Try.ntmps34
  go_wp2_with (first | (go_at_call 70; go_must (with_reducible refine hv1.mono ?_); rintro _ w1 ⟨rfl, hb⟩; have hb1 := hb0.trans (hb.mono hb0.size); have hbx1 := (hb.cell hbl).trans hbx; have hf1 := HF.out _ hb1; unfold Rat60 at hf1) | (go_at_call 60; go_must (with_reducible refine hf1.mono ?_); rintro _ w2 ⟨rfl, hb2⟩; have hbx2 := (hb2.cell (World.block_lt_of_cell? _ _ hbx1)).trans hbx1; have hB2 := hb1.trans (hb2.mono hb1.size); have hB3 := hB2.alloc hB2.size (.cells #[.int .i64 p, .int .i64 d] 32); have hbx3 := (((Below.refl w2.heap.size w2).alloc (Nat.le_refl _) (.cells #[.int .i64 p, .int .i64 d] 32)).cell (World.block_lt_of_cell? _ _ hbx2)).trans hbx2) | (at_make; refine wpList_make_full _ rfl _ _ 35 rfl _ 3 i3 (.int .i64 0) 1 Try.underlying35 hi3 hz30 hz31 _ _ _ _ l.length rfl rfl rfl rfl (by rw [hz32]; omega) (by unfold maxLen; omega) (Nat.le_refl _) ?_; intro w4 ho4 hg4; have hbx4 := hg4.cell hbx3 (by simp)))
  have hB4 := hB3.grown hg4 hB3.size (fun k e => by cases e)
  obtain ⟨blk, hblk⟩ : ∃ blk, (w2.alloc (.cells #[.int .i64 p, .int .i64 d] 32)).heap.size = blk := ⟨_, rfl⟩
  have hbk : w.heap.size < blk := by have := hB2.size; rw [← hblk]; simp; omega
  rw [hblk] at ho4
  simp only [World.size_alloc] at hblk
  simp only [hblk]
  go_loopw [32] (fun p wr => ∃ i : Nat, i ≤ l.length ∧ p = .int .i64 (i : Int) ∧ wr.ownsRow blk 3 1 (.slice (some ⟨blk, 0, none⟩) l.length l.length) l.length (idxC l.length i) ∧ Below blk w4 wr) (fun p _ => l.length - (intOf p).toNat)
  case atStart => exact ⟨0, Nat.zero_le _, rfl, by rw [idxC_zero]; exact ho4, Below.refl _ _⟩
  case round =>
    obtain ⟨i, hi, rfl, ho, hb⟩ := hrel
    by_cases hlt : i < l.length
    · have hdi : decide ((i : Int) < (l.length : Int)) = true := decide_eq_true (by omega)
      have hdi0 : decide (0 ≤ (i : Int)) = true := decide_eq_true (by omega)
      have hfr := ho.frozenAt i
      obtain ⟨u, hu, hu1⟩ := idxC_get l.length i i hlt
      have hci := (ho.cellAt i (by omega)).trans hu
      have hst := ho.stored i (.int .i64 (i : Int))
      rw [idxC_set _ _ hlt] at hst
      have Hst := Lib.hid hst
      clear hst hu
      go_wp2
      go_roundw
      case rel => exact ⟨i + 1, by omega, by simp, Hst.out.1, hb.grown Hst.out.2 (Nat.le_of_lt (ho.lt blk rfl).2) (fun k e => by cases e; exact Nat.le_refl _)⟩
      case measure => simp [intOf]; omega
    · obtain rfl : i = l.length := by omega
      have hdi : decide ((l.length : Int) < (l.length : Int)) = false := decide_eq_false (by omega)
      have hB5 := hB4.trans (hb.mono (Nat.le_trans (Nat.le_of_lt hbk) (Nat.le_refl blk)))
      have hbx5 := (hb.cell (p := ⟨w.heap.size, 0, none⟩) hbk).trans hbx4
      have hsort := sort_post w w.heap.size blk A0 c0 l wr hbx5 (by omega) HR.out hB5 (by omega) hl h12 ho
      have hbs := (ho.lt blk rfl).2
      clear ho hlt hdi hi
      go_wp2_with (first | (go_at_call 71; go_must (with_reducible refine hsort.mono ?_); rintro _ w6 ⟨rfl, ho6, hg6⟩; have hb6 := hb.grown hg6 (Nat.le_of_lt hbs) (fun k e => by cases e; exact Nat.le_refl _); have hbx6 := (hb6.cell (p := ⟨w.heap.size, 0, none⟩) hbk).trans hbx4; have hs6 := hg6.size) | (at_make; refine wpList_make_full _ rfl _ _ 22 rfl _ 9 i9 (.string ⟨#[]⟩) 1 Try.underlying22 hi9 hz90 hz91 _ _ _ _ l.length rfl rfl rfl rfl (by rw [hz92]; omega) (by unfold maxLen; omega) (Nat.le_refl _) ?_; intro w7 ho7 hg7; have hbx7 := hg7.cell hbx6 (by simp)))
      have hB6 := hB4.trans (hb6.mono (Nat.le_trans (Nat.le_of_lt hbk) (Nat.le_refl blk)))
      have hB7 := hB6.grown hg7 hB6.size (fun k e => by cases e)
      have hb7 : Below w6.heap.size w6 w7 := (Below.refl _ _).grown hg7 (Nat.le_refl _) (fun k e => by cases e)
      have ho67 := own_below ho6 hb7
      obtain ⟨ob, hob⟩ : ∃ ob, w6.heap.size = ob := ⟨_, rfl⟩
      rw [hob] at ho7 hb7
      simp only [hob]
      have hobb : blk < ob := by omega
      obtain ⟨q0, hq1, hq2⟩ := ordL_in l hl 0 hl
      obtain ⟨q, hq⟩ : ∃ q, rd (ordL l) ((0 : Nat) : Int) = q := ⟨_, rfl⟩
      have hq' : rd (ordL l) 0 = q := hq
      rw [hq] at q0 hq1 hq2
      have hc0 := (ho67.cellAt 0 (by omega)).trans (show ((ordL l).map (Value.int .i64))[0]? = some (.int .i64 q) by rw [List.getElem?_map, hq2]; rfl)
      obtain ⟨ad, hA, hcl⟩ := Kd.at_int (Kd.C_below HR.out hB7) q q0 hq1
      subst hA
      have hli := HI.out q q0 hq1
      have hG := HG.out
      unfold fromL at hG
      rw [hq'] at hG
      have HG2 := Lib.hid hG
      clear hG HG hq hq'
      obtain ⟨lq, hlq⟩ : ∃ lq, rd l q = lq := ⟨_, rfl⟩
      rw [hlq] at hcl hli HG2
      clear hlq hq2
      have dq0 := decide_eq_true q0
      have dq1 := decide_eq_true hq1
      have dn0 : decide ((0 : Int) < (l.length : Int)) = true := decide_eq_true (by omega)
      go_quiet (fail)
      go_wp2
      clear hsort hbx4 hbx5 hbx6 hb hb6 ho6 hg6
      have hord := fun k (hk : k < l.length) => (ho67.cellAt k (by omega)).trans (show ((ordL l).map (Value.int .i64))[k]? = some (.int .i64 (rd (ordL l) (k : Int))) by rw [List.getElem?_map, (ordL_in l hl k hk).2.2]; rfl)
      have HO := Lib.hid hord
      have HX := Lib.hid hbx7
      clear hord hbx7 hc0 hcl
      have hobz := (ho7.lt ob rfl).2
      go_loopw [54, 9, 10] (fun p pn pl wr => ∃ (k num long : Nat) (outs : List ByteArray), k ≤ l.length ∧ p = .int .i64 (k : Int) ∧ pn = .int .i64 (num : Int) ∧ pl = .int .i64 (long : Int) ∧ long ≤ 12 ∧ num < 100000 ∧ outs.length = l.length ∧ Hid (fromGo l ((ordL l).drop k) (decide (k = 0)) num long outs = some r) ∧ wr.ownsRow ob 9 1 (.slice (some ⟨ob, 0, none⟩) l.length l.length) l.length (outs.map Value.string) ∧ Below ob w7 wr) (fun p _ _ _ => l.length - (intOf p).toNat)
      case atStart =>
        refine ⟨0, 0, lq.toNat, List.replicate l.length ByteArray.empty, Nat.zero_le _, rfl, rfl, ?_, by omega, by omega, by simp, HG2.out, ?_, pw_below_drewN (Below.refl _ _) _⟩
        · congr 1; omega
        · rw [List.map_replicate, ← toList_madeCells_one]
          rw [Nat.mul_one] at ho7
          exact ho7
      case round =>
        clear hli dq0 dq1 q0 hq1 HG2 dn0 ho7 hg7 hb7 ho67
        obtain ⟨k, num, long, outs, hk, rfl, rfl, rfl, hlo, hnu, hou, HGo, ho, hb⟩ := hrel
        by_cases hlt : k < l.length
        · have hdk : decide ((k : Int) < (l.length : Int)) = true := decide_eq_true (by omega)
          have hdk0 : decide (0 ≤ (k : Int)) = true := decide_eq_true (by omega)
          have hgo := HGo.out
          clear HGo
          rw [drop_ord l hl k hlt] at hgo
          obtain ⟨g1, g2, g3⟩ := fromGo_step hgo
          clear hgo
          obtain ⟨hi0, hi1, -⟩ := ordL_in l hl k hlt
          have hci := (hb.cell (p := ⟨blk, k, none⟩) hobb).trans (HO.out k hlt)
          have hbr : Below w.heap.size w wr := hB7.trans (hb.mono (by omega))
          have hbxr := (hb.cell (p := ⟨w.heap.size, 0, none⟩) (Nat.lt_trans hbk hobb)).trans HX.out
          obtain ⟨i, hi⟩ : ∃ i, rd (ordL l) (k : Int) = i := ⟨_, rfl⟩
          rw [hi] at hci g1 g2 g3 hi0 hi1
          clear hi
          obtain ⟨ad2, hA2, hcl⟩ := Kd.at_int (Kd.C_below HR.out hbr) i hi0 hi1
          have hlin := HI.out i hi0 hi1
          obtain ⟨li, hli⟩ : ∃ li, rd l i = li := ⟨_, rfl⟩
          rw [hli] at hcl g1 g2 g3 hlin
          clear hli
          have di0 := decide_eq_true hi0
          have di1 := decide_eq_true hi1
          cases hA2
          have hws := hb.size
          obtain ⟨L, rfl⟩ : ∃ L : Nat, li = (L : Int) := ⟨li.toNat, by omega⟩
          simp only [Int.toNat_natCast] at g1 g2 g3
          have hfr := IsB.fresh wr
          have hbf : Below wr.heap.size wr (wr.alloc (.cells #[.pointer none, .slice none 0 0] 76)) := (Below.refl _ _).alloc (Nat.le_refl _) _
          by_cases hk0 : k = 0
          · subst hk0
            have G3 := Lib.hid g3
            clear g3
            have dk : decide (((0 : Nat) : Int) > 0) = false := rfl
            have dk2 : decide ((0 : Int) > 0) = false := rfl
            go_wp2
            obtain ⟨wo, rfl⟩ : ∃ wo : World, wo = wr := ⟨_, rfl⟩
            obtain ⟨bb, hbb⟩ : ∃ bb, wo.heap.size = bb := ⟨_, rfl⟩
            rw [hbb] at hfr hbf hws
            simp only [hbb]
            go_loopw [14] (fun p wr => ∃ (m : Nat) (z : Int), p = .int .i64 z ∧ z + (m : Int) + 1 = (long : Int) ∧ -1 ≤ z ∧ IsB bb (sigK num long m) wr ∧ Below bb wo wr) (fun p _ => (intOf p + 1).toNat)
            case atStart => exact ⟨0, (long : Int) - 1, rfl, by omega, by omega, hfr, hbf⟩
            case round =>
              clear hfr hbf
              obtain ⟨m, z, rfl, hz, hz1, hI, hbb2⟩ := hrel
              by_cases h0 : 0 ≤ z
              · have dz : decide (z ≥ 0) = true := decide_eq_true h0
                have dz64 : z ≤ 64 := by omega
                have hbit := bit_at num z m long hz h0
                have hnote := note_calls bb num long m wr hI (by omega)
                rcases Nat.mod_two_eq_zero_or_one (num / 2 ^ (long - 1 - m)) with h2 | h2
                · rw [bitB_zero _ _ h2] at hnote
                  rw [h2] at hbit
                  replace hbit : bits .and .i64 ((num : Int) / 2 ^ z.toNat) 1 = 0 := hbit
                  clear h2
                  go_wp2_with (first | (go_at_call 74; go_must (refine hnote.mono ?_); rintro _ w9 ⟨rfl, hI9, hb9⟩))
                  go_roundw
                  case rel => exact ⟨m + 1, z - 1, rfl, by omega, by omega, hI9, hbb2.trans hb9⟩
                  case measure => simp [intOf]; omega
                · rw [bitB_one _ _ h2] at hnote
                  rw [h2] at hbit
                  replace hbit : bits .and .i64 ((num : Int) / 2 ^ z.toNat) 1 = 1 := hbit
                  clear h2
                  go_wp2_with (first | (go_at_call 74; go_must (refine hnote.mono ?_); rintro _ w9 ⟨rfl, hI9, hb9⟩))
                  go_roundw
                  case rel => exact ⟨m + 1, z - 1, rfl, by omega, by omega, hI9, hbb2.trans hb9⟩
                  case measure => simp [intOf]; omega
              · have dz : decide (z ≥ 0) = false := decide_eq_false h0
                obtain rfl : m = long := by omega
                have hstr := Try.Builder_String_any bb bb (sigK num m m) wr hI (by have := hbb2.size; omega)
                have HO2 := Lib.hid ho
                clear ho
                go_wp2_with (first | (go_at_call 75; go_must (with_reducible refine hstr.mono ?_); rintro _ w10 ⟨rfl, hb10⟩; have hbo := hbb2.trans hb10; have hoA := own_below HO2.out (show Below wo.heap.size wo w10 by rw [hbb]; exact hbo); have hfz := hoA.frozenAt i.toNat; have hcz := (hoA.cellAt i.toNat (by omega)).trans (show (outs.map Value.string)[i.toNat]? = some (.string (outs.getD i.toNat ByteArray.empty)) by rw [List.getElem?_map, List.getElem?_eq_getElem (by omega), getD_str _ _ (by omega)]; rfl)))
                have hst := hoA.stored i.toNat (.string (sigB num m))
                go_roundw
                case rel => exact ⟨0 + 1, num, m, outs.set i.toNat (sigB num m), by omega, by simp, rfl, rfl, by omega, by omega, by rw [List.length_set]; exact hou, G3.out, by rw [List.map_set]; exact hst.1, (hb.trans (hbo.mono (by omega))).grown hst.2 (by have := hbo.size; omega) (fun k e => by cases e; exact Nat.le_refl _)⟩
                case measure => simp [intOf]; omega
          · have dk : decide ((k : Int) > 0) = true := decide_eq_true (by omega)
            have dk2 : decide (0 < k) = true := decide_eq_true (by omega)
            have G3 := Lib.hid g3
            rw [show decide (k = 0) = false by simpa using hk0] at g2 G3
            clear g3
            have hN : nextN false num long L = (num + 1) * 2 ^ (L - long) := rfl
            have hLL : nextL false long L = L := rfl
            rw [hLL] at G3
            obtain ⟨N, hNe⟩ : ∃ N, nextN false num long L = N := ⟨_, rfl⟩
            rw [hNe] at g2 G3 hN
            have hshl : wrap64 (((num : Int) + 1) * 2 ^ (L - long)) = (N : Int) := by
              rw [hN]
              have : (((num + 1) * 2 ^ (L - long) : Nat) : Int) = ((num : Int) + 1) * 2 ^ (L - long) := by push_cast; rfl
              rw [← this, ← hN]
              unfold wrap64; omega
            clear hN hNe hLL
            go_wp2
            rw [hshl]
            clear hshl
            obtain ⟨wo, rfl⟩ : ∃ wo : World, wo = wr := ⟨_, rfl⟩
            obtain ⟨bb, hbb⟩ : ∃ bb, wo.heap.size = bb := ⟨_, rfl⟩
            rw [hbb] at hfr hbf hws
            simp only [hbb]
            go_loopw [14] (fun p wr => ∃ (m : Nat) (z : Int), p = .int .i64 z ∧ z + (m : Int) + 1 = (L : Int) ∧ -1 ≤ z ∧ IsB bb (sigK N L m) wr ∧ Below bb wo wr) (fun p _ => (intOf p + 1).toNat)
            case atStart => exact ⟨0, (L : Int) - 1, rfl, by omega, by omega, hfr, hbf⟩
            case round =>
              clear hfr hbf
              obtain ⟨m, z, rfl, hz, hz1, hI, hbb2⟩ := hrel
              by_cases h0 : 0 ≤ z
              · have dz : decide (z ≥ 0) = true := decide_eq_true h0
                have dz64 : z ≤ 64 := by omega
                have hbit := bit_at N z m L hz h0
                have hnote := note_calls bb N L m wr hI (by omega)
                rcases Nat.mod_two_eq_zero_or_one (N / 2 ^ (L - 1 - m)) with h2 | h2
                · rw [bitB_zero _ _ h2] at hnote
                  rw [h2] at hbit
                  replace hbit : bits .and .i64 ((N : Int) / 2 ^ z.toNat) 1 = 0 := hbit
                  clear h2
                  go_wp2_with (first | (go_at_call 74; go_must (refine hnote.mono ?_); rintro _ w9 ⟨rfl, hI9, hb9⟩))
                  go_roundw
                  case rel => exact ⟨m + 1, z - 1, rfl, by omega, by omega, hI9, hbb2.trans hb9⟩
                  case measure => simp [intOf]; omega
                · rw [bitB_one _ _ h2] at hnote
                  rw [h2] at hbit
                  replace hbit : bits .and .i64 ((N : Int) / 2 ^ z.toNat) 1 = 1 := hbit
                  clear h2
                  go_wp2_with (first | (go_at_call 74; go_must (refine hnote.mono ?_); rintro _ w9 ⟨rfl, hI9, hb9⟩))
                  go_roundw
                  case rel => exact ⟨m + 1, z - 1, rfl, by omega, by omega, hI9, hbb2.trans hb9⟩
                  case measure => simp [intOf]; omega
              · have dz : decide (z ≥ 0) = false := decide_eq_false h0
                obtain rfl : m = L := by omega
                have hstr := Try.Builder_String_any bb bb (sigK N m m) wr hI (by have := hbb2.size; omega)
                have HO2 := Lib.hid ho
                clear ho
                go_wp2_with (first | (go_at_call 75; go_must (with_reducible refine hstr.mono ?_); rintro _ w10 ⟨rfl, hb10⟩; have hbo := hbb2.trans hb10; have hoA := own_below HO2.out (show Below wo.heap.size wo w10 by rw [hbb]; exact hbo); have hfz := hoA.frozenAt i.toNat; have hcz := (hoA.cellAt i.toNat (by omega)).trans (show (outs.map Value.string)[i.toNat]? = some (.string (outs.getD i.toNat ByteArray.empty)) by rw [List.getElem?_map, List.getElem?_eq_getElem (by omega), getD_str _ _ (by omega)]; rfl)))
                have hst := hoA.stored i.toNat (.string (sigB N m))
                go_roundw
                case rel => exact ⟨k + 1, N, m, outs.set i.toNat (sigB N m), by omega, by simp, rfl, rfl, by omega, by omega, by rw [List.length_set]; exact hou, G3.out, by rw [List.map_set]; exact hst.1, (hb.trans (hbo.mono (by omega))).grown hst.2 (by have := hbo.size; omega) (fun k e => by cases e; exact Nat.le_refl _)⟩
                case measure => simp [intOf]; omega
        · obtain rfl : k = l.length := by omega
          have hdk : decide ((l.length : Int) < (l.length : Int)) = false := decide_eq_false (by omega)
          have hgo := HGo.out
          rw [List.drop_eq_nil_of_le (by rw [ordL_len]; exact Nat.le_refl _)] at hgo
          unfold fromGo at hgo
          obtain rfl := Option.some.inj hgo
          clear hgo HGo
          go_wp2
          go_ret2
          refine ⟨_, rfl, ?_, hB7.trans (hb.mono (by omega))⟩
          rw [hou]
          exact owns_base2 ho (by omega)
theorem oneTo_parts {lo hi : Int} {l : List Int} (h : oneTo lo hi l = true) : 0 < l.length ∧ l.length ≤ 12 ∧ ∀ i : Int, 0 ≤ i → i < (l.length : Int) → lo ≤ rd l i ∧ rd l i ≤ hi := by
  unfold oneTo at h
  simp only [Bool.not_eq_true', Bool.or_eq_false_iff, decide_eq_false_iff_not, List.any_eq_false] at h
  obtain ⟨⟨h1, h2⟩, h3⟩ := h
  refine ⟨by omega, by omega, fun i h0 hi => ?_⟩
  have hm : rd l i ∈ l := by
    unfold rd
    rw [List.getD_eq_getElem?_getD, List.getElem?_eq_getElem (by omega)]
    exact List.getElem_mem _
  have := h3 _ hm
  unfold outW at this
  simp only [Bool.or_eq_true, decide_eq_true_eq] at this
  omega
end Go.Proofs.Ytpkafcoflgbnaaa.Q
