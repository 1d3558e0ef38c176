/- FromLengths: the order. -/
import Derived.Test.YtpkafcoflgbnaaaWLast
import Derived.Test.YtpkafcoflgbnaaaWMore
import Derived.Test.YtpkafcoflgbnaaaProg
import Derived.Test.YtpkafcoflgbnaaaShelf
import Derived.OwnWalk
import Derived.Handy
import Derived.Deep.DeepMust
import Derived.Lib.Hide
import Derived.Outline
import Derived.IntWalk
import Derived.Deep.RegionWith
import Derived.Test.YtpkafcoflgbnaaaWhF
import Derived.Deep.QuietTactic
import Derived.BigQuiet
import Derived.Sort.LotA
namespace Go.Proofs.Ytpkafcoflgbnaaa.Q
open Go.RowKit Go.Proofs.YtpkafcoflgbnaaaW.PrintWords Go.Proofs.YtpkafcoflgbnaaaW.PrintLast Go.Proofs.YtpkafcoflgbnaaaW.PrintMore Go.Shelf
set_option linter.unusedVariables false
set_option linter.unusedSimpArgs false
/-! FromLengths: the order of the lengths, by the library's stable sort of at most 12. -/
def cfN (l : List Int) (x y : Nat) : Int := Lib.compareInt (rd l ((x % l.length : Nat) : Int)) (rd l ((y % l.length : Nat) : Int))
def encN (n x : Nat) : Value := .int .i64 ((x % n : Nat) : Int)
def ordN (l : List Int) : Array Nat := Go.Sort.insertionSort (ltOf (cfN l)) (List.range l.length).toArray 0 l.length
/-- The comparison of FromLengths. -/
theorem cmp_calls (B : Nat) (A0 : Option Addr) (c0 : Nat) (l : List Int) (i k : Int) (W : World) (hB : W.cell? ⟨B, 0, none⟩ = some (.slice A0 l.length c0)) (hr0 : Kd.C (Kd.int .i64) W A0 l.length l) (hi0 : 0 ≤ i) (hi1 : i < (l.length : Int)) (hk0 : 0 ≤ k) (hk1 : k < (l.length : Int)) :
    Calls Try.prog 72 #[.int .i64 i, .int .i64 k, .pointer (some ⟨B, 0, none⟩)] W fun e w' => e = .returned (.int .i64 (Lib.compareInt (rd l i) (rd l k))) ∧ ∃ q, w' = W.drewN q := by
  obtain ⟨ad, e, hci⟩ := Kd.at_int hr0 i hi0 hi1
  obtain ⟨ad2, e2, hck⟩ := Kd.at_int hr0 k hk0 hk1
  subst e
  cases e2
  clear hr0
  have d1 := decide_eq_true hi0
  have d2 := decide_eq_true hi1
  have d3 := decide_eq_true hk0
  have d4 := decide_eq_true hk1
  go_enter Try.func72, Try.ntmps72
  go_wp2
  go_quiet ((go_at_call 73; exact Calls.quiet_of_same (Try.cmp_Compare_int _ _ _)))
  go_wp2
  first | go_end0 | go_returns | go_ret
  exact ⟨rfl, _, rfl⟩
theorem encN_one (n : Nat) : OneCell (encN n) := fun _ => rfl
theorem lt_cfN (l : List Int) (x y : Nat) : ltOf (cfN l) x y = decide (rd l ((x % l.length : Nat) : Int) < rd l ((y % l.length : Nat) : Int)) := by
  unfold ltOf cfN Lib.compareInt
  generalize rd l ((x % l.length : Nat) : Int) = a
  generalize rd l ((y % l.length : Nat) : Int) = b
  by_cases h : a < b
  · simp [h]
  · by_cases h2 : a > b <;> simp [h, h2]
theorem swo_cfN (l : List Int) : Go.Sort.SWO (ltOf (cfN l)) where
  irrefl := fun x => by rw [lt_cfN]; simp
  trans := fun x y z h1 h2 => by rw [lt_cfN, decide_eq_true_eq] at *; omega
  ntrans := fun x y z h1 h2 => by rw [lt_cfN, decide_eq_false_iff_not] at *; omega
theorem ordN_holds (l : List Int) : Go.Sort.PermIn 0 l.length (List.range l.length).toArray (ordN l) ∧ Go.Sort.SortedIn (ltOf (cfN l)) 0 l.length (ordN l) :=
  Go.Sort.insertionSort_holds (swo_cfN l) (List.range l.length).toArray 0 l.length (Nat.zero_le _) (by simp)
theorem ordN_size (l : List Int) : (ordN l).size = l.length := by rw [(ordN_holds l).1.1]; simp
theorem grown_sort {α : Type} [Inhabited α] (enc : α → Value) (W : World) (blk m : Nat) (dk : Array α) (os : Array Obj) : W.grownBy (sortWorld enc W blk 0 m dk os) (some blk) := by
  refine ⟨rfl, rfl, rfl, by simp [sortWorld, Go.Sort.grow, Go.Sort.putRow, Go.Sort.mapBlock, Go.Sort.ahead], fun k hk hne => ?_⟩
  have hn : blk ≠ k := fun e => hne (by rw [e])
  simp [sortWorld, Go.Sort.grow, Go.Sort.putRow, Go.Sort.mapBlock, Go.Sort.ahead, Array.getElem?_append, Array.getElem_modify, hn, hk]
/-- The library's stable sort of at most 12 numbers. -/
theorem stable_calls (w0 : World) (B blk : Nat) (A0 : Option Addr) (c0 cap : Nat) (l : List Int) (W : World) (hB : W.cell? ⟨B, 0, none⟩ = some (.slice A0 l.length c0)) (hBb : B ≠ blk) (hr0 : Kd.C (Kd.int .i64) w0 A0 l.length l) (hb0 : Below w0.heap.size w0 W) (hblk : w0.heap.size ≤ blk)
    (hl : 0 < l.length) (h12 : l.length ≤ 12) (hH : Go.Sort.Holds (encN l.length) W blk 0 (List.range l.length).toArray) :
    Calls Try.prog 71 #[.slice (some ⟨blk, 0, none⟩) l.length cap, .func (.func 72) #[] #[.pointer (some ⟨B, 0, none⟩)]] W fun e w' => e = .returned (.tuple #[]) ∧ ∃ n, w' = (Go.Sort.putRow (encN l.length) W blk 0 (ordN l)).drewN n := by
  have hcmp : CmpReads Try.prog 72 #[.pointer (some ⟨B, 0, none⟩)] (encN l.length) (cfN l) blk 0 (List.range l.length).toArray.size W := by
    intro m os dk hs x y
    have hg := grown_sort (encN l.length) W blk m dk os
    have hBB : B < W.heap.size := World.block_lt_of_cell? W _ hB
    have hcell := (hg.cell (a := ⟨B, 0, none⟩) hB (by intro e; injection e with e; exact hBb e))
    have hrow := Kd.C_below hr0 (hb0.grown hg hb0.size (fun k e => by cases e; exact hblk))
    exact cmp_calls B A0 c0 l _ _ _ hcell hrow (by omega) (by have := Nat.mod_lt x hl; omega) (by omega) (by have := Nat.mod_lt y hl; omega)
  have hins0 := Try.insertionSortCmpFunc_one (encN l.length) (encN_one _) (cfN l) 72 #[.pointer (some ⟨B, 0, none⟩)] blk 0 cap 0 l.length (List.range l.length).toArray W (enters_of Try.func72 (by kernel_rfl) rfl) hcmp hH (Nat.zero_le _) (by simp) (by simp; omega)
  have hsz : (List.range l.length).toArray.size = l.length := by simp
  rw [hsz] at hins0
  have hins : Calls Try.prog 115 #[.slice (some ⟨blk, 0, none⟩) l.length cap, .int .i64 0, .int .i64 l.length, .func (.func 72) #[] #[.pointer (some ⟨B, 0, none⟩)]] W fun e w' => e = .returned (.tuple #[]) ∧ ∃ n, w' = (Go.Sort.putRow (encN l.length) W blk 0 (ordN l)).drewN n := hins0
  clear hins0
  have hstab : Calls Try.prog 105 #[.slice (some ⟨blk, 0, none⟩) l.length cap, .int .i64 l.length, .func (.func 72) #[] #[.pointer (some ⟨B, 0, none⟩)]] W fun e w' => e = .returned (.tuple #[]) ∧ ∃ n, w' = (Go.Sort.putRow (encN l.length) W blk 0 (ordN l)).drewN n := by
    have d1 : decide ((20 : Int) ≤ (l.length : Int)) = false := decide_eq_false (by omega)
    have d2 : decide ((20 : Int) < (l.length : Int)) = false := decide_eq_false (by omega)
    clear hcmp hH hr0
    go_enter Try.func105, Try.ntmps105
    go_wp2
    refine wp_loop_rounds 1 ?_
    rw [rounds_succ]
    go_wp2_with (first | (go_at_call 115; go_must (with_reducible refine hins.mono ?_); rintro _ w1 ⟨rfl, n, rfl⟩))
    refine wp_loop_rounds 1 ?_
    rw [rounds_succ]
    go_wp2
    go_end0
    exact ⟨rfl, n, rfl⟩
  clear hcmp hH hr0
  go_enter Try.func71, Try.ntmps71
  go_wp2_with (first | (go_at_call 105; go_must (with_reducible refine hstab.mono ?_); rintro _ w1 ⟨rfl, n, rfl⟩))
  go_end0
  exact ⟨rfl, n, rfl⟩
end Go.Proofs.Ytpkafcoflgbnaaa.Q
