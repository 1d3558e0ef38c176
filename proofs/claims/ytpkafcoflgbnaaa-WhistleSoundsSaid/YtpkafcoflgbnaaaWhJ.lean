/- FromLengths, plainly. -/
import Derived.Test.YtpkafcoflgbnaaaWLast
import Derived.Test.YtpkafcoflgbnaaaWMore
import Derived.Test.YtpkafcoflgbnaaaProg
import Derived.Test.YtpkafcoflgbnaaaShelf
import Derived.OwnWalk
import Derived.Handy
import Derived.Deep.DeepMust
import Derived.Lib.Hide
import Derived.Outline
import Derived.IntWalk
import Derived.Deep.RegionWith
import Derived.Test.YtpkafcoflgbnaaaWhI
import Derived.Lib.OwnBridge
namespace Go.Proofs.Ytpkafcoflgbnaaa.Q
open Go.RowKit Go.Proofs.YtpkafcoflgbnaaaW.PrintWords Go.Proofs.YtpkafcoflgbnaaaW.PrintLast Go.Proofs.YtpkafcoflgbnaaaW.PrintMore Go.Shelf
set_option linter.unusedVariables false
set_option linter.unusedSimpArgs false
/-! FromLengths: plainly. -/
def bitB (num b : Nat) : UInt8 := if num / 2 ^ b % 2 = 1 then 45 else 46
/-- The first k notes of a signal. -/
def sigK (num long : Nat) : Nat → List UInt8
  | 0 => []
  | k + 1 => sigK num long k ++ [bitB num (long - 1 - k)]
def sigB (num long : Nat) : ByteArray := ⟨(sigK num long long).toArray⟩
def nextN (first : Bool) (num long li : Nat) : Nat := if first = true then num else (num + 1) * 2 ^ (li - long)
def nextL (first : Bool) (long li : Nat) : Nat := if first = true then long else li
def fromGo (l : List Int) : List Int → Bool → Nat → Nat → List ByteArray → Option (List ByteArray)
  | [], _, _, _, out => some out
  | i :: r, first, num, long, out =>
    if (decide (long ≤ (rd l i).toNat) && decide (nextN first num long (rd l i).toNat < 100000)) = true then fromGo l r false (nextN first num long (rd l i).toNat) (nextL first long (rd l i).toNat) (out.set i.toNat (sigB (nextN first num long (rd l i).toNat) (nextL first long (rd l i).toNat))) else none
def ordL (l : List Int) : List Int := (ordN l).toList.map fun x => ((x % l.length : Nat) : Int)
def fromL (l : List Int) : Option (List ByteArray) := fromGo l (ordL l) true 0 (rd l (rd (ordL l) 0)).toNat (List.replicate l.length ByteArray.empty)
theorem sigK_len (num long : Nat) : ∀ k, (sigK num long k).length = k
  | 0 => rfl
  | k + 1 => by show (sigK num long k ++ _).length = _; rw [List.length_append, sigK_len num long k]; rfl
theorem ordL_len (l : List Int) : (ordL l).length = l.length := by unfold ordL; rw [List.length_map, Array.length_toList, ordN_size]
/-- One signal, written note by note: the inner loop's byte. -/
theorem note_calls (b : Nat) (num long k : Nat) (W : World) (h : IsB b (sigK num long k) W) (hk : k ≤ 12) :
    Calls Try.prog 74 #[.pointer (some ⟨b, 0, none⟩), .int .u8 (bitB num (long - 1 - k)).toNat] W fun e w' => e = .returned .nilIface ∧ IsB b (sigK num long (k + 1)) w' ∧ Below b W w' := by
  have := wbyte_calls b (Lib.byteCells (sigK num long k)) ((bitB num (long - 1 - k)).toNat : Int) W h (by rw [Lib.byteCells_length, sigK_len]; omega)
  refine this.mono ?_
  rintro e w' ⟨rfl, h1, h2⟩
  refine ⟨rfl, ?_, h2⟩
  unfold IsB
  rw [show sigK num long (k + 1) = sigK num long k ++ [bitB num (long - 1 - k)] from rfl, Lib.byteCells_append]
  exact h1
/-- The rows of the call's own: the order, and what is returned. -/
theorem ord_row {w : World} {base g cap q n : Nat} {zs : List Nat} {ys : Array Nat} (h : w.ownsRow base 3 1 (.slice (some ⟨g, 0, none⟩) n cap) n (zs.map (encN n))) (hy : ys.size = n) :
    ((Go.Sort.putRow (encN n) w g 0 ys).drewN q).ownsRow base 3 1 (.slice (some ⟨g, 0, none⟩) n cap) n (ys.toList.map (encN n)) := by
  have := Go.Lib.ownsRow_putRow (q := q) (k := n) (ys := ys.toList) h (by simpa using hy) (Nat.le_refl _)
  rw [List.take_of_length_le (by simp; omega)] at this
  rw [← sortWorld_none]
  unfold sortWorld
  rw [Go.Sort.grow_empty]
  simpa using this
end Go.Proofs.Ytpkafcoflgbnaaa.Q
