import Derived.Test.YtpkafcoflgbnaaaQx0
import Derived.Test.YtpkafcoflgbnaaaLibC
namespace Go.Proofs.Ytpkafcoflgbnaaa.Pure
open Go.RowKit Go.Proofs.Ytpkafcoflgbnaaa.Q Go.Proofs.YtpkafcoflgbnaaaW.PrintWords Go.Proofs.YtpkafcoflgbnaaaW.PrintLast
set_option linter.unusedVariables false

/-! The bytes of a text. -/

def bs (s : ByteArray) : List UInt8 := s.data.toList
theorem bs_inj {a b : ByteArray} (h : bs a = bs b) : a = b := by
  rw [← str_eq, ByteArray.toList_eq, ByteArray.toList_eq]; exact h
theorem bs_mk (l : List UInt8) : bs ⟨l.toArray⟩ = l := by unfold bs; simp
theorem bs_len (s : ByteArray) : (bs s).length = s.size := Array.length_toList
theorem headB_iff {y x : ByteArray} : headB y x = true ↔ ∃ t, bs y = bs x ++ t := by
  unfold headB Lib.hasPrefix
  rw [List.isPrefixOf_iff_prefix]
  exact ⟨fun ⟨t, h⟩ => ⟨t, h.symm⟩, fun ⟨t, h⟩ => ⟨t, h.symm⟩⟩
theorem toList_bs (s : ByteArray) : s.toList = bs s := ByteArray.toList_eq s
theorem gt_mem {C : List ByteArray} {i : Nat} (h : i < C.length) : gt C i ∈ C := getD_mem h
theorem mem_gt {C : List ByteArray} {x : ByteArray} (h : x ∈ C) : ∃ i, i < C.length ∧ gt C i = x := mem_getD h
theorem bs_app (a b : ByteArray) : bs (a ++ b) = bs a ++ bs b := by
  unfold bs
  rw [ByteArray.data_append, Array.toList_append]
theorem bs_ext (s : ByteArray) (i j : Nat) : bs (s.extract i j) = ((bs s).take j).drop i := by
  unfold bs
  rw [ByteArray.data_extract, Array.toList_extract, List.extract_eq_take_drop, List.drop_take]
end Go.Proofs.Ytpkafcoflgbnaaa.Pure
