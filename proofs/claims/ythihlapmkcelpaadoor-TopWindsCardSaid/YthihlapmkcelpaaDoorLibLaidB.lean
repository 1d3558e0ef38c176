/- What a row's condition on the laid variables gives the walks, for the rows that list the tables of math/bits too. For all worlds that meet the condition. -/
import Derived.Test.YthihlapmkcelpaaDoorQx2
import Derived.Test.YthihlapmkcelpaaDoorQx16
import Derived.Test.YthihlapmkcelpaaDoorLibLaid
namespace Go.Proofs.YthihlapmkcelpaaDoor
open Go.RowKit

def laidB : List (String × DataW Unit) := [("math/bits.deBruijn32tab", Rows.laid_math_bits_deBruijn32tab), ("math/bits.deBruijn64tab", Rows.laid_math_bits_deBruijn64tab), ("unicode.White_Space", Rows.laid_unicode_White_Space), ("strings.asciiSpace", Rows.laid_strings_asciiSpace)]
theorem de_tab : (Rows.laid_math_bits_deBruijn64tab : DataW Unit) = Lib.tabData .u8 Q.deTab := by kernel_rfl
theorem spaceW_ofB {W : World} (h : laidMetH Tryd.prog laidB W) : Q.SpaceW W := by
  rw [MakeChecks.laidMetH_plain _ _ _ (by kernel_rfl)] at h
  have h2 := h.tail.tail.tail
  rw [ascii_tab] at h2
  exact Lib.tabIs_of_head (t := 108) (e := 5) (n := 256) spaceG (by kernel_rfl) (by kernel_rfl) (by kernel_rfl) (by kernel_rfl) (by kernel_rfl) h2
theorem bitsW_ofB {W : World} (h : laidMetH Tryd.prog laidB W) : Q.BitsW W := by
  rw [MakeChecks.laidMetH_plain _ _ _ (by kernel_rfl)] at h
  have h2 := h.tail
  unfold laidB at h2
  rw [de_tab] at h2
  exact Lib.tabIs_of_head (t := 120) (e := 5) (n := 64) Q.bitsG (by kernel_rfl) (by kernel_rfl) (by kernel_rfl) (by kernel_rfl) (by kernel_rfl) h2
/-- The door's own heap meets the condition. -/
theorem door_metB (os : Os) (args : Array Value) : laidMetH Tryd.prog laidB ((World.doorLaid Tryd.prog 400 os).forCall (fun _ _ => 0) ⟨#[], args, []⟩).memory :=
  laidMetH_of_parts3 (fuel := 8) (laidMet_of_run' 8 (by kernel_rfl) (by kernel_rfl)) (by kernel_rfl) (by kernel_rfl)

end Go.Proofs.YthihlapmkcelpaaDoor
