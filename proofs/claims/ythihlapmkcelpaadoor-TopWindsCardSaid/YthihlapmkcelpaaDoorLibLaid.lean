/- What a row's condition on the laid variables gives the walks (the table of spaces), and the door's witness. For all worlds that meet the condition. -/
import Derived.Test.YthihlapmkcelpaaDoorQx2
import Derived.Test.YthihlapmkcelpaaDoorRows
import Derived.Test.YthihlapmkcelpaaDoorTie
import Derived.ProofKit
import Derived.LaidMore
import Derived.OpenShut
import Derived.Stop.Joined
import Derived.Stop.LaidErr
import Derived.Lib.LaidTab
import Derived.SevenTiedAt
namespace Go.Proofs.YthihlapmkcelpaaDoor
open Go.RowKit

def laidA : List (String × DataW Unit) := [("unicode.White_Space", Rows.laid_unicode_White_Space), ("strings.asciiSpace", Rows.laid_strings_asciiSpace)]
theorem ascii_tab : (Rows.laid_strings_asciiSpace : DataW Unit) = Lib.tabData .u8 Lib.asciiSpaceTab := by kernel_rfl
theorem spaceG : Tryd.prog.globalNamed "strings.asciiSpace" = some 0 := by kernel_rfl
theorem spaceW_of {W : World} (h : laidMetH Tryd.prog laidA W) : Q.SpaceW W := by
  rw [MakeChecks.laidMetH_plain _ _ _ (by kernel_rfl)] at h
  have h2 := h.tail
  rw [ascii_tab] at h2
  exact Lib.tabIs_of_head (t := 108) (e := 5) (n := 256) spaceG (by kernel_rfl) (by kernel_rfl) (by kernel_rfl) (by kernel_rfl) (by kernel_rfl) h2
/-- The door's own heap meets the condition. -/
theorem door_metA (os : Os) (args : Array Value) : laidMetH Tryd.prog laidA ((World.doorLaid Tryd.prog 400 os).forCall (fun _ _ => 0) ⟨#[], args, []⟩).memory :=
  laidMetH_of_parts3 (fuel := 8) (laidMet_of_run' 8 (by kernel_rfl) (by kernel_rfl)) (by kernel_rfl) (by kernel_rfl)

end Go.Proofs.YthihlapmkcelpaaDoor
