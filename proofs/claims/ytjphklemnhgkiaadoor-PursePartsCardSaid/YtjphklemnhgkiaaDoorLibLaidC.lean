/- What a row's condition on the laid variables gives the walks (the tables of math/bits), and the door's witness. For all worlds that meet the condition. -/
import Derived.Test.YtjphklemnhgkiaaDoorRows
import Derived.Test.YtjphklemnhgkiaaDoorTie
import Derived.Test.YtjphklemnhgkiaaDoorPuA
import Derived.ProofKit
import Derived.LaidMore
import Derived.OpenShut
import Derived.Stop.Joined
import Derived.Stop.LaidErr
import Derived.Lib.LaidTab
import Derived.SevenTiedAt
namespace Go.Proofs.YtjphklemnhgkiaaDoor
open Go.RowKit

def laidC : List (String × DataW Unit) := [("math/bits.deBruijn32tab", Rows.laid_math_bits_deBruijn32tab), ("math/bits.deBruijn64tab", Rows.laid_math_bits_deBruijn64tab)]
theorem de_tab : (Rows.laid_math_bits_deBruijn64tab : DataW Unit) = Lib.tabData .u8 Q.deTab := by kernel_rfl
theorem bitsW_of {W : World} (h : laidMetH Tryd.prog laidC W) : Q.BitsW W := by
  rw [MakeChecks.laidMetH_plain _ _ _ (by kernel_rfl)] at h
  have h2 := h.tail
  unfold laidC at h2
  rw [de_tab] at h2
  exact Lib.tabIs_of_head (t := 106) (e := 5) (n := 64) Q.bitsG (by kernel_rfl) (by kernel_rfl) (by kernel_rfl) (by kernel_rfl) (by kernel_rfl) h2
/-- The door's own heap meets the condition. -/
theorem door_metC (os : Os) (args : Array Value) : laidMetH Tryd.prog laidC ((World.doorLaid Tryd.prog 400 os).forCall (fun _ _ => 0) ⟨#[], args, []⟩).memory :=
  laidMetH_of_parts3 (fuel := 8) (laidMet_of_run' 8 (by kernel_rfl) (by kernel_rfl)) (by kernel_rfl) (by kernel_rfl)

end Go.Proofs.YtjphklemnhgkiaaDoor
