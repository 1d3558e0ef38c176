/-
  NARROWER THAN 'FOR EVERY INPUT', by the rows' own cells (each row's printed sentence says how): PurseBalances: laid · PurseWeighs: laid · PurseShapleys: laid · PurseParts: laid · PurseChecks: laid · PurseExcesses: laid · PurseAdds: laid · PurseCores: laid · PurseDividends: laid · PurseMarginals: laid · PurseKinds: laid · TopPurse: laid.
  DERIVED. THE GIVEN ROWS OF THIS SEAT. 12 by the template 'for every input the law returns true; each argument reads behind the call as it read before'; 0 by the template 'total and deterministic' (their statements: YtjphklemnhgkiaaDoorTotals.lean).
  GIVEN WITH THE SEED: the statements are not yours to turn. If you find one false, say at which input.
  Laid BY PROGRAM, IN A SANDBOX (cutbox-rows.mjs): the forced cells as the released guide's own fill.sh prints them over the translation b17bf1255ff1753d… (all of the seat's roots in one cut). By AI agents, Wed Nov 11 2026. No macro, syntax, notation, axiom, sorry.
-/
import Derived.Test.YtjphklemnhgkiaaDoorChecked
import GoSem.Claim
import GoSem.ClaimJoined
import GoSem.ClaimMapViews
import Derived.JoinedTies
import Derived.KernelRfl
namespace Go.Proofs.YtjphklemnhgkiaaDoor
/- THE CELL 'sum', in the pinned program and in every row, IS THE sha256 OF THE DUMP (.gsa) THAT YtjphklemnhgkiaaDoorProg.lean LOADS. Nothing in Lean hashes anything: it is a label: what it is worth is what the hold of that sum in a sandbox is worth. -/
noncomputable def Tryd.pinned : Pinned := { name := "ytjphklemnhgkiaadoor", sum := "b17bf1255ff1753d351905a6defa3708625669b6f03864adf02da13b50e61a89", checked := Tryd.checked }
namespace Rows
def none {H : Type} : Left H := { results := [], args := [] }

/- WHAT THE LISTED PACKAGE-LEVEL VARIABLES READ AS WHEN THE CALL BEGINS. Each datum BY PROGRAM (the guide's laid-datum.mjs) off the statement by which the dump's own 'gosem.cut.vars' lays the variable. In a bare row this is a premise. The card (YtjphklemnhgkiaaDoorCards.lean) ties it to the program's text. -/
def laid_math_bits_deBruijn32tab {H : Type} : DataW H := .agg [.lit (.int .u8 0), .lit (.int .u8 1), .lit (.int .u8 28), .lit (.int .u8 2), .lit (.int .u8 29), .lit (.int .u8 14), .lit (.int .u8 24), .lit (.int .u8 3), .lit (.int .u8 30), .lit (.int .u8 22), .lit (.int .u8 20), .lit (.int .u8 15), .lit (.int .u8 25), .lit (.int .u8 17), .lit (.int .u8 4), .lit (.int .u8 8), .lit (.int .u8 31), .lit (.int .u8 27), .lit (.int .u8 13), .lit (.int .u8 23), .lit (.int .u8 21), .lit (.int .u8 19), .lit (.int .u8 16), .lit (.int .u8 7), .lit (.int .u8 26), .lit (.int .u8 12), .lit (.int .u8 18), .lit (.int .u8 6), .lit (.int .u8 11), .lit (.int .u8 5), .lit (.int .u8 10), .lit (.int .u8 9)]
def laid_math_bits_deBruijn64tab {H : Type} : DataW H := .agg [.lit (.int .u8 0), .lit (.int .u8 1), .lit (.int .u8 56), .lit (.int .u8 2), .lit (.int .u8 57), .lit (.int .u8 49), .lit (.int .u8 28), .lit (.int .u8 3), .lit (.int .u8 61), .lit (.int .u8 58), .lit (.int .u8 42), .lit (.int .u8 50), .lit (.int .u8 38), .lit (.int .u8 29), .lit (.int .u8 17), .lit (.int .u8 4), .lit (.int .u8 62), .lit (.int .u8 47), .lit (.int .u8 59), .lit (.int .u8 36), .lit (.int .u8 45), .lit (.int .u8 43), .lit (.int .u8 51), .lit (.int .u8 22), .lit (.int .u8 53), .lit (.int .u8 39), .lit (.int .u8 33), .lit (.int .u8 30), .lit (.int .u8 24), .lit (.int .u8 18), .lit (.int .u8 12), .lit (.int .u8 5), .lit (.int .u8 63), .lit (.int .u8 55), .lit (.int .u8 48), .lit (.int .u8 27), .lit (.int .u8 60), .lit (.int .u8 41), .lit (.int .u8 37), .lit (.int .u8 16), .lit (.int .u8 46), .lit (.int .u8 35), .lit (.int .u8 44), .lit (.int .u8 21), .lit (.int .u8 52), .lit (.int .u8 32), .lit (.int .u8 23), .lit (.int .u8 11), .lit (.int .u8 54), .lit (.int .u8 26), .lit (.int .u8 40), .lit (.int .u8 15), .lit (.int .u8 34), .lit (.int .u8 20), .lit (.int .u8 31), .lit (.int .u8 10), .lit (.int .u8 25), .lit (.int .u8 14), .lit (.int .u8 19), .lit (.int .u8 9), .lit (.int .u8 13), .lit (.int .u8 8), .lit (.int .u8 7), .lit (.int .u8 6)]

/-- 'wigeonlaw08.PurseBalances': WHATEVER THE INPUT: true; the input reads as it did. -/
def purseBalancesSpec : ChangeSpec := { name := "purseBalances", fn := fun _ => fun
  | [d1, d2] => { results := [.lit (.bool true)], args := [d1, d2] }
  | _ => none }
def purseBalancesRow : OpenClaim := { program := "ytjphklemnhgkiaadoor", sum := "b17bf1255ff1753d351905a6defa3708625669b6f03864adf02da13b50e61a89", func := "wigeon/wigeonlaw08.PurseBalances", spec := "purseBalances", unfollowed := true, recurses := true, named := ["math/bits.deBruijn32tab", "math/bits.deBruijn64tab"], apart := false, laid := [("math/bits.deBruijn32tab", laid_math_bits_deBruijn32tab), ("math/bits.deBruijn64tab", laid_math_bits_deBruijn64tab)] }
def PurseBalancesSaid : Prop := purseBalancesRow.holds Tryd.pinned (OpenSpec.ofChange purseBalancesSpec)

/-- ITS FALSE NEIGHBOUR: 'it returns false'. Refute it at one input. -/
def purseBalancesWrong : ChangeSpec := { name := "purseBalances", fn := fun _ => fun
  | [d1, d2] => { results := [.lit (.bool false)], args := [d1, d2] }
  | _ => none }
def PurseBalancesWrongFalsely : Prop := purseBalancesRow.holds Tryd.pinned (OpenSpec.ofChange purseBalancesWrong)

/-- 'wigeonlaw08.PurseWeighs': WHATEVER THE INPUT: true; the input reads as it did. -/
def purseWeighsSpec : ChangeSpec := { name := "purseWeighs", fn := fun _ => fun
  | [d1, d2, d3] => { results := [.lit (.bool true)], args := [d1, d2, d3] }
  | _ => none }
def purseWeighsRow : OpenClaim := { program := "ytjphklemnhgkiaadoor", sum := "b17bf1255ff1753d351905a6defa3708625669b6f03864adf02da13b50e61a89", func := "wigeon/wigeonlaw08.PurseWeighs", spec := "purseWeighs", unfollowed := true, recurses := true, named := ["math/bits.deBruijn32tab", "math/bits.deBruijn64tab"], apart := false, laid := [("math/bits.deBruijn32tab", laid_math_bits_deBruijn32tab), ("math/bits.deBruijn64tab", laid_math_bits_deBruijn64tab)] }
def PurseWeighsSaid : Prop := purseWeighsRow.holds Tryd.pinned (OpenSpec.ofChange purseWeighsSpec)

/-- ITS FALSE NEIGHBOUR: 'it returns false'. Refute it at one input. -/
def purseWeighsWrong : ChangeSpec := { name := "purseWeighs", fn := fun _ => fun
  | [d1, d2, d3] => { results := [.lit (.bool false)], args := [d1, d2, d3] }
  | _ => none }
def PurseWeighsWrongFalsely : Prop := purseWeighsRow.holds Tryd.pinned (OpenSpec.ofChange purseWeighsWrong)

/-- 'wigeonlaw08.PurseShapleys': WHATEVER THE INPUT: true; the input reads as it did. -/
def purseShapleysSpec : ChangeSpec := { name := "purseShapleys", fn := fun _ => fun
  | [d] => { results := [.lit (.bool true)], args := [d] }
  | _ => none }
def purseShapleysRow : OpenClaim := { program := "ytjphklemnhgkiaadoor", sum := "b17bf1255ff1753d351905a6defa3708625669b6f03864adf02da13b50e61a89", func := "wigeon/wigeonlaw08.PurseShapleys", spec := "purseShapleys", unfollowed := true, recurses := true, named := ["math/bits.deBruijn32tab", "math/bits.deBruijn64tab"], apart := false, laid := [("math/bits.deBruijn32tab", laid_math_bits_deBruijn32tab), ("math/bits.deBruijn64tab", laid_math_bits_deBruijn64tab)] }
def PurseShapleysSaid : Prop := purseShapleysRow.holds Tryd.pinned (OpenSpec.ofChange purseShapleysSpec)

/-- ITS FALSE NEIGHBOUR: 'it returns false'. Refute it at one input. -/
def purseShapleysWrong : ChangeSpec := { name := "purseShapleys", fn := fun _ => fun
  | [d] => { results := [.lit (.bool false)], args := [d] }
  | _ => none }
def PurseShapleysWrongFalsely : Prop := purseShapleysRow.holds Tryd.pinned (OpenSpec.ofChange purseShapleysWrong)

/-- 'wigeonlaw08.PurseParts': WHATEVER THE INPUT: true; the input reads as it did. -/
def pursePartsSpec : ChangeSpec := { name := "purseParts", fn := fun _ => fun
  | [d] => { results := [.lit (.bool true)], args := [d] }
  | _ => none }
def pursePartsRow : OpenClaim := { program := "ytjphklemnhgkiaadoor", sum := "b17bf1255ff1753d351905a6defa3708625669b6f03864adf02da13b50e61a89", func := "wigeon/wigeonlaw08.PurseParts", spec := "purseParts", unfollowed := true, recurses := true, named := ["math/bits.deBruijn32tab", "math/bits.deBruijn64tab"], apart := false, laid := [("math/bits.deBruijn32tab", laid_math_bits_deBruijn32tab), ("math/bits.deBruijn64tab", laid_math_bits_deBruijn64tab)] }
def PursePartsSaid : Prop := pursePartsRow.holds Tryd.pinned (OpenSpec.ofChange pursePartsSpec)

/-- ITS FALSE NEIGHBOUR: 'it returns false'. Refute it at one input. -/
def pursePartsWrong : ChangeSpec := { name := "purseParts", fn := fun _ => fun
  | [d] => { results := [.lit (.bool false)], args := [d] }
  | _ => none }
def PursePartsWrongFalsely : Prop := pursePartsRow.holds Tryd.pinned (OpenSpec.ofChange pursePartsWrong)

/-- 'wigeonlaw08.PurseChecks': WHATEVER THE INPUT: true; the input reads as it did. -/
def purseChecksSpec : ChangeSpec := { name := "purseChecks", fn := fun _ => fun
  | [d1, d2] => { results := [.lit (.bool true)], args := [d1, d2] }
  | _ => none }
def purseChecksRow : OpenClaim := { program := "ytjphklemnhgkiaadoor", sum := "b17bf1255ff1753d351905a6defa3708625669b6f03864adf02da13b50e61a89", func := "wigeon/wigeonlaw08.PurseChecks", spec := "purseChecks", unfollowed := true, recurses := true, named := ["math/bits.deBruijn32tab", "math/bits.deBruijn64tab"], apart := false, laid := [("math/bits.deBruijn32tab", laid_math_bits_deBruijn32tab), ("math/bits.deBruijn64tab", laid_math_bits_deBruijn64tab)] }
def PurseChecksSaid : Prop := purseChecksRow.holds Tryd.pinned (OpenSpec.ofChange purseChecksSpec)

/-- ITS FALSE NEIGHBOUR: 'it returns false'. Refute it at one input. -/
def purseChecksWrong : ChangeSpec := { name := "purseChecks", fn := fun _ => fun
  | [d1, d2] => { results := [.lit (.bool false)], args := [d1, d2] }
  | _ => none }
def PurseChecksWrongFalsely : Prop := purseChecksRow.holds Tryd.pinned (OpenSpec.ofChange purseChecksWrong)

/-- 'wigeonlaw08.PurseExcesses': WHATEVER THE INPUT: true; the input reads as it did. -/
def purseExcessesSpec : ChangeSpec := { name := "purseExcesses", fn := fun _ => fun
  | [d1, d2] => { results := [.lit (.bool true)], args := [d1, d2] }
  | _ => none }
def purseExcessesRow : OpenClaim := { program := "ytjphklemnhgkiaadoor", sum := "b17bf1255ff1753d351905a6defa3708625669b6f03864adf02da13b50e61a89", func := "wigeon/wigeonlaw08.PurseExcesses", spec := "purseExcesses", unfollowed := true, recurses := true, named := ["math/bits.deBruijn32tab", "math/bits.deBruijn64tab"], apart := false, laid := [("math/bits.deBruijn32tab", laid_math_bits_deBruijn32tab), ("math/bits.deBruijn64tab", laid_math_bits_deBruijn64tab)] }
def PurseExcessesSaid : Prop := purseExcessesRow.holds Tryd.pinned (OpenSpec.ofChange purseExcessesSpec)

/-- ITS FALSE NEIGHBOUR: 'it returns false'. Refute it at one input. -/
def purseExcessesWrong : ChangeSpec := { name := "purseExcesses", fn := fun _ => fun
  | [d1, d2] => { results := [.lit (.bool false)], args := [d1, d2] }
  | _ => none }
def PurseExcessesWrongFalsely : Prop := purseExcessesRow.holds Tryd.pinned (OpenSpec.ofChange purseExcessesWrong)

/-- 'wigeonlaw08.PurseAdds': WHATEVER THE INPUT: true; the input reads as it did. -/
def purseAddsSpec : ChangeSpec := { name := "purseAdds", fn := fun _ => fun
  | [d1, d2] => { results := [.lit (.bool true)], args := [d1, d2] }
  | _ => none }
def purseAddsRow : OpenClaim := { program := "ytjphklemnhgkiaadoor", sum := "b17bf1255ff1753d351905a6defa3708625669b6f03864adf02da13b50e61a89", func := "wigeon/wigeonlaw08.PurseAdds", spec := "purseAdds", unfollowed := true, recurses := true, named := ["math/bits.deBruijn32tab", "math/bits.deBruijn64tab"], apart := false, laid := [("math/bits.deBruijn32tab", laid_math_bits_deBruijn32tab), ("math/bits.deBruijn64tab", laid_math_bits_deBruijn64tab)] }
def PurseAddsSaid : Prop := purseAddsRow.holds Tryd.pinned (OpenSpec.ofChange purseAddsSpec)

/-- ITS FALSE NEIGHBOUR: 'it returns false'. Refute it at one input. -/
def purseAddsWrong : ChangeSpec := { name := "purseAdds", fn := fun _ => fun
  | [d1, d2] => { results := [.lit (.bool false)], args := [d1, d2] }
  | _ => none }
def PurseAddsWrongFalsely : Prop := purseAddsRow.holds Tryd.pinned (OpenSpec.ofChange purseAddsWrong)

/-- 'wigeonlaw08.PurseCores': WHATEVER THE INPUT: true; the input reads as it did. -/
def purseCoresSpec : ChangeSpec := { name := "purseCores", fn := fun _ => fun
  | [d] => { results := [.lit (.bool true)], args := [d] }
  | _ => none }
def purseCoresRow : OpenClaim := { program := "ytjphklemnhgkiaadoor", sum := "b17bf1255ff1753d351905a6defa3708625669b6f03864adf02da13b50e61a89", func := "wigeon/wigeonlaw08.PurseCores", spec := "purseCores", unfollowed := true, recurses := true, named := ["math/bits.deBruijn32tab", "math/bits.deBruijn64tab"], apart := false, laid := [("math/bits.deBruijn32tab", laid_math_bits_deBruijn32tab), ("math/bits.deBruijn64tab", laid_math_bits_deBruijn64tab)] }
def PurseCoresSaid : Prop := purseCoresRow.holds Tryd.pinned (OpenSpec.ofChange purseCoresSpec)

/-- ITS FALSE NEIGHBOUR: 'it returns false'. Refute it at one input. -/
def purseCoresWrong : ChangeSpec := { name := "purseCores", fn := fun _ => fun
  | [d] => { results := [.lit (.bool false)], args := [d] }
  | _ => none }
def PurseCoresWrongFalsely : Prop := purseCoresRow.holds Tryd.pinned (OpenSpec.ofChange purseCoresWrong)

/-- 'wigeonlaw08.PurseDividends': WHATEVER THE INPUT: true; the input reads as it did. -/
def purseDividendsSpec : ChangeSpec := { name := "purseDividends", fn := fun _ => fun
  | [d1, d2] => { results := [.lit (.bool true)], args := [d1, d2] }
  | _ => none }
def purseDividendsRow : OpenClaim := { program := "ytjphklemnhgkiaadoor", sum := "b17bf1255ff1753d351905a6defa3708625669b6f03864adf02da13b50e61a89", func := "wigeon/wigeonlaw08.PurseDividends", spec := "purseDividends", unfollowed := true, recurses := true, named := ["math/bits.deBruijn32tab", "math/bits.deBruijn64tab"], apart := false, laid := [("math/bits.deBruijn32tab", laid_math_bits_deBruijn32tab), ("math/bits.deBruijn64tab", laid_math_bits_deBruijn64tab)] }
def PurseDividendsSaid : Prop := purseDividendsRow.holds Tryd.pinned (OpenSpec.ofChange purseDividendsSpec)

/-- ITS FALSE NEIGHBOUR: 'it returns false'. Refute it at one input. -/
def purseDividendsWrong : ChangeSpec := { name := "purseDividends", fn := fun _ => fun
  | [d1, d2] => { results := [.lit (.bool false)], args := [d1, d2] }
  | _ => none }
def PurseDividendsWrongFalsely : Prop := purseDividendsRow.holds Tryd.pinned (OpenSpec.ofChange purseDividendsWrong)

/-- 'wigeonlaw08.PurseMarginals': WHATEVER THE INPUT: true; the input reads as it did. -/
def purseMarginalsSpec : ChangeSpec := { name := "purseMarginals", fn := fun _ => fun
  | [d1, d2] => { results := [.lit (.bool true)], args := [d1, d2] }
  | _ => none }
def purseMarginalsRow : OpenClaim := { program := "ytjphklemnhgkiaadoor", sum := "b17bf1255ff1753d351905a6defa3708625669b6f03864adf02da13b50e61a89", func := "wigeon/wigeonlaw08.PurseMarginals", spec := "purseMarginals", unfollowed := true, recurses := true, named := ["math/bits.deBruijn32tab", "math/bits.deBruijn64tab"], apart := false, laid := [("math/bits.deBruijn32tab", laid_math_bits_deBruijn32tab), ("math/bits.deBruijn64tab", laid_math_bits_deBruijn64tab)] }
def PurseMarginalsSaid : Prop := purseMarginalsRow.holds Tryd.pinned (OpenSpec.ofChange purseMarginalsSpec)

/-- ITS FALSE NEIGHBOUR: 'it returns false'. Refute it at one input. -/
def purseMarginalsWrong : ChangeSpec := { name := "purseMarginals", fn := fun _ => fun
  | [d1, d2] => { results := [.lit (.bool false)], args := [d1, d2] }
  | _ => none }
def PurseMarginalsWrongFalsely : Prop := purseMarginalsRow.holds Tryd.pinned (OpenSpec.ofChange purseMarginalsWrong)

/-- 'wigeonlaw08.PurseKinds': WHATEVER THE INPUT: true; the input reads as it did. -/
def purseKindsSpec : ChangeSpec := { name := "purseKinds", fn := fun _ => fun
  | [d1, d2] => { results := [.lit (.bool true)], args := [d1, d2] }
  | _ => none }
def purseKindsRow : OpenClaim := { program := "ytjphklemnhgkiaadoor", sum := "b17bf1255ff1753d351905a6defa3708625669b6f03864adf02da13b50e61a89", func := "wigeon/wigeonlaw08.PurseKinds", spec := "purseKinds", unfollowed := true, recurses := true, named := ["math/bits.deBruijn32tab", "math/bits.deBruijn64tab"], apart := false, laid := [("math/bits.deBruijn32tab", laid_math_bits_deBruijn32tab), ("math/bits.deBruijn64tab", laid_math_bits_deBruijn64tab)] }
def PurseKindsSaid : Prop := purseKindsRow.holds Tryd.pinned (OpenSpec.ofChange purseKindsSpec)

/-- ITS FALSE NEIGHBOUR: 'it returns false'. Refute it at one input. -/
def purseKindsWrong : ChangeSpec := { name := "purseKinds", fn := fun _ => fun
  | [d1, d2] => { results := [.lit (.bool false)], args := [d1, d2] }
  | _ => none }
def PurseKindsWrongFalsely : Prop := purseKindsRow.holds Tryd.pinned (OpenSpec.ofChange purseKindsWrong)

/-- 'wigeontop.TopPurse': WHATEVER THE INPUT: true; the input reads as it did. -/
def topPurseSpec : ChangeSpec := { name := "topPurse", fn := fun _ => fun
  | [d1, d2] => { results := [.lit (.bool true)], args := [d1, d2] }
  | _ => none }
def topPurseRow : OpenClaim := { program := "ytjphklemnhgkiaadoor", sum := "b17bf1255ff1753d351905a6defa3708625669b6f03864adf02da13b50e61a89", func := "wigeon/wigeontop.TopPurse", spec := "topPurse", unfollowed := true, recurses := true, named := ["math/bits.deBruijn32tab", "math/bits.deBruijn64tab"], apart := false, laid := [("math/bits.deBruijn32tab", laid_math_bits_deBruijn32tab), ("math/bits.deBruijn64tab", laid_math_bits_deBruijn64tab)] }
def TopPurseSaid : Prop := topPurseRow.holds Tryd.pinned (OpenSpec.ofChange topPurseSpec)

/-- ITS FALSE NEIGHBOUR: 'it returns false'. Refute it at one input. -/
def topPurseWrong : ChangeSpec := { name := "topPurse", fn := fun _ => fun
  | [d1, d2] => { results := [.lit (.bool false)], args := [d1, d2] }
  | _ => none }
def TopPurseWrongFalsely : Prop := topPurseRow.holds Tryd.pinned (OpenSpec.ofChange topPurseWrong)

/- THE SECOND FORM. 'bulk': how many values and letters a reading holds, each counted each time it is reached (what is shared counts as often as it is met; a slice's spare places count too). A statement '..UptoSaid' is the law's where the arguments, and the package variables that the reading takes, are together of bulk at most 1048576: NARROWER than '..Said'. Prove '..Said' where nothing that the law and all that it calls make is longer than what came in: it says more and counts as full. Else prove '..UptoSaid'. A law counts once. -/
mutual
def uptoBulk {H : Type} : DataW H → Nat
  | .lit (.string bytes) => bytes.length + 1
  | .lit _ => 1
  | .nil => 1
  | .ptr d => uptoBulk d + 1
  | .slice elems spare => uptoBulkAll elems + uptoBulkAll spare + 1
  | .agg parts => uptoBulkAll parts + 1
  | .iface _ d => uptoBulk d + 1
  | .map entries => uptoBulkEntries entries + 1
  | .held _ => 1
def uptoBulkAll {H : Type} : List (DataW H) → Nat
  | [] => 0
  | d :: r => uptoBulk d + uptoBulkAll r
def uptoBulkEntries {H : Type} : List (Lit × DataW H) → Nat
  | [] => 0
  | x :: r => uptoBulkEntry x + uptoBulkEntries r
def uptoBulkEntry {H : Type} : Lit × DataW H → Nat
  | (.string bytes, d) => bytes.length + uptoBulk d + 1
  | (_, d) => uptoBulk d + 1
 end
def uptoSmall : (H : Type) → List (DataW H) → Bool := fun _ ds => decide (uptoBulkAll ds ≤ 1048576)
def OpenSpec.upto (s : _root_.Go.ChangeSpec) : _root_.Go.OpenSpec := { _root_.Go.OpenSpec.ofChange s with cond := some uptoSmall }

/-- 'wigeonlaw08.PurseBalances', WHERE WHAT IT READS IS OF BULK AT MOST 1048576: true; the input reads as it did. -/
def purseBalancesUptoRow : OpenClaim := { program := "ytjphklemnhgkiaadoor", sum := "b17bf1255ff1753d351905a6defa3708625669b6f03864adf02da13b50e61a89", func := "wigeon/wigeonlaw08.PurseBalances", spec := "purseBalances", unfollowed := true, recurses := true, named := ["math/bits.deBruijn32tab", "math/bits.deBruijn64tab"], apart := false, laid := [("math/bits.deBruijn32tab", laid_math_bits_deBruijn32tab), ("math/bits.deBruijn64tab", laid_math_bits_deBruijn64tab)], narrowed := true }
def PurseBalancesUptoSaid : Prop := purseBalancesUptoRow.holds Tryd.pinned (OpenSpec.upto purseBalancesSpec)

/-- 'wigeonlaw08.PurseWeighs', WHERE WHAT IT READS IS OF BULK AT MOST 1048576: true; the input reads as it did. -/
def purseWeighsUptoRow : OpenClaim := { program := "ytjphklemnhgkiaadoor", sum := "b17bf1255ff1753d351905a6defa3708625669b6f03864adf02da13b50e61a89", func := "wigeon/wigeonlaw08.PurseWeighs", spec := "purseWeighs", unfollowed := true, recurses := true, named := ["math/bits.deBruijn32tab", "math/bits.deBruijn64tab"], apart := false, laid := [("math/bits.deBruijn32tab", laid_math_bits_deBruijn32tab), ("math/bits.deBruijn64tab", laid_math_bits_deBruijn64tab)], narrowed := true }
def PurseWeighsUptoSaid : Prop := purseWeighsUptoRow.holds Tryd.pinned (OpenSpec.upto purseWeighsSpec)

/-- 'wigeonlaw08.PurseShapleys', WHERE WHAT IT READS IS OF BULK AT MOST 1048576: true; the input reads as it did. -/
def purseShapleysUptoRow : OpenClaim := { program := "ytjphklemnhgkiaadoor", sum := "b17bf1255ff1753d351905a6defa3708625669b6f03864adf02da13b50e61a89", func := "wigeon/wigeonlaw08.PurseShapleys", spec := "purseShapleys", unfollowed := true, recurses := true, named := ["math/bits.deBruijn32tab", "math/bits.deBruijn64tab"], apart := false, laid := [("math/bits.deBruijn32tab", laid_math_bits_deBruijn32tab), ("math/bits.deBruijn64tab", laid_math_bits_deBruijn64tab)], narrowed := true }
def PurseShapleysUptoSaid : Prop := purseShapleysUptoRow.holds Tryd.pinned (OpenSpec.upto purseShapleysSpec)

/-- 'wigeonlaw08.PurseParts', WHERE WHAT IT READS IS OF BULK AT MOST 1048576: true; the input reads as it did. -/
def pursePartsUptoRow : OpenClaim := { program := "ytjphklemnhgkiaadoor", sum := "b17bf1255ff1753d351905a6defa3708625669b6f03864adf02da13b50e61a89", func := "wigeon/wigeonlaw08.PurseParts", spec := "purseParts", unfollowed := true, recurses := true, named := ["math/bits.deBruijn32tab", "math/bits.deBruijn64tab"], apart := false, laid := [("math/bits.deBruijn32tab", laid_math_bits_deBruijn32tab), ("math/bits.deBruijn64tab", laid_math_bits_deBruijn64tab)], narrowed := true }
def PursePartsUptoSaid : Prop := pursePartsUptoRow.holds Tryd.pinned (OpenSpec.upto pursePartsSpec)

/-- 'wigeonlaw08.PurseChecks', WHERE WHAT IT READS IS OF BULK AT MOST 1048576: true; the input reads as it did. -/
def purseChecksUptoRow : OpenClaim := { program := "ytjphklemnhgkiaadoor", sum := "b17bf1255ff1753d351905a6defa3708625669b6f03864adf02da13b50e61a89", func := "wigeon/wigeonlaw08.PurseChecks", spec := "purseChecks", unfollowed := true, recurses := true, named := ["math/bits.deBruijn32tab", "math/bits.deBruijn64tab"], apart := false, laid := [("math/bits.deBruijn32tab", laid_math_bits_deBruijn32tab), ("math/bits.deBruijn64tab", laid_math_bits_deBruijn64tab)], narrowed := true }
def PurseChecksUptoSaid : Prop := purseChecksUptoRow.holds Tryd.pinned (OpenSpec.upto purseChecksSpec)

/-- 'wigeonlaw08.PurseExcesses', WHERE WHAT IT READS IS OF BULK AT MOST 1048576: true; the input reads as it did. -/
def purseExcessesUptoRow : OpenClaim := { program := "ytjphklemnhgkiaadoor", sum := "b17bf1255ff1753d351905a6defa3708625669b6f03864adf02da13b50e61a89", func := "wigeon/wigeonlaw08.PurseExcesses", spec := "purseExcesses", unfollowed := true, recurses := true, named := ["math/bits.deBruijn32tab", "math/bits.deBruijn64tab"], apart := false, laid := [("math/bits.deBruijn32tab", laid_math_bits_deBruijn32tab), ("math/bits.deBruijn64tab", laid_math_bits_deBruijn64tab)], narrowed := true }
def PurseExcessesUptoSaid : Prop := purseExcessesUptoRow.holds Tryd.pinned (OpenSpec.upto purseExcessesSpec)

/-- 'wigeonlaw08.PurseAdds', WHERE WHAT IT READS IS OF BULK AT MOST 1048576: true; the input reads as it did. -/
def purseAddsUptoRow : OpenClaim := { program := "ytjphklemnhgkiaadoor", sum := "b17bf1255ff1753d351905a6defa3708625669b6f03864adf02da13b50e61a89", func := "wigeon/wigeonlaw08.PurseAdds", spec := "purseAdds", unfollowed := true, recurses := true, named := ["math/bits.deBruijn32tab", "math/bits.deBruijn64tab"], apart := false, laid := [("math/bits.deBruijn32tab", laid_math_bits_deBruijn32tab), ("math/bits.deBruijn64tab", laid_math_bits_deBruijn64tab)], narrowed := true }
def PurseAddsUptoSaid : Prop := purseAddsUptoRow.holds Tryd.pinned (OpenSpec.upto purseAddsSpec)

/-- 'wigeonlaw08.PurseCores', WHERE WHAT IT READS IS OF BULK AT MOST 1048576: true; the input reads as it did. -/
def purseCoresUptoRow : OpenClaim := { program := "ytjphklemnhgkiaadoor", sum := "b17bf1255ff1753d351905a6defa3708625669b6f03864adf02da13b50e61a89", func := "wigeon/wigeonlaw08.PurseCores", spec := "purseCores", unfollowed := true, recurses := true, named := ["math/bits.deBruijn32tab", "math/bits.deBruijn64tab"], apart := false, laid := [("math/bits.deBruijn32tab", laid_math_bits_deBruijn32tab), ("math/bits.deBruijn64tab", laid_math_bits_deBruijn64tab)], narrowed := true }
def PurseCoresUptoSaid : Prop := purseCoresUptoRow.holds Tryd.pinned (OpenSpec.upto purseCoresSpec)

/-- 'wigeonlaw08.PurseDividends', WHERE WHAT IT READS IS OF BULK AT MOST 1048576: true; the input reads as it did. -/
def purseDividendsUptoRow : OpenClaim := { program := "ytjphklemnhgkiaadoor", sum := "b17bf1255ff1753d351905a6defa3708625669b6f03864adf02da13b50e61a89", func := "wigeon/wigeonlaw08.PurseDividends", spec := "purseDividends", unfollowed := true, recurses := true, named := ["math/bits.deBruijn32tab", "math/bits.deBruijn64tab"], apart := false, laid := [("math/bits.deBruijn32tab", laid_math_bits_deBruijn32tab), ("math/bits.deBruijn64tab", laid_math_bits_deBruijn64tab)], narrowed := true }
def PurseDividendsUptoSaid : Prop := purseDividendsUptoRow.holds Tryd.pinned (OpenSpec.upto purseDividendsSpec)

/-- 'wigeonlaw08.PurseMarginals', WHERE WHAT IT READS IS OF BULK AT MOST 1048576: true; the input reads as it did. -/
def purseMarginalsUptoRow : OpenClaim := { program := "ytjphklemnhgkiaadoor", sum := "b17bf1255ff1753d351905a6defa3708625669b6f03864adf02da13b50e61a89", func := "wigeon/wigeonlaw08.PurseMarginals", spec := "purseMarginals", unfollowed := true, recurses := true, named := ["math/bits.deBruijn32tab", "math/bits.deBruijn64tab"], apart := false, laid := [("math/bits.deBruijn32tab", laid_math_bits_deBruijn32tab), ("math/bits.deBruijn64tab", laid_math_bits_deBruijn64tab)], narrowed := true }
def PurseMarginalsUptoSaid : Prop := purseMarginalsUptoRow.holds Tryd.pinned (OpenSpec.upto purseMarginalsSpec)

/-- 'wigeonlaw08.PurseKinds', WHERE WHAT IT READS IS OF BULK AT MOST 1048576: true; the input reads as it did. -/
def purseKindsUptoRow : OpenClaim := { program := "ytjphklemnhgkiaadoor", sum := "b17bf1255ff1753d351905a6defa3708625669b6f03864adf02da13b50e61a89", func := "wigeon/wigeonlaw08.PurseKinds", spec := "purseKinds", unfollowed := true, recurses := true, named := ["math/bits.deBruijn32tab", "math/bits.deBruijn64tab"], apart := false, laid := [("math/bits.deBruijn32tab", laid_math_bits_deBruijn32tab), ("math/bits.deBruijn64tab", laid_math_bits_deBruijn64tab)], narrowed := true }
def PurseKindsUptoSaid : Prop := purseKindsUptoRow.holds Tryd.pinned (OpenSpec.upto purseKindsSpec)

/-- 'wigeontop.TopPurse', WHERE WHAT IT READS IS OF BULK AT MOST 1048576: true; the input reads as it did. -/
def topPurseUptoRow : OpenClaim := { program := "ytjphklemnhgkiaadoor", sum := "b17bf1255ff1753d351905a6defa3708625669b6f03864adf02da13b50e61a89", func := "wigeon/wigeontop.TopPurse", spec := "topPurse", unfollowed := true, recurses := true, named := ["math/bits.deBruijn32tab", "math/bits.deBruijn64tab"], apart := false, laid := [("math/bits.deBruijn32tab", laid_math_bits_deBruijn32tab), ("math/bits.deBruijn64tab", laid_math_bits_deBruijn64tab)], narrowed := true }
def TopPurseUptoSaid : Prop := topPurseUptoRow.holds Tryd.pinned (OpenSpec.upto topPurseSpec)

end Rows
end Go.Proofs.YtjphklemnhgkiaaDoor
