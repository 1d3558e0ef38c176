/-
  No cell of these rows narrows 'for every input' (looked for: loops, veiled, ifaces, maps, wideKeys, modest, calm, conditions, laid).
  DERIVED. THE GIVEN ROWS OF THIS SEAT. 13 by the template 'for every input the law returns true; each argument reads behind the call as it read before'; 0 by the template 'total and deterministic' (their statements: YtpkafcoflgbnaaaTotals.lean).
  GIVEN WITH THE SEED: the statements are not yours to turn. If you find one false, say at which input.
  Laid BY PROGRAM, IN A SANDBOX (cutbox-rows.mjs): the forced cells as the released guide's own fill.sh prints them over the translation c07ae602df9b551a… (all of the seat's roots in one cut). By AI agents, Wed Nov 11 2026. No macro, syntax, notation, axiom, sorry.
-/
import Derived.Test.YtpkafcoflgbnaaaChecked
import GoSem.Claim
import GoSem.ClaimJoined
import GoSem.ClaimMapViews
import Derived.JoinedTies
import Derived.KernelRfl
namespace Go.Proofs.Ytpkafcoflgbnaaa
/- THE CELL 'sum', in the pinned program and in every row, IS THE sha256 OF THE DUMP (.gsa) THAT YtpkafcoflgbnaaaProg.lean LOADS. Nothing in Lean hashes anything: it is a label: what it is worth is what the hold of that sum in a sandbox is worth. -/
noncomputable def Try.pinned : Pinned := { name := "ytpkafcoflgbnaaa", sum := "c07ae602df9b551a0394d4a37295be656c04957b30df11c74002b75293e14592", checked := Try.checked }
namespace Rows
def none {H : Type} : Left H := { results := [], args := [] }

/-- 'wigeonlaw05.WhistleEnds': WHATEVER THE INPUT: true; the input reads as it did. -/
def whistleEndsSpec : ChangeSpec := { name := "whistleEnds", fn := fun _ => fun
  | [d] => { results := [.lit (.bool true)], args := [d] }
  | _ => none }
def whistleEndsRow : OpenClaim := { program := "ytpkafcoflgbnaaa", sum := "c07ae602df9b551a0394d4a37295be656c04957b30df11c74002b75293e14592", func := "wigeon/wigeonlaw05.WhistleEnds", spec := "whistleEnds", inPlace := ["internal/abi.NoEscape"], unfollowed := true, recurses := true, apart := false }
def WhistleEndsSaid : Prop := whistleEndsRow.holds Try.pinned (OpenSpec.ofChange whistleEndsSpec)

/-- ITS FALSE NEIGHBOUR: 'it returns false'. Refute it at one input. -/
def whistleEndsWrong : ChangeSpec := { name := "whistleEnds", fn := fun _ => fun
  | [d] => { results := [.lit (.bool false)], args := [d] }
  | _ => none }
def WhistleEndsWrongFalsely : Prop := whistleEndsRow.holds Try.pinned (OpenSpec.ofChange whistleEndsWrong)

/-- 'wigeonlaw05.WhistleBacks': WHATEVER THE INPUT: true; the input reads as it did. -/
def whistleBacksSpec : ChangeSpec := { name := "whistleBacks", fn := fun _ => fun
  | [d] => { results := [.lit (.bool true)], args := [d] }
  | _ => none }
def whistleBacksRow : OpenClaim := { program := "ytpkafcoflgbnaaa", sum := "c07ae602df9b551a0394d4a37295be656c04957b30df11c74002b75293e14592", func := "wigeon/wigeonlaw05.WhistleBacks", spec := "whistleBacks", inPlace := ["internal/abi.NoEscape"], unfollowed := true, recurses := true, apart := false }
def WhistleBacksSaid : Prop := whistleBacksRow.holds Try.pinned (OpenSpec.ofChange whistleBacksSpec)

/-- ITS FALSE NEIGHBOUR: 'it returns false'. Refute it at one input. -/
def whistleBacksWrong : ChangeSpec := { name := "whistleBacks", fn := fun _ => fun
  | [d] => { results := [.lit (.bool false)], args := [d] }
  | _ => none }
def WhistleBacksWrongFalsely : Prop := whistleBacksRow.holds Try.pinned (OpenSpec.ofChange whistleBacksWrong)

/-- 'wigeonlaw05.WhistleCodes': WHATEVER THE INPUT: true; the input reads as it did. -/
def whistleCodesSpec : ChangeSpec := { name := "whistleCodes", fn := fun _ => fun
  | [d] => { results := [.lit (.bool true)], args := [d] }
  | _ => none }
def whistleCodesRow : OpenClaim := { program := "ytpkafcoflgbnaaa", sum := "c07ae602df9b551a0394d4a37295be656c04957b30df11c74002b75293e14592", func := "wigeon/wigeonlaw05.WhistleCodes", spec := "whistleCodes", inPlace := ["internal/abi.NoEscape"], unfollowed := true, recurses := true, apart := false }
def WhistleCodesSaid : Prop := whistleCodesRow.holds Try.pinned (OpenSpec.ofChange whistleCodesSpec)

/-- ITS FALSE NEIGHBOUR: 'it returns false'. Refute it at one input. -/
def whistleCodesWrong : ChangeSpec := { name := "whistleCodes", fn := fun _ => fun
  | [d] => { results := [.lit (.bool false)], args := [d] }
  | _ => none }
def WhistleCodesWrongFalsely : Prop := whistleCodesRow.holds Try.pinned (OpenSpec.ofChange whistleCodesWrong)

/-- 'wigeonlaw05.WhistleSounds': WHATEVER THE INPUT: true; the input reads as it did. -/
def whistleSoundsSpec : ChangeSpec := { name := "whistleSounds", fn := fun _ => fun
  | [d1, d2] => { results := [.lit (.bool true)], args := [d1, d2] }
  | _ => none }
def whistleSoundsRow : OpenClaim := { program := "ytpkafcoflgbnaaa", sum := "c07ae602df9b551a0394d4a37295be656c04957b30df11c74002b75293e14592", func := "wigeon/wigeonlaw05.WhistleSounds", spec := "whistleSounds", inPlace := ["internal/abi.NoEscape"], unfollowed := true, recurses := true, apart := false }
def WhistleSoundsSaid : Prop := whistleSoundsRow.holds Try.pinned (OpenSpec.ofChange whistleSoundsSpec)

/-- ITS FALSE NEIGHBOUR: 'it returns false'. Refute it at one input. -/
def whistleSoundsWrong : ChangeSpec := { name := "whistleSounds", fn := fun _ => fun
  | [d1, d2] => { results := [.lit (.bool false)], args := [d1, d2] }
  | _ => none }
def WhistleSoundsWrongFalsely : Prop := whistleSoundsRow.holds Try.pinned (OpenSpec.ofChange whistleSoundsWrong)

/-- 'wigeonlaw05.WhistleLengths': WHATEVER THE INPUT: true; the input reads as it did. -/
def whistleLengthsSpec : ChangeSpec := { name := "whistleLengths", fn := fun _ => fun
  | [d] => { results := [.lit (.bool true)], args := [d] }
  | _ => none }
def whistleLengthsRow : OpenClaim := { program := "ytpkafcoflgbnaaa", sum := "c07ae602df9b551a0394d4a37295be656c04957b30df11c74002b75293e14592", func := "wigeon/wigeonlaw05.WhistleLengths", spec := "whistleLengths", inPlace := ["internal/abi.NoEscape"], unfollowed := true, recurses := true, apart := false }
def WhistleLengthsSaid : Prop := whistleLengthsRow.holds Try.pinned (OpenSpec.ofChange whistleLengthsSpec)

/-- ITS FALSE NEIGHBOUR: 'it returns false'. Refute it at one input. -/
def whistleLengthsWrong : ChangeSpec := { name := "whistleLengths", fn := fun _ => fun
  | [d] => { results := [.lit (.bool false)], args := [d] }
  | _ => none }
def WhistleLengthsWrongFalsely : Prop := whistleLengthsRow.holds Try.pinned (OpenSpec.ofChange whistleLengthsWrong)

/-- 'wigeonlaw05.WhistleAlike': WHATEVER THE INPUT: true; the input reads as it did. -/
def whistleAlikeSpec : ChangeSpec := { name := "whistleAlike", fn := fun _ => fun
  | [d] => { results := [.lit (.bool true)], args := [d] }
  | _ => none }
def whistleAlikeRow : OpenClaim := { program := "ytpkafcoflgbnaaa", sum := "c07ae602df9b551a0394d4a37295be656c04957b30df11c74002b75293e14592", func := "wigeon/wigeonlaw05.WhistleAlike", spec := "whistleAlike", inPlace := ["internal/abi.NoEscape"], unfollowed := true, recurses := true, apart := false }
def WhistleAlikeSaid : Prop := whistleAlikeRow.holds Try.pinned (OpenSpec.ofChange whistleAlikeSpec)

/-- ITS FALSE NEIGHBOUR: 'it returns false'. Refute it at one input. -/
def whistleAlikeWrong : ChangeSpec := { name := "whistleAlike", fn := fun _ => fun
  | [d] => { results := [.lit (.bool false)], args := [d] }
  | _ => none }
def WhistleAlikeWrongFalsely : Prop := whistleAlikeRow.holds Try.pinned (OpenSpec.ofChange whistleAlikeWrong)

/-- 'wigeonlaw05.WhistleChecks': WHATEVER THE INPUT: true; the input reads as it did. -/
def whistleChecksSpec : ChangeSpec := { name := "whistleChecks", fn := fun _ => fun
  | [d1, d2, d3] => { results := [.lit (.bool true)], args := [d1, d2, d3] }
  | _ => none }
def whistleChecksRow : OpenClaim := { program := "ytpkafcoflgbnaaa", sum := "c07ae602df9b551a0394d4a37295be656c04957b30df11c74002b75293e14592", func := "wigeon/wigeonlaw05.WhistleChecks", spec := "whistleChecks", inPlace := ["internal/abi.NoEscape"], unfollowed := true, recurses := true, apart := false }
def WhistleChecksSaid : Prop := whistleChecksRow.holds Try.pinned (OpenSpec.ofChange whistleChecksSpec)

/-- ITS FALSE NEIGHBOUR: 'it returns false'. Refute it at one input. -/
def whistleChecksWrong : ChangeSpec := { name := "whistleChecks", fn := fun _ => fun
  | [d1, d2, d3] => { results := [.lit (.bool false)], args := [d1, d2, d3] }
  | _ => none }
def WhistleChecksWrongFalsely : Prop := whistleChecksRow.holds Try.pinned (OpenSpec.ofChange whistleChecksWrong)

/-- 'wigeonlaw05.WhistleCommands': WHATEVER THE INPUT: true; the input reads as it did. -/
def whistleCommandsSpec : ChangeSpec := { name := "whistleCommands", fn := fun _ => fun
  | [d1, d2] => { results := [.lit (.bool true)], args := [d1, d2] }
  | _ => none }
def whistleCommandsRow : OpenClaim := { program := "ytpkafcoflgbnaaa", sum := "c07ae602df9b551a0394d4a37295be656c04957b30df11c74002b75293e14592", func := "wigeon/wigeonlaw05.WhistleCommands", spec := "whistleCommands", inPlace := ["internal/abi.NoEscape"], unfollowed := true, recurses := true, apart := false }
def WhistleCommandsSaid : Prop := whistleCommandsRow.holds Try.pinned (OpenSpec.ofChange whistleCommandsSpec)

/-- ITS FALSE NEIGHBOUR: 'it returns false'. Refute it at one input. -/
def whistleCommandsWrong : ChangeSpec := { name := "whistleCommands", fn := fun _ => fun
  | [d1, d2] => { results := [.lit (.bool false)], args := [d1, d2] }
  | _ => none }
def WhistleCommandsWrongFalsely : Prop := whistleCommandsRow.holds Try.pinned (OpenSpec.ofChange whistleCommandsWrong)

/-- 'wigeonlaw05.WhistleCheapest': WHATEVER THE INPUT: true; the input reads as it did. -/
def whistleCheapestSpec : ChangeSpec := { name := "whistleCheapest", fn := fun _ => fun
  | [d] => { results := [.lit (.bool true)], args := [d] }
  | _ => none }
def whistleCheapestRow : OpenClaim := { program := "ytpkafcoflgbnaaa", sum := "c07ae602df9b551a0394d4a37295be656c04957b30df11c74002b75293e14592", func := "wigeon/wigeonlaw05.WhistleCheapest", spec := "whistleCheapest", inPlace := ["internal/abi.NoEscape"], unfollowed := true, recurses := true, apart := false }
def WhistleCheapestSaid : Prop := whistleCheapestRow.holds Try.pinned (OpenSpec.ofChange whistleCheapestSpec)

/-- ITS FALSE NEIGHBOUR: 'it returns false'. Refute it at one input. -/
def whistleCheapestWrong : ChangeSpec := { name := "whistleCheapest", fn := fun _ => fun
  | [d] => { results := [.lit (.bool false)], args := [d] }
  | _ => none }
def WhistleCheapestWrongFalsely : Prop := whistleCheapestRow.holds Try.pinned (OpenSpec.ofChange whistleCheapestWrong)

/-- 'wigeonlaw05.WhistleCosts': WHATEVER THE INPUT: true; the input reads as it did. -/
def whistleCostsSpec : ChangeSpec := { name := "whistleCosts", fn := fun _ => fun
  | [d1, d2] => { results := [.lit (.bool true)], args := [d1, d2] }
  | _ => none }
def whistleCostsRow : OpenClaim := { program := "ytpkafcoflgbnaaa", sum := "c07ae602df9b551a0394d4a37295be656c04957b30df11c74002b75293e14592", func := "wigeon/wigeonlaw05.WhistleCosts", spec := "whistleCosts", inPlace := ["internal/abi.NoEscape"], unfollowed := true, recurses := true, apart := false }
def WhistleCostsSaid : Prop := whistleCostsRow.holds Try.pinned (OpenSpec.ofChange whistleCostsSpec)

/-- ITS FALSE NEIGHBOUR: 'it returns false'. Refute it at one input. -/
def whistleCostsWrong : ChangeSpec := { name := "whistleCosts", fn := fun _ => fun
  | [d1, d2] => { results := [.lit (.bool false)], args := [d1, d2] }
  | _ => none }
def WhistleCostsWrongFalsely : Prop := whistleCostsRow.holds Try.pinned (OpenSpec.ofChange whistleCostsWrong)

/-- 'wigeonlaw05.WhistleHears': WHATEVER THE INPUT: true; the input reads as it did. -/
def whistleHearsSpec : ChangeSpec := { name := "whistleHears", fn := fun _ => fun
  | [d1, d2] => { results := [.lit (.bool true)], args := [d1, d2] }
  | _ => none }
def whistleHearsRow : OpenClaim := { program := "ytpkafcoflgbnaaa", sum := "c07ae602df9b551a0394d4a37295be656c04957b30df11c74002b75293e14592", func := "wigeon/wigeonlaw05.WhistleHears", spec := "whistleHears", inPlace := ["internal/abi.NoEscape"], unfollowed := true, recurses := true, apart := false }
def WhistleHearsSaid : Prop := whistleHearsRow.holds Try.pinned (OpenSpec.ofChange whistleHearsSpec)

/-- ITS FALSE NEIGHBOUR: 'it returns false'. Refute it at one input. -/
def whistleHearsWrong : ChangeSpec := { name := "whistleHears", fn := fun _ => fun
  | [d1, d2] => { results := [.lit (.bool false)], args := [d1, d2] }
  | _ => none }
def WhistleHearsWrongFalsely : Prop := whistleHearsRow.holds Try.pinned (OpenSpec.ofChange whistleHearsWrong)

/-- 'wigeonlaw05.WhistleDecodes': WHATEVER THE INPUT: true; the input reads as it did. -/
def whistleDecodesSpec : ChangeSpec := { name := "whistleDecodes", fn := fun _ => fun
  | [d1, d2] => { results := [.lit (.bool true)], args := [d1, d2] }
  | _ => none }
def whistleDecodesRow : OpenClaim := { program := "ytpkafcoflgbnaaa", sum := "c07ae602df9b551a0394d4a37295be656c04957b30df11c74002b75293e14592", func := "wigeon/wigeonlaw05.WhistleDecodes", spec := "whistleDecodes", inPlace := ["internal/abi.NoEscape"], unfollowed := true, recurses := true, apart := false }
def WhistleDecodesSaid : Prop := whistleDecodesRow.holds Try.pinned (OpenSpec.ofChange whistleDecodesSpec)

/-- ITS FALSE NEIGHBOUR: 'it returns false'. Refute it at one input. -/
def whistleDecodesWrong : ChangeSpec := { name := "whistleDecodes", fn := fun _ => fun
  | [d1, d2] => { results := [.lit (.bool false)], args := [d1, d2] }
  | _ => none }
def WhistleDecodesWrongFalsely : Prop := whistleDecodesRow.holds Try.pinned (OpenSpec.ofChange whistleDecodesWrong)

/-- 'wigeontop.TopSignals': WHATEVER THE INPUT: true; the input reads as it did. -/
def topSignalsSpec : ChangeSpec := { name := "topSignals", fn := fun _ => fun
  | [d1, d2, d3] => { results := [.lit (.bool true)], args := [d1, d2, d3] }
  | _ => none }
def topSignalsRow : OpenClaim := { program := "ytpkafcoflgbnaaa", sum := "c07ae602df9b551a0394d4a37295be656c04957b30df11c74002b75293e14592", func := "wigeon/wigeontop.TopSignals", spec := "topSignals", inPlace := ["internal/abi.NoEscape"], unfollowed := true, recurses := true, apart := false }
def TopSignalsSaid : Prop := topSignalsRow.holds Try.pinned (OpenSpec.ofChange topSignalsSpec)

/-- ITS FALSE NEIGHBOUR: 'it returns false'. Refute it at one input. -/
def topSignalsWrong : ChangeSpec := { name := "topSignals", fn := fun _ => fun
  | [d1, d2, d3] => { results := [.lit (.bool false)], args := [d1, d2, d3] }
  | _ => none }
def TopSignalsWrongFalsely : Prop := topSignalsRow.holds Try.pinned (OpenSpec.ofChange topSignalsWrong)

/- THE SECOND FORM. 'bulk': how many values and letters a reading holds, each counted each time it is reached (what is shared counts as often as it is met; a slice's spare places count too). A statement '..UptoSaid' is the law's where the arguments, and the package variables that the reading takes, are together of bulk at most 1048576: NARROWER than '..Said'. Prove '..Said' where nothing that the law and all that it calls make is longer than what came in: it says more and counts as full. Else prove '..UptoSaid'. A law counts once. -/
mutual
def uptoBulk {H : Type} : DataW H → Nat
  | .lit (.string bytes) => bytes.length + 1
  | .lit _ => 1
  | .nil => 1
  | .ptr d => uptoBulk d + 1
  | .slice elems spare => uptoBulkAll elems + uptoBulkAll spare + 1
  | .agg parts => uptoBulkAll parts + 1
  | .iface _ d => uptoBulk d + 1
  | .map entries => uptoBulkEntries entries + 1
  | .held _ => 1
def uptoBulkAll {H : Type} : List (DataW H) → Nat
  | [] => 0
  | d :: r => uptoBulk d + uptoBulkAll r
def uptoBulkEntries {H : Type} : List (Lit × DataW H) → Nat
  | [] => 0
  | x :: r => uptoBulkEntry x + uptoBulkEntries r
def uptoBulkEntry {H : Type} : Lit × DataW H → Nat
  | (.string bytes, d) => bytes.length + uptoBulk d + 1
  | (_, d) => uptoBulk d + 1
 end
def uptoSmall : (H : Type) → List (DataW H) → Bool := fun _ ds => decide (uptoBulkAll ds ≤ 1048576)
def OpenSpec.upto (s : _root_.Go.ChangeSpec) : _root_.Go.OpenSpec := { _root_.Go.OpenSpec.ofChange s with cond := some uptoSmall }

/-- 'wigeonlaw05.WhistleEnds', WHERE WHAT IT READS IS OF BULK AT MOST 1048576: true; the input reads as it did. -/
def whistleEndsUptoRow : OpenClaim := { program := "ytpkafcoflgbnaaa", sum := "c07ae602df9b551a0394d4a37295be656c04957b30df11c74002b75293e14592", func := "wigeon/wigeonlaw05.WhistleEnds", spec := "whistleEnds", inPlace := ["internal/abi.NoEscape"], unfollowed := true, recurses := true, apart := false, narrowed := true }
def WhistleEndsUptoSaid : Prop := whistleEndsUptoRow.holds Try.pinned (OpenSpec.upto whistleEndsSpec)

/-- 'wigeonlaw05.WhistleBacks', WHERE WHAT IT READS IS OF BULK AT MOST 1048576: true; the input reads as it did. -/
def whistleBacksUptoRow : OpenClaim := { program := "ytpkafcoflgbnaaa", sum := "c07ae602df9b551a0394d4a37295be656c04957b30df11c74002b75293e14592", func := "wigeon/wigeonlaw05.WhistleBacks", spec := "whistleBacks", inPlace := ["internal/abi.NoEscape"], unfollowed := true, recurses := true, apart := false, narrowed := true }
def WhistleBacksUptoSaid : Prop := whistleBacksUptoRow.holds Try.pinned (OpenSpec.upto whistleBacksSpec)

/-- 'wigeonlaw05.WhistleCodes', WHERE WHAT IT READS IS OF BULK AT MOST 1048576: true; the input reads as it did. -/
def whistleCodesUptoRow : OpenClaim := { program := "ytpkafcoflgbnaaa", sum := "c07ae602df9b551a0394d4a37295be656c04957b30df11c74002b75293e14592", func := "wigeon/wigeonlaw05.WhistleCodes", spec := "whistleCodes", inPlace := ["internal/abi.NoEscape"], unfollowed := true, recurses := true, apart := false, narrowed := true }
def WhistleCodesUptoSaid : Prop := whistleCodesUptoRow.holds Try.pinned (OpenSpec.upto whistleCodesSpec)

/-- 'wigeonlaw05.WhistleSounds', WHERE WHAT IT READS IS OF BULK AT MOST 1048576: true; the input reads as it did. -/
def whistleSoundsUptoRow : OpenClaim := { program := "ytpkafcoflgbnaaa", sum := "c07ae602df9b551a0394d4a37295be656c04957b30df11c74002b75293e14592", func := "wigeon/wigeonlaw05.WhistleSounds", spec := "whistleSounds", inPlace := ["internal/abi.NoEscape"], unfollowed := true, recurses := true, apart := false, narrowed := true }
def WhistleSoundsUptoSaid : Prop := whistleSoundsUptoRow.holds Try.pinned (OpenSpec.upto whistleSoundsSpec)

/-- 'wigeonlaw05.WhistleLengths', WHERE WHAT IT READS IS OF BULK AT MOST 1048576: true; the input reads as it did. -/
def whistleLengthsUptoRow : OpenClaim := { program := "ytpkafcoflgbnaaa", sum := "c07ae602df9b551a0394d4a37295be656c04957b30df11c74002b75293e14592", func := "wigeon/wigeonlaw05.WhistleLengths", spec := "whistleLengths", inPlace := ["internal/abi.NoEscape"], unfollowed := true, recurses := true, apart := false, narrowed := true }
def WhistleLengthsUptoSaid : Prop := whistleLengthsUptoRow.holds Try.pinned (OpenSpec.upto whistleLengthsSpec)

/-- 'wigeonlaw05.WhistleAlike', WHERE WHAT IT READS IS OF BULK AT MOST 1048576: true; the input reads as it did. -/
def whistleAlikeUptoRow : OpenClaim := { program := "ytpkafcoflgbnaaa", sum := "c07ae602df9b551a0394d4a37295be656c04957b30df11c74002b75293e14592", func := "wigeon/wigeonlaw05.WhistleAlike", spec := "whistleAlike", inPlace := ["internal/abi.NoEscape"], unfollowed := true, recurses := true, apart := false, narrowed := true }
def WhistleAlikeUptoSaid : Prop := whistleAlikeUptoRow.holds Try.pinned (OpenSpec.upto whistleAlikeSpec)

/-- 'wigeonlaw05.WhistleChecks', WHERE WHAT IT READS IS OF BULK AT MOST 1048576: true; the input reads as it did. -/
def whistleChecksUptoRow : OpenClaim := { program := "ytpkafcoflgbnaaa", sum := "c07ae602df9b551a0394d4a37295be656c04957b30df11c74002b75293e14592", func := "wigeon/wigeonlaw05.WhistleChecks", spec := "whistleChecks", inPlace := ["internal/abi.NoEscape"], unfollowed := true, recurses := true, apart := false, narrowed := true }
def WhistleChecksUptoSaid : Prop := whistleChecksUptoRow.holds Try.pinned (OpenSpec.upto whistleChecksSpec)

/-- 'wigeonlaw05.WhistleCommands', WHERE WHAT IT READS IS OF BULK AT MOST 1048576: true; the input reads as it did. -/
def whistleCommandsUptoRow : OpenClaim := { program := "ytpkafcoflgbnaaa", sum := "c07ae602df9b551a0394d4a37295be656c04957b30df11c74002b75293e14592", func := "wigeon/wigeonlaw05.WhistleCommands", spec := "whistleCommands", inPlace := ["internal/abi.NoEscape"], unfollowed := true, recurses := true, apart := false, narrowed := true }
def WhistleCommandsUptoSaid : Prop := whistleCommandsUptoRow.holds Try.pinned (OpenSpec.upto whistleCommandsSpec)

/-- 'wigeonlaw05.WhistleCheapest', WHERE WHAT IT READS IS OF BULK AT MOST 1048576: true; the input reads as it did. -/
def whistleCheapestUptoRow : OpenClaim := { program := "ytpkafcoflgbnaaa", sum := "c07ae602df9b551a0394d4a37295be656c04957b30df11c74002b75293e14592", func := "wigeon/wigeonlaw05.WhistleCheapest", spec := "whistleCheapest", inPlace := ["internal/abi.NoEscape"], unfollowed := true, recurses := true, apart := false, narrowed := true }
def WhistleCheapestUptoSaid : Prop := whistleCheapestUptoRow.holds Try.pinned (OpenSpec.upto whistleCheapestSpec)

/-- 'wigeonlaw05.WhistleCosts', WHERE WHAT IT READS IS OF BULK AT MOST 1048576: true; the input reads as it did. -/
def whistleCostsUptoRow : OpenClaim := { program := "ytpkafcoflgbnaaa", sum := "c07ae602df9b551a0394d4a37295be656c04957b30df11c74002b75293e14592", func := "wigeon/wigeonlaw05.WhistleCosts", spec := "whistleCosts", inPlace := ["internal/abi.NoEscape"], unfollowed := true, recurses := true, apart := false, narrowed := true }
def WhistleCostsUptoSaid : Prop := whistleCostsUptoRow.holds Try.pinned (OpenSpec.upto whistleCostsSpec)

/-- 'wigeonlaw05.WhistleHears', WHERE WHAT IT READS IS OF BULK AT MOST 1048576: true; the input reads as it did. -/
def whistleHearsUptoRow : OpenClaim := { program := "ytpkafcoflgbnaaa", sum := "c07ae602df9b551a0394d4a37295be656c04957b30df11c74002b75293e14592", func := "wigeon/wigeonlaw05.WhistleHears", spec := "whistleHears", inPlace := ["internal/abi.NoEscape"], unfollowed := true, recurses := true, apart := false, narrowed := true }
def WhistleHearsUptoSaid : Prop := whistleHearsUptoRow.holds Try.pinned (OpenSpec.upto whistleHearsSpec)

/-- 'wigeonlaw05.WhistleDecodes', WHERE WHAT IT READS IS OF BULK AT MOST 1048576: true; the input reads as it did. -/
def whistleDecodesUptoRow : OpenClaim := { program := "ytpkafcoflgbnaaa", sum := "c07ae602df9b551a0394d4a37295be656c04957b30df11c74002b75293e14592", func := "wigeon/wigeonlaw05.WhistleDecodes", spec := "whistleDecodes", inPlace := ["internal/abi.NoEscape"], unfollowed := true, recurses := true, apart := false, narrowed := true }
def WhistleDecodesUptoSaid : Prop := whistleDecodesUptoRow.holds Try.pinned (OpenSpec.upto whistleDecodesSpec)

/-- 'wigeontop.TopSignals', WHERE WHAT IT READS IS OF BULK AT MOST 1048576: true; the input reads as it did. -/
def topSignalsUptoRow : OpenClaim := { program := "ytpkafcoflgbnaaa", sum := "c07ae602df9b551a0394d4a37295be656c04957b30df11c74002b75293e14592", func := "wigeon/wigeontop.TopSignals", spec := "topSignals", inPlace := ["internal/abi.NoEscape"], unfollowed := true, recurses := true, apart := false, narrowed := true }
def TopSignalsUptoSaid : Prop := topSignalsUptoRow.holds Try.pinned (OpenSpec.upto topSignalsSpec)

end Rows
end Go.Proofs.Ytpkafcoflgbnaaa
