/-
  NARROWER THAN 'FOR EVERY INPUT', by the rows' own cells (each row's printed sentence says how): WindNames: laid · WindTurns: laid · WindArcs: laid · WindSets: laid · WindVeers: laid · WindAdds: laid · TopWinds: laid · WindRoses: laid · WindCovers: laid · WindPipes: laid · WindApart: laid · WindFewest: laid · WindProves: laid.
  DERIVED. THE GIVEN ROWS OF THIS SEAT. 13 by the template 'for every input the law returns true; each argument reads behind the call as it read before'; 0 by the template 'total and deterministic' (their statements: YthihlapmkcelpaaDoorTotals.lean).
  GIVEN WITH THE SEED: the statements are not yours to turn. If you find one false, say at which input.
  Laid BY PROGRAM, IN A SANDBOX (cutbox-rows.mjs): the forced cells as the released guide's own fill.sh prints them over the translation 27fe36bf2d9bd013… (all of the seat's roots in one cut). By AI agents, Wed Nov 11 2026. No macro, syntax, notation, axiom, sorry.
-/
import Derived.Test.YthihlapmkcelpaaDoorChecked
import GoSem.Claim
import GoSem.ClaimJoined
import GoSem.ClaimMapViews
import Derived.JoinedTies
import Derived.KernelRfl
namespace Go.Proofs.YthihlapmkcelpaaDoor
/- THE CELL 'sum', in the pinned program and in every row, IS THE sha256 OF THE DUMP (.gsa) THAT YthihlapmkcelpaaDoorProg.lean LOADS. Nothing in Lean hashes anything: it is a label: what it is worth is what the hold of that sum in a sandbox is worth. -/
noncomputable def Tryd.pinned : Pinned := { name := "ythihlapmkcelpaadoor", sum := "27fe36bf2d9bd0133685849b018bcf99026ea6d38bbe98068b30a0a3896bbf62", checked := Tryd.checked }
namespace Rows
def none {H : Type} : Left H := { results := [], args := [] }

/- WHAT THE LISTED PACKAGE-LEVEL VARIABLES READ AS WHEN THE CALL BEGINS. Each datum BY PROGRAM (the guide's laid-datum.mjs) off the statement by which the dump's own 'gosem.cut.vars' lays the variable. In a bare row this is a premise. The card (YthihlapmkcelpaaDoorCards.lean) ties it to the program's text. -/
def laid_unicode_White_Space {H : Type} : DataW H := .ptr (.agg [.slice [.agg [.lit (.int .u16 9), .lit (.int .u16 13), .lit (.int .u16 1)], .agg [.lit (.int .u16 32), .lit (.int .u16 133), .lit (.int .u16 101)], .agg [.lit (.int .u16 160), .lit (.int .u16 5760), .lit (.int .u16 5600)], .agg [.lit (.int .u16 8192), .lit (.int .u16 8202), .lit (.int .u16 1)], .agg [.lit (.int .u16 8232), .lit (.int .u16 8233), .lit (.int .u16 1)], .agg [.lit (.int .u16 8239), .lit (.int .u16 8287), .lit (.int .u16 48)], .agg [.lit (.int .u16 12288), .lit (.int .u16 12288), .lit (.int .u16 1)]] [], .nil, .lit (.int .i64 2)])
def laid_strings_asciiSpace {H : Type} : DataW H := .agg [.lit (.int .u8 0), .lit (.int .u8 0), .lit (.int .u8 0), .lit (.int .u8 0), .lit (.int .u8 0), .lit (.int .u8 0), .lit (.int .u8 0), .lit (.int .u8 0), .lit (.int .u8 0), .lit (.int .u8 1), .lit (.int .u8 1), .lit (.int .u8 1), .lit (.int .u8 1), .lit (.int .u8 1), .lit (.int .u8 0), .lit (.int .u8 0), .lit (.int .u8 0), .lit (.int .u8 0), .lit (.int .u8 0), .lit (.int .u8 0), .lit (.int .u8 0), .lit (.int .u8 0), .lit (.int .u8 0), .lit (.int .u8 0), .lit (.int .u8 0), .lit (.int .u8 0), .lit (.int .u8 0), .lit (.int .u8 0), .lit (.int .u8 0), .lit (.int .u8 0), .lit (.int .u8 0), .lit (.int .u8 0), .lit (.int .u8 1), .lit (.int .u8 0), .lit (.int .u8 0), .lit (.int .u8 0), .lit (.int .u8 0), .lit (.int .u8 0), .lit (.int .u8 0), .lit (.int .u8 0), .lit (.int .u8 0), .lit (.int .u8 0), .lit (.int .u8 0), .lit (.int .u8 0), .lit (.int .u8 0), .lit (.int .u8 0), .lit (.int .u8 0), .lit (.int .u8 0), .lit (.int .u8 0), .lit (.int .u8 0), .lit (.int .u8 0), .lit (.int .u8 0), .lit (.int .u8 0), .lit (.int .u8 0), .lit (.int .u8 0), .lit (.int .u8 0), .lit (.int .u8 0), .lit (.int .u8 0), .lit (.int .u8 0), .lit (.int .u8 0), .lit (.int .u8 0), .lit (.int .u8 0), .lit (.int .u8 0), .lit (.int .u8 0), .lit (.int .u8 0), .lit (.int .u8 0), .lit (.int .u8 0), .lit (.int .u8 0), .lit (.int .u8 0), .lit (.int .u8 0), .lit (.int .u8 0), .lit (.int .u8 0), .lit (.int .u8 0), .lit (.int .u8 0), .lit (.int .u8 0), .lit (.int .u8 0), .lit (.int .u8 0), .lit (.int .u8 0), .lit (.int .u8 0), .lit (.int .u8 0), .lit (.int .u8 0), .lit (.int .u8 0), .lit (.int .u8 0), .lit (.int .u8 0), .lit (.int .u8 0), .lit (.int .u8 0), .lit (.int .u8 0), .lit (.int .u8 0), .lit (.int .u8 0), .lit (.int .u8 0), .lit (.int .u8 0), .lit (.int .u8 0), .lit (.int .u8 0), .lit (.int .u8 0), .lit (.int .u8 0), .lit (.int .u8 0), .lit (.int .u8 0), .lit (.int .u8 0), .lit (.int .u8 0), .lit (.int .u8 0), .lit (.int .u8 0), .lit (.int .u8 0), .lit (.int .u8 0), .lit (.int .u8 0), .lit (.int .u8 0), .lit (.int .u8 0), .lit (.int .u8 0), .lit (.int .u8 0), .lit (.int .u8 0), .lit (.int .u8 0), .lit (.int .u8 0), .lit (.int .u8 0), .lit (.int .u8 0), .lit (.int .u8 0), .lit (.int .u8 0), .lit (.int .u8 0), .lit (.int .u8 0), .lit (.int .u8 0), .lit (.int .u8 0), .lit (.int .u8 0), .lit (.int .u8 0), .lit (.int .u8 0), .lit (.int .u8 0), .lit (.int .u8 0), .lit (.int .u8 0), .lit (.int .u8 0), .lit (.int .u8 0), .lit (.int .u8 0), .lit (.int .u8 0), .lit (.int .u8 0), .lit (.int .u8 0), .lit (.int .u8 0), .lit (.int .u8 0), .lit (.int .u8 0), .lit (.int .u8 0), .lit (.int .u8 0), .lit (.int .u8 0), .lit (.int .u8 0), .lit (.int .u8 0), .lit (.int .u8 0), .lit (.int .u8 0), .lit (.int .u8 0), .lit (.int .u8 0), .lit (.int .u8 0), .lit (.int .u8 0), .lit (.int .u8 0), .lit (.int .u8 0), .lit (.int .u8 0), .lit (.int .u8 0), .lit (.int .u8 0), .lit (.int .u8 0), .lit (.int .u8 0), .lit (.int .u8 0), .lit (.int .u8 0), .lit (.int .u8 0), .lit (.int .u8 0), .lit (.int .u8 0), .lit (.int .u8 0), .lit (.int .u8 0), .lit (.int .u8 0), .lit (.int .u8 0), .lit (.int .u8 0), .lit (.int .u8 0), .lit (.int .u8 0), .lit (.int .u8 0), .lit (.int .u8 0), .lit (.int .u8 0), .lit (.int .u8 0), .lit (.int .u8 0), .lit (.int .u8 0), .lit (.int .u8 0), .lit (.int .u8 0), .lit (.int .u8 0), .lit (.int .u8 0), .lit (.int .u8 0), .lit (.int .u8 0), .lit (.int .u8 0), .lit (.int .u8 0), .lit (.int .u8 0), .lit (.int .u8 0), .lit (.int .u8 0), .lit (.int .u8 0), .lit (.int .u8 0), .lit (.int .u8 0), .lit (.int .u8 0), .lit (.int .u8 0), .lit (.int .u8 0), .lit (.int .u8 0), .lit (.int .u8 0), .lit (.int .u8 0), .lit (.int .u8 0), .lit (.int .u8 0), .lit (.int .u8 0), .lit (.int .u8 0), .lit (.int .u8 0), .lit (.int .u8 0), .lit (.int .u8 0), .lit (.int .u8 0), .lit (.int .u8 0), .lit (.int .u8 0), .lit (.int .u8 0), .lit (.int .u8 0), .lit (.int .u8 0), .lit (.int .u8 0), .lit (.int .u8 0), .lit (.int .u8 0), .lit (.int .u8 0), .lit (.int .u8 0), .lit (.int .u8 0), .lit (.int .u8 0), .lit (.int .u8 0), .lit (.int .u8 0), .lit (.int .u8 0), .lit (.int .u8 0), .lit (.int .u8 0), .lit (.int .u8 0), .lit (.int .u8 0), .lit (.int .u8 0), .lit (.int .u8 0), .lit (.int .u8 0), .lit (.int .u8 0), .lit (.int .u8 0), .lit (.int .u8 0), .lit (.int .u8 0), .lit (.int .u8 0), .lit (.int .u8 0), .lit (.int .u8 0), .lit (.int .u8 0), .lit (.int .u8 0), .lit (.int .u8 0), .lit (.int .u8 0), .lit (.int .u8 0), .lit (.int .u8 0), .lit (.int .u8 0), .lit (.int .u8 0), .lit (.int .u8 0), .lit (.int .u8 0), .lit (.int .u8 0), .lit (.int .u8 0), .lit (.int .u8 0), .lit (.int .u8 0), .lit (.int .u8 0), .lit (.int .u8 0), .lit (.int .u8 0), .lit (.int .u8 0), .lit (.int .u8 0), .lit (.int .u8 0), .lit (.int .u8 0), .lit (.int .u8 0), .lit (.int .u8 0), .lit (.int .u8 0), .lit (.int .u8 0), .lit (.int .u8 0), .lit (.int .u8 0), .lit (.int .u8 0), .lit (.int .u8 0)]
def laid_math_bits_deBruijn32tab {H : Type} : DataW H := .agg [.lit (.int .u8 0), .lit (.int .u8 1), .lit (.int .u8 28), .lit (.int .u8 2), .lit (.int .u8 29), .lit (.int .u8 14), .lit (.int .u8 24), .lit (.int .u8 3), .lit (.int .u8 30), .lit (.int .u8 22), .lit (.int .u8 20), .lit (.int .u8 15), .lit (.int .u8 25), .lit (.int .u8 17), .lit (.int .u8 4), .lit (.int .u8 8), .lit (.int .u8 31), .lit (.int .u8 27), .lit (.int .u8 13), .lit (.int .u8 23), .lit (.int .u8 21), .lit (.int .u8 19), .lit (.int .u8 16), .lit (.int .u8 7), .lit (.int .u8 26), .lit (.int .u8 12), .lit (.int .u8 18), .lit (.int .u8 6), .lit (.int .u8 11), .lit (.int .u8 5), .lit (.int .u8 10), .lit (.int .u8 9)]
def laid_math_bits_deBruijn64tab {H : Type} : DataW H := .agg [.lit (.int .u8 0), .lit (.int .u8 1), .lit (.int .u8 56), .lit (.int .u8 2), .lit (.int .u8 57), .lit (.int .u8 49), .lit (.int .u8 28), .lit (.int .u8 3), .lit (.int .u8 61), .lit (.int .u8 58), .lit (.int .u8 42), .lit (.int .u8 50), .lit (.int .u8 38), .lit (.int .u8 29), .lit (.int .u8 17), .lit (.int .u8 4), .lit (.int .u8 62), .lit (.int .u8 47), .lit (.int .u8 59), .lit (.int .u8 36), .lit (.int .u8 45), .lit (.int .u8 43), .lit (.int .u8 51), .lit (.int .u8 22), .lit (.int .u8 53), .lit (.int .u8 39), .lit (.int .u8 33), .lit (.int .u8 30), .lit (.int .u8 24), .lit (.int .u8 18), .lit (.int .u8 12), .lit (.int .u8 5), .lit (.int .u8 63), .lit (.int .u8 55), .lit (.int .u8 48), .lit (.int .u8 27), .lit (.int .u8 60), .lit (.int .u8 41), .lit (.int .u8 37), .lit (.int .u8 16), .lit (.int .u8 46), .lit (.int .u8 35), .lit (.int .u8 44), .lit (.int .u8 21), .lit (.int .u8 52), .lit (.int .u8 32), .lit (.int .u8 23), .lit (.int .u8 11), .lit (.int .u8 54), .lit (.int .u8 26), .lit (.int .u8 40), .lit (.int .u8 15), .lit (.int .u8 34), .lit (.int .u8 20), .lit (.int .u8 31), .lit (.int .u8 10), .lit (.int .u8 25), .lit (.int .u8 14), .lit (.int .u8 19), .lit (.int .u8 9), .lit (.int .u8 13), .lit (.int .u8 8), .lit (.int .u8 7), .lit (.int .u8 6)]

/-- 'wigeonlaw03.WindNames': WHATEVER THE INPUT: true; the input reads as it did. -/
def windNamesSpec : ChangeSpec := { name := "windNames", fn := fun _ => fun
  | [d1, d2] => { results := [.lit (.bool true)], args := [d1, d2] }
  | _ => none }
def windNamesRow : OpenClaim := { program := "ythihlapmkcelpaadoor", sum := "27fe36bf2d9bd0133685849b018bcf99026ea6d38bbe98068b30a0a3896bbf62", func := "wigeon/wigeonlaw03.WindNames", spec := "windNames", unfollowed := true, recurses := true, named := ["strings.asciiSpace", "unicode.White_Space"], apart := false, laid := [("unicode.White_Space", laid_unicode_White_Space), ("strings.asciiSpace", laid_strings_asciiSpace)] }
def WindNamesSaid : Prop := windNamesRow.holds Tryd.pinned (OpenSpec.ofChange windNamesSpec)

/-- ITS FALSE NEIGHBOUR: 'it returns false'. Refute it at one input. -/
def windNamesWrong : ChangeSpec := { name := "windNames", fn := fun _ => fun
  | [d1, d2] => { results := [.lit (.bool false)], args := [d1, d2] }
  | _ => none }
def WindNamesWrongFalsely : Prop := windNamesRow.holds Tryd.pinned (OpenSpec.ofChange windNamesWrong)

/-- 'wigeonlaw03.WindTurns': WHATEVER THE INPUT: true; the input reads as it did. -/
def windTurnsSpec : ChangeSpec := { name := "windTurns", fn := fun _ => fun
  | [d1, d2] => { results := [.lit (.bool true)], args := [d1, d2] }
  | _ => none }
def windTurnsRow : OpenClaim := { program := "ythihlapmkcelpaadoor", sum := "27fe36bf2d9bd0133685849b018bcf99026ea6d38bbe98068b30a0a3896bbf62", func := "wigeon/wigeonlaw03.WindTurns", spec := "windTurns", unfollowed := true, recurses := true, named := ["strings.asciiSpace", "unicode.White_Space"], apart := false, laid := [("unicode.White_Space", laid_unicode_White_Space), ("strings.asciiSpace", laid_strings_asciiSpace)] }
def WindTurnsSaid : Prop := windTurnsRow.holds Tryd.pinned (OpenSpec.ofChange windTurnsSpec)

/-- ITS FALSE NEIGHBOUR: 'it returns false'. Refute it at one input. -/
def windTurnsWrong : ChangeSpec := { name := "windTurns", fn := fun _ => fun
  | [d1, d2] => { results := [.lit (.bool false)], args := [d1, d2] }
  | _ => none }
def WindTurnsWrongFalsely : Prop := windTurnsRow.holds Tryd.pinned (OpenSpec.ofChange windTurnsWrong)

/-- 'wigeonlaw03.WindArcs': WHATEVER THE INPUT: true; the input reads as it did. -/
def windArcsSpec : ChangeSpec := { name := "windArcs", fn := fun _ => fun
  | [d] => { results := [.lit (.bool true)], args := [d] }
  | _ => none }
def windArcsRow : OpenClaim := { program := "ythihlapmkcelpaadoor", sum := "27fe36bf2d9bd0133685849b018bcf99026ea6d38bbe98068b30a0a3896bbf62", func := "wigeon/wigeonlaw03.WindArcs", spec := "windArcs", unfollowed := true, recurses := true, named := ["strings.asciiSpace", "unicode.White_Space"], apart := false, laid := [("unicode.White_Space", laid_unicode_White_Space), ("strings.asciiSpace", laid_strings_asciiSpace)] }
def WindArcsSaid : Prop := windArcsRow.holds Tryd.pinned (OpenSpec.ofChange windArcsSpec)

/-- ITS FALSE NEIGHBOUR: 'it returns false'. Refute it at one input. -/
def windArcsWrong : ChangeSpec := { name := "windArcs", fn := fun _ => fun
  | [d] => { results := [.lit (.bool false)], args := [d] }
  | _ => none }
def WindArcsWrongFalsely : Prop := windArcsRow.holds Tryd.pinned (OpenSpec.ofChange windArcsWrong)

/-- 'wigeonlaw03.WindSets': WHATEVER THE INPUT: true; the input reads as it did. -/
def windSetsSpec : ChangeSpec := { name := "windSets", fn := fun _ => fun
  | [d] => { results := [.lit (.bool true)], args := [d] }
  | _ => none }
def windSetsRow : OpenClaim := { program := "ythihlapmkcelpaadoor", sum := "27fe36bf2d9bd0133685849b018bcf99026ea6d38bbe98068b30a0a3896bbf62", func := "wigeon/wigeonlaw03.WindSets", spec := "windSets", unfollowed := true, recurses := true, named := ["strings.asciiSpace", "unicode.White_Space"], apart := false, laid := [("unicode.White_Space", laid_unicode_White_Space), ("strings.asciiSpace", laid_strings_asciiSpace)] }
def WindSetsSaid : Prop := windSetsRow.holds Tryd.pinned (OpenSpec.ofChange windSetsSpec)

/-- ITS FALSE NEIGHBOUR: 'it returns false'. Refute it at one input. -/
def windSetsWrong : ChangeSpec := { name := "windSets", fn := fun _ => fun
  | [d] => { results := [.lit (.bool false)], args := [d] }
  | _ => none }
def WindSetsWrongFalsely : Prop := windSetsRow.holds Tryd.pinned (OpenSpec.ofChange windSetsWrong)

/-- 'wigeonlaw03.WindVeers': WHATEVER THE INPUT: true; the input reads as it did. -/
def windVeersSpec : ChangeSpec := { name := "windVeers", fn := fun _ => fun
  | [d1, d2, d3] => { results := [.lit (.bool true)], args := [d1, d2, d3] }
  | _ => none }
def windVeersRow : OpenClaim := { program := "ythihlapmkcelpaadoor", sum := "27fe36bf2d9bd0133685849b018bcf99026ea6d38bbe98068b30a0a3896bbf62", func := "wigeon/wigeonlaw03.WindVeers", spec := "windVeers", unfollowed := true, recurses := true, named := ["strings.asciiSpace", "unicode.White_Space"], apart := false, laid := [("unicode.White_Space", laid_unicode_White_Space), ("strings.asciiSpace", laid_strings_asciiSpace)] }
def WindVeersSaid : Prop := windVeersRow.holds Tryd.pinned (OpenSpec.ofChange windVeersSpec)

/-- ITS FALSE NEIGHBOUR: 'it returns false'. Refute it at one input. -/
def windVeersWrong : ChangeSpec := { name := "windVeers", fn := fun _ => fun
  | [d1, d2, d3] => { results := [.lit (.bool false)], args := [d1, d2, d3] }
  | _ => none }
def WindVeersWrongFalsely : Prop := windVeersRow.holds Tryd.pinned (OpenSpec.ofChange windVeersWrong)

/-- 'wigeonlaw03.WindAdds': WHATEVER THE INPUT: true; the input reads as it did. -/
def windAddsSpec : ChangeSpec := { name := "windAdds", fn := fun _ => fun
  | [d1, d2, d3] => { results := [.lit (.bool true)], args := [d1, d2, d3] }
  | _ => none }
def windAddsRow : OpenClaim := { program := "ythihlapmkcelpaadoor", sum := "27fe36bf2d9bd0133685849b018bcf99026ea6d38bbe98068b30a0a3896bbf62", func := "wigeon/wigeonlaw03.WindAdds", spec := "windAdds", unfollowed := true, recurses := true, named := ["strings.asciiSpace", "unicode.White_Space"], apart := false, laid := [("unicode.White_Space", laid_unicode_White_Space), ("strings.asciiSpace", laid_strings_asciiSpace)] }
def WindAddsSaid : Prop := windAddsRow.holds Tryd.pinned (OpenSpec.ofChange windAddsSpec)

/-- ITS FALSE NEIGHBOUR: 'it returns false'. Refute it at one input. -/
def windAddsWrong : ChangeSpec := { name := "windAdds", fn := fun _ => fun
  | [d1, d2, d3] => { results := [.lit (.bool false)], args := [d1, d2, d3] }
  | _ => none }
def WindAddsWrongFalsely : Prop := windAddsRow.holds Tryd.pinned (OpenSpec.ofChange windAddsWrong)

/-- 'wigeontop.TopWinds': WHATEVER THE INPUT: true; the input reads as it did. -/
def topWindsSpec : ChangeSpec := { name := "topWinds", fn := fun _ => fun
  | [d1, d2, d3] => { results := [.lit (.bool true)], args := [d1, d2, d3] }
  | _ => none }
def topWindsRow : OpenClaim := { program := "ythihlapmkcelpaadoor", sum := "27fe36bf2d9bd0133685849b018bcf99026ea6d38bbe98068b30a0a3896bbf62", func := "wigeon/wigeontop.TopWinds", spec := "topWinds", unfollowed := true, recurses := true, named := ["math/bits.deBruijn32tab", "math/bits.deBruijn64tab"], apart := false, laid := [("math/bits.deBruijn32tab", laid_math_bits_deBruijn32tab), ("math/bits.deBruijn64tab", laid_math_bits_deBruijn64tab)] }
def TopWindsSaid : Prop := topWindsRow.holds Tryd.pinned (OpenSpec.ofChange topWindsSpec)

/-- ITS FALSE NEIGHBOUR: 'it returns false'. Refute it at one input. -/
def topWindsWrong : ChangeSpec := { name := "topWinds", fn := fun _ => fun
  | [d1, d2, d3] => { results := [.lit (.bool false)], args := [d1, d2, d3] }
  | _ => none }
def TopWindsWrongFalsely : Prop := topWindsRow.holds Tryd.pinned (OpenSpec.ofChange topWindsWrong)

/-- 'wigeonlaw03.WindRoses': WHATEVER THE INPUT: true; the input reads as it did. -/
def windRosesSpec : ChangeSpec := { name := "windRoses", fn := fun _ => fun
  | [d1, d2, d3] => { results := [.lit (.bool true)], args := [d1, d2, d3] }
  | _ => none }
def windRosesRow : OpenClaim := { program := "ythihlapmkcelpaadoor", sum := "27fe36bf2d9bd0133685849b018bcf99026ea6d38bbe98068b30a0a3896bbf62", func := "wigeon/wigeonlaw03.WindRoses", spec := "windRoses", unfollowed := true, recurses := true, named := ["strings.asciiSpace", "unicode.White_Space"], apart := false, laid := [("unicode.White_Space", laid_unicode_White_Space), ("strings.asciiSpace", laid_strings_asciiSpace)] }
def WindRosesSaid : Prop := windRosesRow.holds Tryd.pinned (OpenSpec.ofChange windRosesSpec)

/-- ITS FALSE NEIGHBOUR: 'it returns false'. Refute it at one input. -/
def windRosesWrong : ChangeSpec := { name := "windRoses", fn := fun _ => fun
  | [d1, d2, d3] => { results := [.lit (.bool false)], args := [d1, d2, d3] }
  | _ => none }
def WindRosesWrongFalsely : Prop := windRosesRow.holds Tryd.pinned (OpenSpec.ofChange windRosesWrong)

/-- 'wigeonlaw03.WindCovers': WHATEVER THE INPUT: true; the input reads as it did. -/
def windCoversSpec : ChangeSpec := { name := "windCovers", fn := fun _ => fun
  | [d1, d2] => { results := [.lit (.bool true)], args := [d1, d2] }
  | _ => none }
def windCoversRow : OpenClaim := { program := "ythihlapmkcelpaadoor", sum := "27fe36bf2d9bd0133685849b018bcf99026ea6d38bbe98068b30a0a3896bbf62", func := "wigeon/wigeonlaw03.WindCovers", spec := "windCovers", unfollowed := true, recurses := true, named := ["strings.asciiSpace", "unicode.White_Space"], apart := false, laid := [("unicode.White_Space", laid_unicode_White_Space), ("strings.asciiSpace", laid_strings_asciiSpace)] }
def WindCoversSaid : Prop := windCoversRow.holds Tryd.pinned (OpenSpec.ofChange windCoversSpec)

/-- ITS FALSE NEIGHBOUR: 'it returns false'. Refute it at one input. -/
def windCoversWrong : ChangeSpec := { name := "windCovers", fn := fun _ => fun
  | [d1, d2] => { results := [.lit (.bool false)], args := [d1, d2] }
  | _ => none }
def WindCoversWrongFalsely : Prop := windCoversRow.holds Tryd.pinned (OpenSpec.ofChange windCoversWrong)

/-- 'wigeonlaw03.WindPipes': WHATEVER THE INPUT: true; the input reads as it did. -/
def windPipesSpec : ChangeSpec := { name := "windPipes", fn := fun _ => fun
  | [d1, d2] => { results := [.lit (.bool true)], args := [d1, d2] }
  | _ => none }
def windPipesRow : OpenClaim := { program := "ythihlapmkcelpaadoor", sum := "27fe36bf2d9bd0133685849b018bcf99026ea6d38bbe98068b30a0a3896bbf62", func := "wigeon/wigeonlaw03.WindPipes", spec := "windPipes", unfollowed := true, recurses := true, named := ["strings.asciiSpace", "unicode.White_Space"], apart := false, laid := [("unicode.White_Space", laid_unicode_White_Space), ("strings.asciiSpace", laid_strings_asciiSpace)] }
def WindPipesSaid : Prop := windPipesRow.holds Tryd.pinned (OpenSpec.ofChange windPipesSpec)

/-- ITS FALSE NEIGHBOUR: 'it returns false'. Refute it at one input. -/
def windPipesWrong : ChangeSpec := { name := "windPipes", fn := fun _ => fun
  | [d1, d2] => { results := [.lit (.bool false)], args := [d1, d2] }
  | _ => none }
def WindPipesWrongFalsely : Prop := windPipesRow.holds Tryd.pinned (OpenSpec.ofChange windPipesWrong)

/-- 'wigeonlaw03.WindApart': WHATEVER THE INPUT: true; the input reads as it did. -/
def windApartSpec : ChangeSpec := { name := "windApart", fn := fun _ => fun
  | [d1, d2] => { results := [.lit (.bool true)], args := [d1, d2] }
  | _ => none }
def windApartRow : OpenClaim := { program := "ythihlapmkcelpaadoor", sum := "27fe36bf2d9bd0133685849b018bcf99026ea6d38bbe98068b30a0a3896bbf62", func := "wigeon/wigeonlaw03.WindApart", spec := "windApart", unfollowed := true, recurses := true, named := ["strings.asciiSpace", "unicode.White_Space"], apart := false, laid := [("unicode.White_Space", laid_unicode_White_Space), ("strings.asciiSpace", laid_strings_asciiSpace)] }
def WindApartSaid : Prop := windApartRow.holds Tryd.pinned (OpenSpec.ofChange windApartSpec)

/-- ITS FALSE NEIGHBOUR: 'it returns false'. Refute it at one input. -/
def windApartWrong : ChangeSpec := { name := "windApart", fn := fun _ => fun
  | [d1, d2] => { results := [.lit (.bool false)], args := [d1, d2] }
  | _ => none }
def WindApartWrongFalsely : Prop := windApartRow.holds Tryd.pinned (OpenSpec.ofChange windApartWrong)

/-- 'wigeonlaw03.WindFewest': WHATEVER THE INPUT: true; the input reads as it did. -/
def windFewestSpec : ChangeSpec := { name := "windFewest", fn := fun _ => fun
  | [d] => { results := [.lit (.bool true)], args := [d] }
  | _ => none }
def windFewestRow : OpenClaim := { program := "ythihlapmkcelpaadoor", sum := "27fe36bf2d9bd0133685849b018bcf99026ea6d38bbe98068b30a0a3896bbf62", func := "wigeon/wigeonlaw03.WindFewest", spec := "windFewest", unfollowed := true, recurses := true, named := ["strings.asciiSpace", "unicode.White_Space", "math/bits.deBruijn32tab", "math/bits.deBruijn64tab"], apart := false, laid := [("math/bits.deBruijn32tab", laid_math_bits_deBruijn32tab), ("math/bits.deBruijn64tab", laid_math_bits_deBruijn64tab), ("unicode.White_Space", laid_unicode_White_Space), ("strings.asciiSpace", laid_strings_asciiSpace)] }
def WindFewestSaid : Prop := windFewestRow.holds Tryd.pinned (OpenSpec.ofChange windFewestSpec)

/-- ITS FALSE NEIGHBOUR: 'it returns false'. Refute it at one input. -/
def windFewestWrong : ChangeSpec := { name := "windFewest", fn := fun _ => fun
  | [d] => { results := [.lit (.bool false)], args := [d] }
  | _ => none }
def WindFewestWrongFalsely : Prop := windFewestRow.holds Tryd.pinned (OpenSpec.ofChange windFewestWrong)

/-- 'wigeonlaw03.WindProves': WHATEVER THE INPUT: true; the input reads as it did. -/
def windProvesSpec : ChangeSpec := { name := "windProves", fn := fun _ => fun
  | [d1, d2, d3] => { results := [.lit (.bool true)], args := [d1, d2, d3] }
  | _ => none }
def windProvesRow : OpenClaim := { program := "ythihlapmkcelpaadoor", sum := "27fe36bf2d9bd0133685849b018bcf99026ea6d38bbe98068b30a0a3896bbf62", func := "wigeon/wigeonlaw03.WindProves", spec := "windProves", unfollowed := true, recurses := true, named := ["strings.asciiSpace", "unicode.White_Space", "math/bits.deBruijn32tab", "math/bits.deBruijn64tab"], apart := false, laid := [("math/bits.deBruijn32tab", laid_math_bits_deBruijn32tab), ("math/bits.deBruijn64tab", laid_math_bits_deBruijn64tab), ("unicode.White_Space", laid_unicode_White_Space), ("strings.asciiSpace", laid_strings_asciiSpace)] }
def WindProvesSaid : Prop := windProvesRow.holds Tryd.pinned (OpenSpec.ofChange windProvesSpec)

/-- ITS FALSE NEIGHBOUR: 'it returns false'. Refute it at one input. -/
def windProvesWrong : ChangeSpec := { name := "windProves", fn := fun _ => fun
  | [d1, d2, d3] => { results := [.lit (.bool false)], args := [d1, d2, d3] }
  | _ => none }
def WindProvesWrongFalsely : Prop := windProvesRow.holds Tryd.pinned (OpenSpec.ofChange windProvesWrong)

/- THE SECOND FORM. 'bulk': how many values and letters a reading holds, each counted each time it is reached (what is shared counts as often as it is met; a slice's spare places count too). A statement '..UptoSaid' is the law's where the arguments, and the package variables that the reading takes, are together of bulk at most 1048576: NARROWER than '..Said'. Prove '..Said' where nothing that the law and all that it calls make is longer than what came in: it says more and counts as full. Else prove '..UptoSaid'. A law counts once. -/
mutual
def uptoBulk {H : Type} : DataW H → Nat
  | .lit (.string bytes) => bytes.length + 1
  | .lit _ => 1
  | .nil => 1
  | .ptr d => uptoBulk d + 1
  | .slice elems spare => uptoBulkAll elems + uptoBulkAll spare + 1
  | .agg parts => uptoBulkAll parts + 1
  | .iface _ d => uptoBulk d + 1
  | .map entries => uptoBulkEntries entries + 1
  | .held _ => 1
def uptoBulkAll {H : Type} : List (DataW H) → Nat
  | [] => 0
  | d :: r => uptoBulk d + uptoBulkAll r
def uptoBulkEntries {H : Type} : List (Lit × DataW H) → Nat
  | [] => 0
  | x :: r => uptoBulkEntry x + uptoBulkEntries r
def uptoBulkEntry {H : Type} : Lit × DataW H → Nat
  | (.string bytes, d) => bytes.length + uptoBulk d + 1
  | (_, d) => uptoBulk d + 1
 end
def uptoSmall : (H : Type) → List (DataW H) → Bool := fun _ ds => decide (uptoBulkAll ds ≤ 1048576)
def OpenSpec.upto (s : _root_.Go.ChangeSpec) : _root_.Go.OpenSpec := { _root_.Go.OpenSpec.ofChange s with cond := some uptoSmall }

/-- 'wigeonlaw03.WindNames', WHERE WHAT IT READS IS OF BULK AT MOST 1048576: true; the input reads as it did. -/
def windNamesUptoRow : OpenClaim := { program := "ythihlapmkcelpaadoor", sum := "27fe36bf2d9bd0133685849b018bcf99026ea6d38bbe98068b30a0a3896bbf62", func := "wigeon/wigeonlaw03.WindNames", spec := "windNames", unfollowed := true, recurses := true, named := ["strings.asciiSpace", "unicode.White_Space"], apart := false, laid := [("unicode.White_Space", laid_unicode_White_Space), ("strings.asciiSpace", laid_strings_asciiSpace)], narrowed := true }
def WindNamesUptoSaid : Prop := windNamesUptoRow.holds Tryd.pinned (OpenSpec.upto windNamesSpec)

/-- 'wigeonlaw03.WindTurns', WHERE WHAT IT READS IS OF BULK AT MOST 1048576: true; the input reads as it did. -/
def windTurnsUptoRow : OpenClaim := { program := "ythihlapmkcelpaadoor", sum := "27fe36bf2d9bd0133685849b018bcf99026ea6d38bbe98068b30a0a3896bbf62", func := "wigeon/wigeonlaw03.WindTurns", spec := "windTurns", unfollowed := true, recurses := true, named := ["strings.asciiSpace", "unicode.White_Space"], apart := false, laid := [("unicode.White_Space", laid_unicode_White_Space), ("strings.asciiSpace", laid_strings_asciiSpace)], narrowed := true }
def WindTurnsUptoSaid : Prop := windTurnsUptoRow.holds Tryd.pinned (OpenSpec.upto windTurnsSpec)

/-- 'wigeonlaw03.WindArcs', WHERE WHAT IT READS IS OF BULK AT MOST 1048576: true; the input reads as it did. -/
def windArcsUptoRow : OpenClaim := { program := "ythihlapmkcelpaadoor", sum := "27fe36bf2d9bd0133685849b018bcf99026ea6d38bbe98068b30a0a3896bbf62", func := "wigeon/wigeonlaw03.WindArcs", spec := "windArcs", unfollowed := true, recurses := true, named := ["strings.asciiSpace", "unicode.White_Space"], apart := false, laid := [("unicode.White_Space", laid_unicode_White_Space), ("strings.asciiSpace", laid_strings_asciiSpace)], narrowed := true }
def WindArcsUptoSaid : Prop := windArcsUptoRow.holds Tryd.pinned (OpenSpec.upto windArcsSpec)

/-- 'wigeonlaw03.WindSets', WHERE WHAT IT READS IS OF BULK AT MOST 1048576: true; the input reads as it did. -/
def windSetsUptoRow : OpenClaim := { program := "ythihlapmkcelpaadoor", sum := "27fe36bf2d9bd0133685849b018bcf99026ea6d38bbe98068b30a0a3896bbf62", func := "wigeon/wigeonlaw03.WindSets", spec := "windSets", unfollowed := true, recurses := true, named := ["strings.asciiSpace", "unicode.White_Space"], apart := false, laid := [("unicode.White_Space", laid_unicode_White_Space), ("strings.asciiSpace", laid_strings_asciiSpace)], narrowed := true }
def WindSetsUptoSaid : Prop := windSetsUptoRow.holds Tryd.pinned (OpenSpec.upto windSetsSpec)

/-- 'wigeonlaw03.WindVeers', WHERE WHAT IT READS IS OF BULK AT MOST 1048576: true; the input reads as it did. -/
def windVeersUptoRow : OpenClaim := { program := "ythihlapmkcelpaadoor", sum := "27fe36bf2d9bd0133685849b018bcf99026ea6d38bbe98068b30a0a3896bbf62", func := "wigeon/wigeonlaw03.WindVeers", spec := "windVeers", unfollowed := true, recurses := true, named := ["strings.asciiSpace", "unicode.White_Space"], apart := false, laid := [("unicode.White_Space", laid_unicode_White_Space), ("strings.asciiSpace", laid_strings_asciiSpace)], narrowed := true }
def WindVeersUptoSaid : Prop := windVeersUptoRow.holds Tryd.pinned (OpenSpec.upto windVeersSpec)

/-- 'wigeonlaw03.WindAdds', WHERE WHAT IT READS IS OF BULK AT MOST 1048576: true; the input reads as it did. -/
def windAddsUptoRow : OpenClaim := { program := "ythihlapmkcelpaadoor", sum := "27fe36bf2d9bd0133685849b018bcf99026ea6d38bbe98068b30a0a3896bbf62", func := "wigeon/wigeonlaw03.WindAdds", spec := "windAdds", unfollowed := true, recurses := true, named := ["strings.asciiSpace", "unicode.White_Space"], apart := false, laid := [("unicode.White_Space", laid_unicode_White_Space), ("strings.asciiSpace", laid_strings_asciiSpace)], narrowed := true }
def WindAddsUptoSaid : Prop := windAddsUptoRow.holds Tryd.pinned (OpenSpec.upto windAddsSpec)

/-- 'wigeontop.TopWinds', WHERE WHAT IT READS IS OF BULK AT MOST 1048576: true; the input reads as it did. -/
def topWindsUptoRow : OpenClaim := { program := "ythihlapmkcelpaadoor", sum := "27fe36bf2d9bd0133685849b018bcf99026ea6d38bbe98068b30a0a3896bbf62", func := "wigeon/wigeontop.TopWinds", spec := "topWinds", unfollowed := true, recurses := true, named := ["math/bits.deBruijn32tab", "math/bits.deBruijn64tab"], apart := false, laid := [("math/bits.deBruijn32tab", laid_math_bits_deBruijn32tab), ("math/bits.deBruijn64tab", laid_math_bits_deBruijn64tab)], narrowed := true }
def TopWindsUptoSaid : Prop := topWindsUptoRow.holds Tryd.pinned (OpenSpec.upto topWindsSpec)

/-- 'wigeonlaw03.WindRoses', WHERE WHAT IT READS IS OF BULK AT MOST 1048576: true; the input reads as it did. -/
def windRosesUptoRow : OpenClaim := { program := "ythihlapmkcelpaadoor", sum := "27fe36bf2d9bd0133685849b018bcf99026ea6d38bbe98068b30a0a3896bbf62", func := "wigeon/wigeonlaw03.WindRoses", spec := "windRoses", unfollowed := true, recurses := true, named := ["strings.asciiSpace", "unicode.White_Space"], apart := false, laid := [("unicode.White_Space", laid_unicode_White_Space), ("strings.asciiSpace", laid_strings_asciiSpace)], narrowed := true }
def WindRosesUptoSaid : Prop := windRosesUptoRow.holds Tryd.pinned (OpenSpec.upto windRosesSpec)

/-- 'wigeonlaw03.WindCovers', WHERE WHAT IT READS IS OF BULK AT MOST 1048576: true; the input reads as it did. -/
def windCoversUptoRow : OpenClaim := { program := "ythihlapmkcelpaadoor", sum := "27fe36bf2d9bd0133685849b018bcf99026ea6d38bbe98068b30a0a3896bbf62", func := "wigeon/wigeonlaw03.WindCovers", spec := "windCovers", unfollowed := true, recurses := true, named := ["strings.asciiSpace", "unicode.White_Space"], apart := false, laid := [("unicode.White_Space", laid_unicode_White_Space), ("strings.asciiSpace", laid_strings_asciiSpace)], narrowed := true }
def WindCoversUptoSaid : Prop := windCoversUptoRow.holds Tryd.pinned (OpenSpec.upto windCoversSpec)

/-- 'wigeonlaw03.WindPipes', WHERE WHAT IT READS IS OF BULK AT MOST 1048576: true; the input reads as it did. -/
def windPipesUptoRow : OpenClaim := { program := "ythihlapmkcelpaadoor", sum := "27fe36bf2d9bd0133685849b018bcf99026ea6d38bbe98068b30a0a3896bbf62", func := "wigeon/wigeonlaw03.WindPipes", spec := "windPipes", unfollowed := true, recurses := true, named := ["strings.asciiSpace", "unicode.White_Space"], apart := false, laid := [("unicode.White_Space", laid_unicode_White_Space), ("strings.asciiSpace", laid_strings_asciiSpace)], narrowed := true }
def WindPipesUptoSaid : Prop := windPipesUptoRow.holds Tryd.pinned (OpenSpec.upto windPipesSpec)

/-- 'wigeonlaw03.WindApart', WHERE WHAT IT READS IS OF BULK AT MOST 1048576: true; the input reads as it did. -/
def windApartUptoRow : OpenClaim := { program := "ythihlapmkcelpaadoor", sum := "27fe36bf2d9bd0133685849b018bcf99026ea6d38bbe98068b30a0a3896bbf62", func := "wigeon/wigeonlaw03.WindApart", spec := "windApart", unfollowed := true, recurses := true, named := ["strings.asciiSpace", "unicode.White_Space"], apart := false, laid := [("unicode.White_Space", laid_unicode_White_Space), ("strings.asciiSpace", laid_strings_asciiSpace)], narrowed := true }
def WindApartUptoSaid : Prop := windApartUptoRow.holds Tryd.pinned (OpenSpec.upto windApartSpec)

/-- 'wigeonlaw03.WindFewest', WHERE WHAT IT READS IS OF BULK AT MOST 1048576: true; the input reads as it did. -/
def windFewestUptoRow : OpenClaim := { program := "ythihlapmkcelpaadoor", sum := "27fe36bf2d9bd0133685849b018bcf99026ea6d38bbe98068b30a0a3896bbf62", func := "wigeon/wigeonlaw03.WindFewest", spec := "windFewest", unfollowed := true, recurses := true, named := ["strings.asciiSpace", "unicode.White_Space", "math/bits.deBruijn32tab", "math/bits.deBruijn64tab"], apart := false, laid := [("math/bits.deBruijn32tab", laid_math_bits_deBruijn32tab), ("math/bits.deBruijn64tab", laid_math_bits_deBruijn64tab), ("unicode.White_Space", laid_unicode_White_Space), ("strings.asciiSpace", laid_strings_asciiSpace)], narrowed := true }
def WindFewestUptoSaid : Prop := windFewestUptoRow.holds Tryd.pinned (OpenSpec.upto windFewestSpec)

/-- 'wigeonlaw03.WindProves', WHERE WHAT IT READS IS OF BULK AT MOST 1048576: true; the input reads as it did. -/
def windProvesUptoRow : OpenClaim := { program := "ythihlapmkcelpaadoor", sum := "27fe36bf2d9bd0133685849b018bcf99026ea6d38bbe98068b30a0a3896bbf62", func := "wigeon/wigeonlaw03.WindProves", spec := "windProves", unfollowed := true, recurses := true, named := ["strings.asciiSpace", "unicode.White_Space", "math/bits.deBruijn32tab", "math/bits.deBruijn64tab"], apart := false, laid := [("math/bits.deBruijn32tab", laid_math_bits_deBruijn32tab), ("math/bits.deBruijn64tab", laid_math_bits_deBruijn64tab), ("unicode.White_Space", laid_unicode_White_Space), ("strings.asciiSpace", laid_strings_asciiSpace)], narrowed := true }
def WindProvesUptoSaid : Prop := windProvesUptoRow.holds Tryd.pinned (OpenSpec.upto windProvesSpec)

end Rows
end Go.Proofs.YthihlapmkcelpaaDoor
