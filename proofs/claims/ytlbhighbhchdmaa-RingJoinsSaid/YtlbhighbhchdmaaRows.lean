/-
  No cell of these rows narrows 'for every input' (looked for: loops, veiled, ifaces, maps, wideKeys, modest, calm, conditions, laid).
  DERIVED. THE GIVEN ROWS OF THIS SEAT. 13 by the template 'for every input the law returns true; each argument reads behind the call as it read before'; 0 by the template 'total and deterministic' (their statements: YtlbhighbhchdmaaTotals.lean).
  GIVEN WITH THE SEED: the statements are not yours to turn. If you find one false, say at which input.
  Laid BY PROGRAM, IN A SANDBOX (cutbox-rows.mjs): the forced cells as the released guide's own fill.sh prints them over the translation df2093a0b2adfc8a… (all of the seat's roots in one cut). By AI agents, Wed Nov 11 2026. No macro, syntax, notation, axiom, sorry.
-/
import Derived.Test.YtlbhighbhchdmaaChecked
import GoSem.Claim
import GoSem.ClaimJoined
import GoSem.ClaimMapViews
import Derived.JoinedTies
import Derived.KernelRfl
namespace Go.Proofs.Ytlbhighbhchdmaa
/- THE CELL 'sum', in the pinned program and in every row, IS THE sha256 OF THE DUMP (.gsa) THAT YtlbhighbhchdmaaProg.lean LOADS. Nothing in Lean hashes anything: it is a label: what it is worth is what the hold of that sum in a sandbox is worth. -/
noncomputable def Try.pinned : Pinned := { name := "ytlbhighbhchdmaa", sum := "df2093a0b2adfc8a21a7e7c56f44749574d6cf6b354f73800753af38ac334ff2", checked := Try.checked }
namespace Rows
def none {H : Type} : Left H := { results := [], args := [] }

/-- 'wigeonlaw01.RingGroups': WHATEVER THE INPUT: true; the input reads as it did. -/
def ringGroupsSpec : ChangeSpec := { name := "ringGroups", fn := fun _ => fun
  | [d1, d2, d3] => { results := [.lit (.bool true)], args := [d1, d2, d3] }
  | _ => none }
def ringGroupsRow : OpenClaim := { program := "ytlbhighbhchdmaa", sum := "df2093a0b2adfc8a21a7e7c56f44749574d6cf6b354f73800753af38ac334ff2", func := "wigeon/wigeonlaw01.RingGroups", spec := "ringGroups", apart := false }
def RingGroupsSaid : Prop := ringGroupsRow.holds Try.pinned (OpenSpec.ofChange ringGroupsSpec)

/-- ITS FALSE NEIGHBOUR: 'it returns false'. Refute it at one input. -/
def ringGroupsWrong : ChangeSpec := { name := "ringGroups", fn := fun _ => fun
  | [d1, d2, d3] => { results := [.lit (.bool false)], args := [d1, d2, d3] }
  | _ => none }
def RingGroupsWrongFalsely : Prop := ringGroupsRow.holds Try.pinned (OpenSpec.ofChange ringGroupsWrong)

/-- 'wigeonlaw01.RingSums': WHATEVER THE INPUT: true; the input reads as it did. -/
def ringSumsSpec : ChangeSpec := { name := "ringSums", fn := fun _ => fun
  | [d] => { results := [.lit (.bool true)], args := [d] }
  | _ => none }
def ringSumsRow : OpenClaim := { program := "ytlbhighbhchdmaa", sum := "df2093a0b2adfc8a21a7e7c56f44749574d6cf6b354f73800753af38ac334ff2", func := "wigeon/wigeonlaw01.RingSums", spec := "ringSums", apart := false }
def RingSumsSaid : Prop := ringSumsRow.holds Try.pinned (OpenSpec.ofChange ringSumsSpec)

/-- ITS FALSE NEIGHBOUR: 'it returns false'. Refute it at one input. -/
def ringSumsWrong : ChangeSpec := { name := "ringSums", fn := fun _ => fun
  | [d] => { results := [.lit (.bool false)], args := [d] }
  | _ => none }
def RingSumsWrongFalsely : Prop := ringSumsRow.holds Try.pinned (OpenSpec.ofChange ringSumsWrong)

/-- 'wigeonlaw01.RingFinds': WHATEVER THE INPUT: true; the input reads as it did. -/
def ringFindsSpec : ChangeSpec := { name := "ringFinds", fn := fun _ => fun
  | [d1, d2, d3] => { results := [.lit (.bool true)], args := [d1, d2, d3] }
  | _ => none }
def ringFindsRow : OpenClaim := { program := "ytlbhighbhchdmaa", sum := "df2093a0b2adfc8a21a7e7c56f44749574d6cf6b354f73800753af38ac334ff2", func := "wigeon/wigeonlaw01.RingFinds", spec := "ringFinds", apart := false }
def RingFindsSaid : Prop := ringFindsRow.holds Try.pinned (OpenSpec.ofChange ringFindsSpec)

/-- ITS FALSE NEIGHBOUR: 'it returns false'. Refute it at one input. -/
def ringFindsWrong : ChangeSpec := { name := "ringFinds", fn := fun _ => fun
  | [d1, d2, d3] => { results := [.lit (.bool false)], args := [d1, d2, d3] }
  | _ => none }
def RingFindsWrongFalsely : Prop := ringFindsRow.holds Try.pinned (OpenSpec.ofChange ringFindsWrong)

/-- 'wigeonlaw01.RingTimes': WHATEVER THE INPUT: true; the input reads as it did. -/
def ringTimesSpec : ChangeSpec := { name := "ringTimes", fn := fun _ => fun
  | [d1, d2, d3] => { results := [.lit (.bool true)], args := [d1, d2, d3] }
  | _ => none }
def ringTimesRow : OpenClaim := { program := "ytlbhighbhchdmaa", sum := "df2093a0b2adfc8a21a7e7c56f44749574d6cf6b354f73800753af38ac334ff2", func := "wigeon/wigeonlaw01.RingTimes", spec := "ringTimes", apart := false }
def RingTimesSaid : Prop := ringTimesRow.holds Try.pinned (OpenSpec.ofChange ringTimesSpec)

/-- ITS FALSE NEIGHBOUR: 'it returns false'. Refute it at one input. -/
def ringTimesWrong : ChangeSpec := { name := "ringTimes", fn := fun _ => fun
  | [d1, d2, d3] => { results := [.lit (.bool false)], args := [d1, d2, d3] }
  | _ => none }
def RingTimesWrongFalsely : Prop := ringTimesRow.holds Try.pinned (OpenSpec.ofChange ringTimesWrong)

/-- 'wigeonlaw01.RingFits': WHATEVER THE INPUT: true; the input reads as it did. -/
def ringFitsSpec : ChangeSpec := { name := "ringFits", fn := fun _ => fun
  | [d1, d2] => { results := [.lit (.bool true)], args := [d1, d2] }
  | _ => none }
def ringFitsRow : OpenClaim := { program := "ytlbhighbhchdmaa", sum := "df2093a0b2adfc8a21a7e7c56f44749574d6cf6b354f73800753af38ac334ff2", func := "wigeon/wigeonlaw01.RingFits", spec := "ringFits", apart := false }
def RingFitsSaid : Prop := ringFitsRow.holds Try.pinned (OpenSpec.ofChange ringFitsSpec)

/-- ITS FALSE NEIGHBOUR: 'it returns false'. Refute it at one input. -/
def ringFitsWrong : ChangeSpec := { name := "ringFits", fn := fun _ => fun
  | [d1, d2] => { results := [.lit (.bool false)], args := [d1, d2] }
  | _ => none }
def RingFitsWrongFalsely : Prop := ringFitsRow.holds Try.pinned (OpenSpec.ofChange ringFitsWrong)

/-- 'wigeonlaw01.RingReads': WHATEVER THE INPUT: true; the input reads as it did. -/
def ringReadsSpec : ChangeSpec := { name := "ringReads", fn := fun _ => fun
  | [d] => { results := [.lit (.bool true)], args := [d] }
  | _ => none }
def ringReadsRow : OpenClaim := { program := "ytlbhighbhchdmaa", sum := "df2093a0b2adfc8a21a7e7c56f44749574d6cf6b354f73800753af38ac334ff2", func := "wigeon/wigeonlaw01.RingReads", spec := "ringReads", apart := false }
def RingReadsSaid : Prop := ringReadsRow.holds Try.pinned (OpenSpec.ofChange ringReadsSpec)

/-- ITS FALSE NEIGHBOUR: 'it returns false'. Refute it at one input. -/
def ringReadsWrong : ChangeSpec := { name := "ringReads", fn := fun _ => fun
  | [d] => { results := [.lit (.bool false)], args := [d] }
  | _ => none }
def RingReadsWrongFalsely : Prop := ringReadsRow.holds Try.pinned (OpenSpec.ofChange ringReadsWrong)

/-- 'wigeonlaw01.RingMakes': WHATEVER THE INPUT: true; the input reads as it did. -/
def ringMakesSpec : ChangeSpec := { name := "ringMakes", fn := fun _ => fun
  | [d1, d2] => { results := [.lit (.bool true)], args := [d1, d2] }
  | _ => none }
def ringMakesRow : OpenClaim := { program := "ytlbhighbhchdmaa", sum := "df2093a0b2adfc8a21a7e7c56f44749574d6cf6b354f73800753af38ac334ff2", func := "wigeon/wigeonlaw01.RingMakes", spec := "ringMakes", apart := false }
def RingMakesSaid : Prop := ringMakesRow.holds Try.pinned (OpenSpec.ofChange ringMakesSpec)

/-- ITS FALSE NEIGHBOUR: 'it returns false'. Refute it at one input. -/
def ringMakesWrong : ChangeSpec := { name := "ringMakes", fn := fun _ => fun
  | [d1, d2] => { results := [.lit (.bool false)], args := [d1, d2] }
  | _ => none }
def RingMakesWrongFalsely : Prop := ringMakesRow.holds Try.pinned (OpenSpec.ofChange ringMakesWrong)

/-- 'wigeonlaw01.RingRestores': WHATEVER THE INPUT: true; the input reads as it did. -/
def ringRestoresSpec : ChangeSpec := { name := "ringRestores", fn := fun _ => fun
  | [d1, d2, d3] => { results := [.lit (.bool true)], args := [d1, d2, d3] }
  | _ => none }
def ringRestoresRow : OpenClaim := { program := "ytlbhighbhchdmaa", sum := "df2093a0b2adfc8a21a7e7c56f44749574d6cf6b354f73800753af38ac334ff2", func := "wigeon/wigeonlaw01.RingRestores", spec := "ringRestores", apart := false }
def RingRestoresSaid : Prop := ringRestoresRow.holds Try.pinned (OpenSpec.ofChange ringRestoresSpec)

/-- ITS FALSE NEIGHBOUR: 'it returns false'. Refute it at one input. -/
def ringRestoresWrong : ChangeSpec := { name := "ringRestores", fn := fun _ => fun
  | [d1, d2, d3] => { results := [.lit (.bool false)], args := [d1, d2, d3] }
  | _ => none }
def RingRestoresWrongFalsely : Prop := ringRestoresRow.holds Try.pinned (OpenSpec.ofChange ringRestoresWrong)

/-- 'wigeonlaw01.RingBlocks': WHATEVER THE INPUT: true; the input reads as it did. -/
def ringBlocksSpec : ChangeSpec := { name := "ringBlocks", fn := fun _ => fun
  | [d1, d2] => { results := [.lit (.bool true)], args := [d1, d2] }
  | _ => none }
def ringBlocksRow : OpenClaim := { program := "ytlbhighbhchdmaa", sum := "df2093a0b2adfc8a21a7e7c56f44749574d6cf6b354f73800753af38ac334ff2", func := "wigeon/wigeonlaw01.RingBlocks", spec := "ringBlocks", apart := false }
def RingBlocksSaid : Prop := ringBlocksRow.holds Try.pinned (OpenSpec.ofChange ringBlocksSpec)

/-- ITS FALSE NEIGHBOUR: 'it returns false'. Refute it at one input. -/
def ringBlocksWrong : ChangeSpec := { name := "ringBlocks", fn := fun _ => fun
  | [d1, d2] => { results := [.lit (.bool false)], args := [d1, d2] }
  | _ => none }
def RingBlocksWrongFalsely : Prop := ringBlocksRow.holds Try.pinned (OpenSpec.ofChange ringBlocksWrong)

/-- 'wigeonlaw01.RingCounts': WHATEVER THE INPUT: true; the input reads as it did. -/
def ringCountsSpec : ChangeSpec := { name := "ringCounts", fn := fun _ => fun
  | [d] => { results := [.lit (.bool true)], args := [d] }
  | _ => none }
def ringCountsRow : OpenClaim := { program := "ytlbhighbhchdmaa", sum := "df2093a0b2adfc8a21a7e7c56f44749574d6cf6b354f73800753af38ac334ff2", func := "wigeon/wigeonlaw01.RingCounts", spec := "ringCounts", apart := false }
def RingCountsSaid : Prop := ringCountsRow.holds Try.pinned (OpenSpec.ofChange ringCountsSpec)

/-- ITS FALSE NEIGHBOUR: 'it returns false'. Refute it at one input. -/
def ringCountsWrong : ChangeSpec := { name := "ringCounts", fn := fun _ => fun
  | [d] => { results := [.lit (.bool false)], args := [d] }
  | _ => none }
def RingCountsWrongFalsely : Prop := ringCountsRow.holds Try.pinned (OpenSpec.ofChange ringCountsWrong)

/-- 'wigeonlaw01.RingNears': WHATEVER THE INPUT: true; the input reads as it did. -/
def ringNearsSpec : ChangeSpec := { name := "ringNears", fn := fun _ => fun
  | [d] => { results := [.lit (.bool true)], args := [d] }
  | _ => none }
def ringNearsRow : OpenClaim := { program := "ytlbhighbhchdmaa", sum := "df2093a0b2adfc8a21a7e7c56f44749574d6cf6b354f73800753af38ac334ff2", func := "wigeon/wigeonlaw01.RingNears", spec := "ringNears", unfollowed := true, recurses := true, apart := false }
def RingNearsSaid : Prop := ringNearsRow.holds Try.pinned (OpenSpec.ofChange ringNearsSpec)

/-- ITS FALSE NEIGHBOUR: 'it returns false'. Refute it at one input. -/
def ringNearsWrong : ChangeSpec := { name := "ringNears", fn := fun _ => fun
  | [d] => { results := [.lit (.bool false)], args := [d] }
  | _ => none }
def RingNearsWrongFalsely : Prop := ringNearsRow.holds Try.pinned (OpenSpec.ofChange ringNearsWrong)

/-- 'wigeonlaw01.RingJoins': WHATEVER THE INPUT: true; the input reads as it did. -/
def ringJoinsSpec : ChangeSpec := { name := "ringJoins", fn := fun _ => fun
  | [d1, d2] => { results := [.lit (.bool true)], args := [d1, d2] }
  | _ => none }
def ringJoinsRow : OpenClaim := { program := "ytlbhighbhchdmaa", sum := "df2093a0b2adfc8a21a7e7c56f44749574d6cf6b354f73800753af38ac334ff2", func := "wigeon/wigeonlaw01.RingJoins", spec := "ringJoins", unfollowed := true, recurses := true, apart := false }
def RingJoinsSaid : Prop := ringJoinsRow.holds Try.pinned (OpenSpec.ofChange ringJoinsSpec)

/-- ITS FALSE NEIGHBOUR: 'it returns false'. Refute it at one input. -/
def ringJoinsWrong : ChangeSpec := { name := "ringJoins", fn := fun _ => fun
  | [d1, d2] => { results := [.lit (.bool false)], args := [d1, d2] }
  | _ => none }
def RingJoinsWrongFalsely : Prop := ringJoinsRow.holds Try.pinned (OpenSpec.ofChange ringJoinsWrong)

/-- 'wigeontop.TopRings': WHATEVER THE INPUT: true; the input reads as it did. -/
def topRingsSpec : ChangeSpec := { name := "topRings", fn := fun _ => fun
  | [d1, d2, d3] => { results := [.lit (.bool true)], args := [d1, d2, d3] }
  | _ => none }
def topRingsRow : OpenClaim := { program := "ytlbhighbhchdmaa", sum := "df2093a0b2adfc8a21a7e7c56f44749574d6cf6b354f73800753af38ac334ff2", func := "wigeon/wigeontop.TopRings", spec := "topRings", unfollowed := true, recurses := true, apart := false }
def TopRingsSaid : Prop := topRingsRow.holds Try.pinned (OpenSpec.ofChange topRingsSpec)

/-- ITS FALSE NEIGHBOUR: 'it returns false'. Refute it at one input. -/
def topRingsWrong : ChangeSpec := { name := "topRings", fn := fun _ => fun
  | [d1, d2, d3] => { results := [.lit (.bool false)], args := [d1, d2, d3] }
  | _ => none }
def TopRingsWrongFalsely : Prop := topRingsRow.holds Try.pinned (OpenSpec.ofChange topRingsWrong)

/- THE SECOND FORM. 'bulk': how many values and letters a reading holds, each counted each time it is reached (what is shared counts as often as it is met; a slice's spare places count too). A statement '..UptoSaid' is the law's where the arguments, and the package variables that the reading takes, are together of bulk at most 1048576: NARROWER than '..Said'. Prove '..Said' where nothing that the law and all that it calls make is longer than what came in: it says more and counts as full. Else prove '..UptoSaid'. A law counts once. -/
mutual
def uptoBulk {H : Type} : DataW H → Nat
  | .lit (.string bytes) => bytes.length + 1
  | .lit _ => 1
  | .nil => 1
  | .ptr d => uptoBulk d + 1
  | .slice elems spare => uptoBulkAll elems + uptoBulkAll spare + 1
  | .agg parts => uptoBulkAll parts + 1
  | .iface _ d => uptoBulk d + 1
  | .map entries => uptoBulkEntries entries + 1
  | .held _ => 1
def uptoBulkAll {H : Type} : List (DataW H) → Nat
  | [] => 0
  | d :: r => uptoBulk d + uptoBulkAll r
def uptoBulkEntries {H : Type} : List (Lit × DataW H) → Nat
  | [] => 0
  | x :: r => uptoBulkEntry x + uptoBulkEntries r
def uptoBulkEntry {H : Type} : Lit × DataW H → Nat
  | (.string bytes, d) => bytes.length + uptoBulk d + 1
  | (_, d) => uptoBulk d + 1
 end
def uptoSmall : (H : Type) → List (DataW H) → Bool := fun _ ds => decide (uptoBulkAll ds ≤ 1048576)
def OpenSpec.upto (s : _root_.Go.ChangeSpec) : _root_.Go.OpenSpec := { _root_.Go.OpenSpec.ofChange s with cond := some uptoSmall }

/-- 'wigeonlaw01.RingGroups', WHERE WHAT IT READS IS OF BULK AT MOST 1048576: true; the input reads as it did. -/
def ringGroupsUptoRow : OpenClaim := { program := "ytlbhighbhchdmaa", sum := "df2093a0b2adfc8a21a7e7c56f44749574d6cf6b354f73800753af38ac334ff2", func := "wigeon/wigeonlaw01.RingGroups", spec := "ringGroups", apart := false, narrowed := true }
def RingGroupsUptoSaid : Prop := ringGroupsUptoRow.holds Try.pinned (OpenSpec.upto ringGroupsSpec)

/-- 'wigeonlaw01.RingSums', WHERE WHAT IT READS IS OF BULK AT MOST 1048576: true; the input reads as it did. -/
def ringSumsUptoRow : OpenClaim := { program := "ytlbhighbhchdmaa", sum := "df2093a0b2adfc8a21a7e7c56f44749574d6cf6b354f73800753af38ac334ff2", func := "wigeon/wigeonlaw01.RingSums", spec := "ringSums", apart := false, narrowed := true }
def RingSumsUptoSaid : Prop := ringSumsUptoRow.holds Try.pinned (OpenSpec.upto ringSumsSpec)

/-- 'wigeonlaw01.RingFinds', WHERE WHAT IT READS IS OF BULK AT MOST 1048576: true; the input reads as it did. -/
def ringFindsUptoRow : OpenClaim := { program := "ytlbhighbhchdmaa", sum := "df2093a0b2adfc8a21a7e7c56f44749574d6cf6b354f73800753af38ac334ff2", func := "wigeon/wigeonlaw01.RingFinds", spec := "ringFinds", apart := false, narrowed := true }
def RingFindsUptoSaid : Prop := ringFindsUptoRow.holds Try.pinned (OpenSpec.upto ringFindsSpec)

/-- 'wigeonlaw01.RingTimes', WHERE WHAT IT READS IS OF BULK AT MOST 1048576: true; the input reads as it did. -/
def ringTimesUptoRow : OpenClaim := { program := "ytlbhighbhchdmaa", sum := "df2093a0b2adfc8a21a7e7c56f44749574d6cf6b354f73800753af38ac334ff2", func := "wigeon/wigeonlaw01.RingTimes", spec := "ringTimes", apart := false, narrowed := true }
def RingTimesUptoSaid : Prop := ringTimesUptoRow.holds Try.pinned (OpenSpec.upto ringTimesSpec)

/-- 'wigeonlaw01.RingFits', WHERE WHAT IT READS IS OF BULK AT MOST 1048576: true; the input reads as it did. -/
def ringFitsUptoRow : OpenClaim := { program := "ytlbhighbhchdmaa", sum := "df2093a0b2adfc8a21a7e7c56f44749574d6cf6b354f73800753af38ac334ff2", func := "wigeon/wigeonlaw01.RingFits", spec := "ringFits", apart := false, narrowed := true }
def RingFitsUptoSaid : Prop := ringFitsUptoRow.holds Try.pinned (OpenSpec.upto ringFitsSpec)

/-- 'wigeonlaw01.RingReads', WHERE WHAT IT READS IS OF BULK AT MOST 1048576: true; the input reads as it did. -/
def ringReadsUptoRow : OpenClaim := { program := "ytlbhighbhchdmaa", sum := "df2093a0b2adfc8a21a7e7c56f44749574d6cf6b354f73800753af38ac334ff2", func := "wigeon/wigeonlaw01.RingReads", spec := "ringReads", apart := false, narrowed := true }
def RingReadsUptoSaid : Prop := ringReadsUptoRow.holds Try.pinned (OpenSpec.upto ringReadsSpec)

/-- 'wigeonlaw01.RingMakes', WHERE WHAT IT READS IS OF BULK AT MOST 1048576: true; the input reads as it did. -/
def ringMakesUptoRow : OpenClaim := { program := "ytlbhighbhchdmaa", sum := "df2093a0b2adfc8a21a7e7c56f44749574d6cf6b354f73800753af38ac334ff2", func := "wigeon/wigeonlaw01.RingMakes", spec := "ringMakes", apart := false, narrowed := true }
def RingMakesUptoSaid : Prop := ringMakesUptoRow.holds Try.pinned (OpenSpec.upto ringMakesSpec)

/-- 'wigeonlaw01.RingRestores', WHERE WHAT IT READS IS OF BULK AT MOST 1048576: true; the input reads as it did. -/
def ringRestoresUptoRow : OpenClaim := { program := "ytlbhighbhchdmaa", sum := "df2093a0b2adfc8a21a7e7c56f44749574d6cf6b354f73800753af38ac334ff2", func := "wigeon/wigeonlaw01.RingRestores", spec := "ringRestores", apart := false, narrowed := true }
def RingRestoresUptoSaid : Prop := ringRestoresUptoRow.holds Try.pinned (OpenSpec.upto ringRestoresSpec)

/-- 'wigeonlaw01.RingBlocks', WHERE WHAT IT READS IS OF BULK AT MOST 1048576: true; the input reads as it did. -/
def ringBlocksUptoRow : OpenClaim := { program := "ytlbhighbhchdmaa", sum := "df2093a0b2adfc8a21a7e7c56f44749574d6cf6b354f73800753af38ac334ff2", func := "wigeon/wigeonlaw01.RingBlocks", spec := "ringBlocks", apart := false, narrowed := true }
def RingBlocksUptoSaid : Prop := ringBlocksUptoRow.holds Try.pinned (OpenSpec.upto ringBlocksSpec)

/-- 'wigeonlaw01.RingCounts', WHERE WHAT IT READS IS OF BULK AT MOST 1048576: true; the input reads as it did. -/
def ringCountsUptoRow : OpenClaim := { program := "ytlbhighbhchdmaa", sum := "df2093a0b2adfc8a21a7e7c56f44749574d6cf6b354f73800753af38ac334ff2", func := "wigeon/wigeonlaw01.RingCounts", spec := "ringCounts", apart := false, narrowed := true }
def RingCountsUptoSaid : Prop := ringCountsUptoRow.holds Try.pinned (OpenSpec.upto ringCountsSpec)

/-- 'wigeonlaw01.RingNears', WHERE WHAT IT READS IS OF BULK AT MOST 1048576: true; the input reads as it did. -/
def ringNearsUptoRow : OpenClaim := { program := "ytlbhighbhchdmaa", sum := "df2093a0b2adfc8a21a7e7c56f44749574d6cf6b354f73800753af38ac334ff2", func := "wigeon/wigeonlaw01.RingNears", spec := "ringNears", unfollowed := true, recurses := true, apart := false, narrowed := true }
def RingNearsUptoSaid : Prop := ringNearsUptoRow.holds Try.pinned (OpenSpec.upto ringNearsSpec)

/-- 'wigeonlaw01.RingJoins', WHERE WHAT IT READS IS OF BULK AT MOST 1048576: true; the input reads as it did. -/
def ringJoinsUptoRow : OpenClaim := { program := "ytlbhighbhchdmaa", sum := "df2093a0b2adfc8a21a7e7c56f44749574d6cf6b354f73800753af38ac334ff2", func := "wigeon/wigeonlaw01.RingJoins", spec := "ringJoins", unfollowed := true, recurses := true, apart := false, narrowed := true }
def RingJoinsUptoSaid : Prop := ringJoinsUptoRow.holds Try.pinned (OpenSpec.upto ringJoinsSpec)

/-- 'wigeontop.TopRings', WHERE WHAT IT READS IS OF BULK AT MOST 1048576: true; the input reads as it did. -/
def topRingsUptoRow : OpenClaim := { program := "ytlbhighbhchdmaa", sum := "df2093a0b2adfc8a21a7e7c56f44749574d6cf6b354f73800753af38ac334ff2", func := "wigeon/wigeontop.TopRings", spec := "topRings", unfollowed := true, recurses := true, apart := false, narrowed := true }
def TopRingsUptoSaid : Prop := topRingsUptoRow.holds Try.pinned (OpenSpec.upto topRingsSpec)

end Rows
end Go.Proofs.Ytlbhighbhchdmaa
