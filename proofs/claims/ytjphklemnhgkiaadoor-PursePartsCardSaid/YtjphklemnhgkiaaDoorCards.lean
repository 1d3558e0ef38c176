/-
  DERIVED. GIVEN WITH THE SEED: THE CARDS: each row of YtjphklemnhgkiaaDoorRows.lean that lists a variable, with what it lists TIED to the program's text (the seventh form; the later family's looks); each row that meets fmt, with fmt's text TOLD by the authors' own Lean function (tested against real Go, not proved from fmt's source: count such statements apart). THE CARD IS WHAT COUNTS. Prove the row's statement (the work); the ties are given (YtjphklemnhgkiaaDoorTie.lean); close each card by the builder's one call (the guide's Derived/Test/ToyasCard.lean, 'card_holds'). Laid BY PROGRAM, IN A SANDBOX (cutbox-door.mjs). By AI agents, Wed Nov 11 2026. No macro, syntax, notation, axiom, sorry.
-/
import Derived.Test.YtjphklemnhgkiaaDoorRows
import GoSem.ClaimSeven
namespace Go.Proofs.YtjphklemnhgkiaaDoor
namespace Rows

/-- THE TIED CARD OF 'wigeonlaw08.PurseBalances'. -/
def purseBalancesCard : Claim7 := { stood := { row := purseBalancesRow, standIns := [], harness := (true, "b93a435e15ec4830f4eb8574ff90802f786dfac237a6d19e016e2aaa7a915d00"), looks := true }, kinds := [], alts := [], laidByText := true, laidKinds := [.data, .data], laidTests := true, laidLooks := .later }
def PurseBalancesCardSaid : Prop := Claim7.holds Tryd.pinned (.plain (OpenSpec.ofChange purseBalancesSpec)) purseBalancesCard

/-- THE TIED CARD OF 'wigeonlaw08.PurseWeighs'. -/
def purseWeighsCard : Claim7 := { stood := { row := purseWeighsRow, standIns := [], harness := (true, "b93a435e15ec4830f4eb8574ff90802f786dfac237a6d19e016e2aaa7a915d00"), looks := true }, kinds := [], alts := [], laidByText := true, laidKinds := [.data, .data], laidTests := true, laidLooks := .later }
def PurseWeighsCardSaid : Prop := Claim7.holds Tryd.pinned (.plain (OpenSpec.ofChange purseWeighsSpec)) purseWeighsCard

/-- THE TIED CARD OF 'wigeonlaw08.PurseShapleys'. -/
def purseShapleysCard : Claim7 := { stood := { row := purseShapleysRow, standIns := [], harness := (true, "b93a435e15ec4830f4eb8574ff90802f786dfac237a6d19e016e2aaa7a915d00"), looks := true }, kinds := [], alts := [], laidByText := true, laidKinds := [.data, .data], laidTests := true, laidLooks := .later }
def PurseShapleysCardSaid : Prop := Claim7.holds Tryd.pinned (.plain (OpenSpec.ofChange purseShapleysSpec)) purseShapleysCard

/-- THE TIED CARD OF 'wigeonlaw08.PurseParts'. -/
def pursePartsCard : Claim7 := { stood := { row := pursePartsRow, standIns := [], harness := (true, "b93a435e15ec4830f4eb8574ff90802f786dfac237a6d19e016e2aaa7a915d00"), looks := true }, kinds := [], alts := [], laidByText := true, laidKinds := [.data, .data], laidTests := true, laidLooks := .later }
def PursePartsCardSaid : Prop := Claim7.holds Tryd.pinned (.plain (OpenSpec.ofChange pursePartsSpec)) pursePartsCard

/-- THE TIED CARD OF 'wigeonlaw08.PurseChecks'. -/
def purseChecksCard : Claim7 := { stood := { row := purseChecksRow, standIns := [], harness := (true, "b93a435e15ec4830f4eb8574ff90802f786dfac237a6d19e016e2aaa7a915d00"), looks := true }, kinds := [], alts := [], laidByText := true, laidKinds := [.data, .data], laidTests := true, laidLooks := .later }
def PurseChecksCardSaid : Prop := Claim7.holds Tryd.pinned (.plain (OpenSpec.ofChange purseChecksSpec)) purseChecksCard

/-- THE TIED CARD OF 'wigeonlaw08.PurseExcesses'. -/
def purseExcessesCard : Claim7 := { stood := { row := purseExcessesRow, standIns := [], harness := (true, "b93a435e15ec4830f4eb8574ff90802f786dfac237a6d19e016e2aaa7a915d00"), looks := true }, kinds := [], alts := [], laidByText := true, laidKinds := [.data, .data], laidTests := true, laidLooks := .later }
def PurseExcessesCardSaid : Prop := Claim7.holds Tryd.pinned (.plain (OpenSpec.ofChange purseExcessesSpec)) purseExcessesCard

/-- THE TIED CARD OF 'wigeonlaw08.PurseAdds'. -/
def purseAddsCard : Claim7 := { stood := { row := purseAddsRow, standIns := [], harness := (true, "b93a435e15ec4830f4eb8574ff90802f786dfac237a6d19e016e2aaa7a915d00"), looks := true }, kinds := [], alts := [], laidByText := true, laidKinds := [.data, .data], laidTests := true, laidLooks := .later }
def PurseAddsCardSaid : Prop := Claim7.holds Tryd.pinned (.plain (OpenSpec.ofChange purseAddsSpec)) purseAddsCard

/-- THE TIED CARD OF 'wigeonlaw08.PurseCores'. -/
def purseCoresCard : Claim7 := { stood := { row := purseCoresRow, standIns := [], harness := (true, "b93a435e15ec4830f4eb8574ff90802f786dfac237a6d19e016e2aaa7a915d00"), looks := true }, kinds := [], alts := [], laidByText := true, laidKinds := [.data, .data], laidTests := true, laidLooks := .later }
def PurseCoresCardSaid : Prop := Claim7.holds Tryd.pinned (.plain (OpenSpec.ofChange purseCoresSpec)) purseCoresCard

/-- THE TIED CARD OF 'wigeonlaw08.PurseDividends'. -/
def purseDividendsCard : Claim7 := { stood := { row := purseDividendsRow, standIns := [], harness := (true, "b93a435e15ec4830f4eb8574ff90802f786dfac237a6d19e016e2aaa7a915d00"), looks := true }, kinds := [], alts := [], laidByText := true, laidKinds := [.data, .data], laidTests := true, laidLooks := .later }
def PurseDividendsCardSaid : Prop := Claim7.holds Tryd.pinned (.plain (OpenSpec.ofChange purseDividendsSpec)) purseDividendsCard

/-- THE TIED CARD OF 'wigeonlaw08.PurseMarginals'. -/
def purseMarginalsCard : Claim7 := { stood := { row := purseMarginalsRow, standIns := [], harness := (true, "b93a435e15ec4830f4eb8574ff90802f786dfac237a6d19e016e2aaa7a915d00"), looks := true }, kinds := [], alts := [], laidByText := true, laidKinds := [.data, .data], laidTests := true, laidLooks := .later }
def PurseMarginalsCardSaid : Prop := Claim7.holds Tryd.pinned (.plain (OpenSpec.ofChange purseMarginalsSpec)) purseMarginalsCard

/-- THE TIED CARD OF 'wigeonlaw08.PurseKinds'. -/
def purseKindsCard : Claim7 := { stood := { row := purseKindsRow, standIns := [], harness := (true, "b93a435e15ec4830f4eb8574ff90802f786dfac237a6d19e016e2aaa7a915d00"), looks := true }, kinds := [], alts := [], laidByText := true, laidKinds := [.data, .data], laidTests := true, laidLooks := .later }
def PurseKindsCardSaid : Prop := Claim7.holds Tryd.pinned (.plain (OpenSpec.ofChange purseKindsSpec)) purseKindsCard

/-- THE TIED CARD OF 'wigeontop.TopPurse'. -/
def topPurseCard : Claim7 := { stood := { row := topPurseRow, standIns := [], harness := (true, "b93a435e15ec4830f4eb8574ff90802f786dfac237a6d19e016e2aaa7a915d00"), looks := true }, kinds := [], alts := [], laidByText := true, laidKinds := [.data, .data], laidTests := true, laidLooks := .later }
def TopPurseCardSaid : Prop := Claim7.holds Tryd.pinned (.plain (OpenSpec.ofChange topPurseSpec)) topPurseCard

/-- THE SECOND FORM's CARD OF 'wigeonlaw08.PurseBalances'. -/
def purseBalancesUptoCard : Claim7 := { stood := { row := purseBalancesUptoRow, standIns := [], harness := (true, "b93a435e15ec4830f4eb8574ff90802f786dfac237a6d19e016e2aaa7a915d00"), looks := true }, kinds := [], alts := [], laidByText := true, laidKinds := [.data, .data], laidTests := true, laidLooks := .later }
def PurseBalancesUptoCardSaid : Prop := Claim7.holds Tryd.pinned (.plain (OpenSpec.upto purseBalancesSpec)) purseBalancesUptoCard

/-- THE SECOND FORM's CARD OF 'wigeonlaw08.PurseWeighs'. -/
def purseWeighsUptoCard : Claim7 := { stood := { row := purseWeighsUptoRow, standIns := [], harness := (true, "b93a435e15ec4830f4eb8574ff90802f786dfac237a6d19e016e2aaa7a915d00"), looks := true }, kinds := [], alts := [], laidByText := true, laidKinds := [.data, .data], laidTests := true, laidLooks := .later }
def PurseWeighsUptoCardSaid : Prop := Claim7.holds Tryd.pinned (.plain (OpenSpec.upto purseWeighsSpec)) purseWeighsUptoCard

/-- THE SECOND FORM's CARD OF 'wigeonlaw08.PurseShapleys'. -/
def purseShapleysUptoCard : Claim7 := { stood := { row := purseShapleysUptoRow, standIns := [], harness := (true, "b93a435e15ec4830f4eb8574ff90802f786dfac237a6d19e016e2aaa7a915d00"), looks := true }, kinds := [], alts := [], laidByText := true, laidKinds := [.data, .data], laidTests := true, laidLooks := .later }
def PurseShapleysUptoCardSaid : Prop := Claim7.holds Tryd.pinned (.plain (OpenSpec.upto purseShapleysSpec)) purseShapleysUptoCard

/-- THE SECOND FORM's CARD OF 'wigeonlaw08.PurseParts'. -/
def pursePartsUptoCard : Claim7 := { stood := { row := pursePartsUptoRow, standIns := [], harness := (true, "b93a435e15ec4830f4eb8574ff90802f786dfac237a6d19e016e2aaa7a915d00"), looks := true }, kinds := [], alts := [], laidByText := true, laidKinds := [.data, .data], laidTests := true, laidLooks := .later }
def PursePartsUptoCardSaid : Prop := Claim7.holds Tryd.pinned (.plain (OpenSpec.upto pursePartsSpec)) pursePartsUptoCard

/-- THE SECOND FORM's CARD OF 'wigeonlaw08.PurseChecks'. -/
def purseChecksUptoCard : Claim7 := { stood := { row := purseChecksUptoRow, standIns := [], harness := (true, "b93a435e15ec4830f4eb8574ff90802f786dfac237a6d19e016e2aaa7a915d00"), looks := true }, kinds := [], alts := [], laidByText := true, laidKinds := [.data, .data], laidTests := true, laidLooks := .later }
def PurseChecksUptoCardSaid : Prop := Claim7.holds Tryd.pinned (.plain (OpenSpec.upto purseChecksSpec)) purseChecksUptoCard

/-- THE SECOND FORM's CARD OF 'wigeonlaw08.PurseExcesses'. -/
def purseExcessesUptoCard : Claim7 := { stood := { row := purseExcessesUptoRow, standIns := [], harness := (true, "b93a435e15ec4830f4eb8574ff90802f786dfac237a6d19e016e2aaa7a915d00"), looks := true }, kinds := [], alts := [], laidByText := true, laidKinds := [.data, .data], laidTests := true, laidLooks := .later }
def PurseExcessesUptoCardSaid : Prop := Claim7.holds Tryd.pinned (.plain (OpenSpec.upto purseExcessesSpec)) purseExcessesUptoCard

/-- THE SECOND FORM's CARD OF 'wigeonlaw08.PurseAdds'. -/
def purseAddsUptoCard : Claim7 := { stood := { row := purseAddsUptoRow, standIns := [], harness := (true, "b93a435e15ec4830f4eb8574ff90802f786dfac237a6d19e016e2aaa7a915d00"), looks := true }, kinds := [], alts := [], laidByText := true, laidKinds := [.data, .data], laidTests := true, laidLooks := .later }
def PurseAddsUptoCardSaid : Prop := Claim7.holds Tryd.pinned (.plain (OpenSpec.upto purseAddsSpec)) purseAddsUptoCard

/-- THE SECOND FORM's CARD OF 'wigeonlaw08.PurseCores'. -/
def purseCoresUptoCard : Claim7 := { stood := { row := purseCoresUptoRow, standIns := [], harness := (true, "b93a435e15ec4830f4eb8574ff90802f786dfac237a6d19e016e2aaa7a915d00"), looks := true }, kinds := [], alts := [], laidByText := true, laidKinds := [.data, .data], laidTests := true, laidLooks := .later }
def PurseCoresUptoCardSaid : Prop := Claim7.holds Tryd.pinned (.plain (OpenSpec.upto purseCoresSpec)) purseCoresUptoCard

/-- THE SECOND FORM's CARD OF 'wigeonlaw08.PurseDividends'. -/
def purseDividendsUptoCard : Claim7 := { stood := { row := purseDividendsUptoRow, standIns := [], harness := (true, "b93a435e15ec4830f4eb8574ff90802f786dfac237a6d19e016e2aaa7a915d00"), looks := true }, kinds := [], alts := [], laidByText := true, laidKinds := [.data, .data], laidTests := true, laidLooks := .later }
def PurseDividendsUptoCardSaid : Prop := Claim7.holds Tryd.pinned (.plain (OpenSpec.upto purseDividendsSpec)) purseDividendsUptoCard

/-- THE SECOND FORM's CARD OF 'wigeonlaw08.PurseMarginals'. -/
def purseMarginalsUptoCard : Claim7 := { stood := { row := purseMarginalsUptoRow, standIns := [], harness := (true, "b93a435e15ec4830f4eb8574ff90802f786dfac237a6d19e016e2aaa7a915d00"), looks := true }, kinds := [], alts := [], laidByText := true, laidKinds := [.data, .data], laidTests := true, laidLooks := .later }
def PurseMarginalsUptoCardSaid : Prop := Claim7.holds Tryd.pinned (.plain (OpenSpec.upto purseMarginalsSpec)) purseMarginalsUptoCard

/-- THE SECOND FORM's CARD OF 'wigeonlaw08.PurseKinds'. -/
def purseKindsUptoCard : Claim7 := { stood := { row := purseKindsUptoRow, standIns := [], harness := (true, "b93a435e15ec4830f4eb8574ff90802f786dfac237a6d19e016e2aaa7a915d00"), looks := true }, kinds := [], alts := [], laidByText := true, laidKinds := [.data, .data], laidTests := true, laidLooks := .later }
def PurseKindsUptoCardSaid : Prop := Claim7.holds Tryd.pinned (.plain (OpenSpec.upto purseKindsSpec)) purseKindsUptoCard

/-- THE SECOND FORM's CARD OF 'wigeontop.TopPurse'. -/
def topPurseUptoCard : Claim7 := { stood := { row := topPurseUptoRow, standIns := [], harness := (true, "b93a435e15ec4830f4eb8574ff90802f786dfac237a6d19e016e2aaa7a915d00"), looks := true }, kinds := [], alts := [], laidByText := true, laidKinds := [.data, .data], laidTests := true, laidLooks := .later }
def TopPurseUptoCardSaid : Prop := Claim7.holds Tryd.pinned (.plain (OpenSpec.upto topPurseSpec)) topPurseUptoCard
end Rows
end Go.Proofs.YtjphklemnhgkiaaDoor
