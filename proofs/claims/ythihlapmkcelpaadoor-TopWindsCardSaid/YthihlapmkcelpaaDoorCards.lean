/-
  DERIVED. GIVEN WITH THE SEED: THE CARDS: each row of YthihlapmkcelpaaDoorRows.lean that lists a variable, with what it lists TIED to the program's text (the seventh form; the later family's looks); each row that meets fmt, with fmt's text TOLD by the authors' own Lean function (tested against real Go, not proved from fmt's source: count such statements apart). THE CARD IS WHAT COUNTS. Prove the row's statement (the work); the ties are given (YthihlapmkcelpaaDoorTie.lean); close each card by the builder's one call (the guide's Derived/Test/ToyasCard.lean, 'card_holds'). Laid BY PROGRAM, IN A SANDBOX (cutbox-door.mjs). By AI agents, Wed Nov 11 2026. No macro, syntax, notation, axiom, sorry.
-/
import Derived.Test.YthihlapmkcelpaaDoorRows
import GoSem.ClaimSeven
namespace Go.Proofs.YthihlapmkcelpaaDoor
namespace Rows

/-- THE TIED CARD OF 'wigeonlaw03.WindNames'. -/
def windNamesCard : Claim7 := { stood := { row := windNamesRow, standIns := [], harness := (true, "0b9f4bf6df015514ac357915e65ccc99b4a27ede4e8e8895b3fd841a72466c44"), looks := false }, kinds := [], alts := [], laidByText := true, laidKinds := [.listed, .data], laidTests := true, laidLooks := .later }
def WindNamesCardSaid : Prop := Claim7.holds Tryd.pinned (.plain (OpenSpec.ofChange windNamesSpec)) windNamesCard

/-- THE TIED CARD OF 'wigeonlaw03.WindTurns'. -/
def windTurnsCard : Claim7 := { stood := { row := windTurnsRow, standIns := [], harness := (true, "0b9f4bf6df015514ac357915e65ccc99b4a27ede4e8e8895b3fd841a72466c44"), looks := false }, kinds := [], alts := [], laidByText := true, laidKinds := [.listed, .data], laidTests := true, laidLooks := .later }
def WindTurnsCardSaid : Prop := Claim7.holds Tryd.pinned (.plain (OpenSpec.ofChange windTurnsSpec)) windTurnsCard

/-- THE TIED CARD OF 'wigeonlaw03.WindArcs'. -/
def windArcsCard : Claim7 := { stood := { row := windArcsRow, standIns := [], harness := (true, "0b9f4bf6df015514ac357915e65ccc99b4a27ede4e8e8895b3fd841a72466c44"), looks := false }, kinds := [], alts := [], laidByText := true, laidKinds := [.listed, .data], laidTests := true, laidLooks := .later }
def WindArcsCardSaid : Prop := Claim7.holds Tryd.pinned (.plain (OpenSpec.ofChange windArcsSpec)) windArcsCard

/-- THE TIED CARD OF 'wigeonlaw03.WindSets'. -/
def windSetsCard : Claim7 := { stood := { row := windSetsRow, standIns := [], harness := (true, "0b9f4bf6df015514ac357915e65ccc99b4a27ede4e8e8895b3fd841a72466c44"), looks := false }, kinds := [], alts := [], laidByText := true, laidKinds := [.listed, .data], laidTests := true, laidLooks := .later }
def WindSetsCardSaid : Prop := Claim7.holds Tryd.pinned (.plain (OpenSpec.ofChange windSetsSpec)) windSetsCard

/-- THE TIED CARD OF 'wigeonlaw03.WindVeers'. -/
def windVeersCard : Claim7 := { stood := { row := windVeersRow, standIns := [], harness := (true, "0b9f4bf6df015514ac357915e65ccc99b4a27ede4e8e8895b3fd841a72466c44"), looks := false }, kinds := [], alts := [], laidByText := true, laidKinds := [.listed, .data], laidTests := true, laidLooks := .later }
def WindVeersCardSaid : Prop := Claim7.holds Tryd.pinned (.plain (OpenSpec.ofChange windVeersSpec)) windVeersCard

/-- THE TIED CARD OF 'wigeonlaw03.WindAdds'. -/
def windAddsCard : Claim7 := { stood := { row := windAddsRow, standIns := [], harness := (true, "0b9f4bf6df015514ac357915e65ccc99b4a27ede4e8e8895b3fd841a72466c44"), looks := false }, kinds := [], alts := [], laidByText := true, laidKinds := [.listed, .data], laidTests := true, laidLooks := .later }
def WindAddsCardSaid : Prop := Claim7.holds Tryd.pinned (.plain (OpenSpec.ofChange windAddsSpec)) windAddsCard

/-- THE TIED CARD OF 'wigeontop.TopWinds'. -/
def topWindsCard : Claim7 := { stood := { row := topWindsRow, standIns := [], harness := (true, "0b9f4bf6df015514ac357915e65ccc99b4a27ede4e8e8895b3fd841a72466c44"), looks := false }, kinds := [], alts := [], laidByText := true, laidKinds := [.data, .data], laidTests := true, laidLooks := .later }
def TopWindsCardSaid : Prop := Claim7.holds Tryd.pinned (.plain (OpenSpec.ofChange topWindsSpec)) topWindsCard

/-- THE TIED CARD OF 'wigeonlaw03.WindRoses'. -/
def windRosesCard : Claim7 := { stood := { row := windRosesRow, standIns := [], harness := (true, "0b9f4bf6df015514ac357915e65ccc99b4a27ede4e8e8895b3fd841a72466c44"), looks := false }, kinds := [], alts := [], laidByText := true, laidKinds := [.listed, .data], laidTests := true, laidLooks := .later }
def WindRosesCardSaid : Prop := Claim7.holds Tryd.pinned (.plain (OpenSpec.ofChange windRosesSpec)) windRosesCard

/-- THE TIED CARD OF 'wigeonlaw03.WindCovers'. -/
def windCoversCard : Claim7 := { stood := { row := windCoversRow, standIns := [], harness := (true, "0b9f4bf6df015514ac357915e65ccc99b4a27ede4e8e8895b3fd841a72466c44"), looks := false }, kinds := [], alts := [], laidByText := true, laidKinds := [.listed, .data], laidTests := true, laidLooks := .later }
def WindCoversCardSaid : Prop := Claim7.holds Tryd.pinned (.plain (OpenSpec.ofChange windCoversSpec)) windCoversCard

/-- THE TIED CARD OF 'wigeonlaw03.WindPipes'. -/
def windPipesCard : Claim7 := { stood := { row := windPipesRow, standIns := [], harness := (true, "0b9f4bf6df015514ac357915e65ccc99b4a27ede4e8e8895b3fd841a72466c44"), looks := false }, kinds := [], alts := [], laidByText := true, laidKinds := [.listed, .data], laidTests := true, laidLooks := .later }
def WindPipesCardSaid : Prop := Claim7.holds Tryd.pinned (.plain (OpenSpec.ofChange windPipesSpec)) windPipesCard

/-- THE TIED CARD OF 'wigeonlaw03.WindApart'. -/
def windApartCard : Claim7 := { stood := { row := windApartRow, standIns := [], harness := (true, "0b9f4bf6df015514ac357915e65ccc99b4a27ede4e8e8895b3fd841a72466c44"), looks := false }, kinds := [], alts := [], laidByText := true, laidKinds := [.listed, .data], laidTests := true, laidLooks := .later }
def WindApartCardSaid : Prop := Claim7.holds Tryd.pinned (.plain (OpenSpec.ofChange windApartSpec)) windApartCard

/-- THE TIED CARD OF 'wigeonlaw03.WindFewest'. -/
def windFewestCard : Claim7 := { stood := { row := windFewestRow, standIns := [], harness := (true, "0b9f4bf6df015514ac357915e65ccc99b4a27ede4e8e8895b3fd841a72466c44"), looks := false }, kinds := [], alts := [], laidByText := true, laidKinds := [.data, .data, .listed, .data], laidTests := true, laidLooks := .later }
def WindFewestCardSaid : Prop := Claim7.holds Tryd.pinned (.plain (OpenSpec.ofChange windFewestSpec)) windFewestCard

/-- THE TIED CARD OF 'wigeonlaw03.WindProves'. -/
def windProvesCard : Claim7 := { stood := { row := windProvesRow, standIns := [], harness := (true, "0b9f4bf6df015514ac357915e65ccc99b4a27ede4e8e8895b3fd841a72466c44"), looks := false }, kinds := [], alts := [], laidByText := true, laidKinds := [.data, .data, .listed, .data], laidTests := true, laidLooks := .later }
def WindProvesCardSaid : Prop := Claim7.holds Tryd.pinned (.plain (OpenSpec.ofChange windProvesSpec)) windProvesCard

/-- THE SECOND FORM's CARD OF 'wigeonlaw03.WindNames'. -/
def windNamesUptoCard : Claim7 := { stood := { row := windNamesUptoRow, standIns := [], harness := (true, "0b9f4bf6df015514ac357915e65ccc99b4a27ede4e8e8895b3fd841a72466c44"), looks := false }, kinds := [], alts := [], laidByText := true, laidKinds := [.listed, .data], laidTests := true, laidLooks := .later }
def WindNamesUptoCardSaid : Prop := Claim7.holds Tryd.pinned (.plain (OpenSpec.upto windNamesSpec)) windNamesUptoCard

/-- THE SECOND FORM's CARD OF 'wigeonlaw03.WindTurns'. -/
def windTurnsUptoCard : Claim7 := { stood := { row := windTurnsUptoRow, standIns := [], harness := (true, "0b9f4bf6df015514ac357915e65ccc99b4a27ede4e8e8895b3fd841a72466c44"), looks := false }, kinds := [], alts := [], laidByText := true, laidKinds := [.listed, .data], laidTests := true, laidLooks := .later }
def WindTurnsUptoCardSaid : Prop := Claim7.holds Tryd.pinned (.plain (OpenSpec.upto windTurnsSpec)) windTurnsUptoCard

/-- THE SECOND FORM's CARD OF 'wigeonlaw03.WindArcs'. -/
def windArcsUptoCard : Claim7 := { stood := { row := windArcsUptoRow, standIns := [], harness := (true, "0b9f4bf6df015514ac357915e65ccc99b4a27ede4e8e8895b3fd841a72466c44"), looks := false }, kinds := [], alts := [], laidByText := true, laidKinds := [.listed, .data], laidTests := true, laidLooks := .later }
def WindArcsUptoCardSaid : Prop := Claim7.holds Tryd.pinned (.plain (OpenSpec.upto windArcsSpec)) windArcsUptoCard

/-- THE SECOND FORM's CARD OF 'wigeonlaw03.WindSets'. -/
def windSetsUptoCard : Claim7 := { stood := { row := windSetsUptoRow, standIns := [], harness := (true, "0b9f4bf6df015514ac357915e65ccc99b4a27ede4e8e8895b3fd841a72466c44"), looks := false }, kinds := [], alts := [], laidByText := true, laidKinds := [.listed, .data], laidTests := true, laidLooks := .later }
def WindSetsUptoCardSaid : Prop := Claim7.holds Tryd.pinned (.plain (OpenSpec.upto windSetsSpec)) windSetsUptoCard

/-- THE SECOND FORM's CARD OF 'wigeonlaw03.WindVeers'. -/
def windVeersUptoCard : Claim7 := { stood := { row := windVeersUptoRow, standIns := [], harness := (true, "0b9f4bf6df015514ac357915e65ccc99b4a27ede4e8e8895b3fd841a72466c44"), looks := false }, kinds := [], alts := [], laidByText := true, laidKinds := [.listed, .data], laidTests := true, laidLooks := .later }
def WindVeersUptoCardSaid : Prop := Claim7.holds Tryd.pinned (.plain (OpenSpec.upto windVeersSpec)) windVeersUptoCard

/-- THE SECOND FORM's CARD OF 'wigeonlaw03.WindAdds'. -/
def windAddsUptoCard : Claim7 := { stood := { row := windAddsUptoRow, standIns := [], harness := (true, "0b9f4bf6df015514ac357915e65ccc99b4a27ede4e8e8895b3fd841a72466c44"), looks := false }, kinds := [], alts := [], laidByText := true, laidKinds := [.listed, .data], laidTests := true, laidLooks := .later }
def WindAddsUptoCardSaid : Prop := Claim7.holds Tryd.pinned (.plain (OpenSpec.upto windAddsSpec)) windAddsUptoCard

/-- THE SECOND FORM's CARD OF 'wigeontop.TopWinds'. -/
def topWindsUptoCard : Claim7 := { stood := { row := topWindsUptoRow, standIns := [], harness := (true, "0b9f4bf6df015514ac357915e65ccc99b4a27ede4e8e8895b3fd841a72466c44"), looks := false }, kinds := [], alts := [], laidByText := true, laidKinds := [.data, .data], laidTests := true, laidLooks := .later }
def TopWindsUptoCardSaid : Prop := Claim7.holds Tryd.pinned (.plain (OpenSpec.upto topWindsSpec)) topWindsUptoCard

/-- THE SECOND FORM's CARD OF 'wigeonlaw03.WindRoses'. -/
def windRosesUptoCard : Claim7 := { stood := { row := windRosesUptoRow, standIns := [], harness := (true, "0b9f4bf6df015514ac357915e65ccc99b4a27ede4e8e8895b3fd841a72466c44"), looks := false }, kinds := [], alts := [], laidByText := true, laidKinds := [.listed, .data], laidTests := true, laidLooks := .later }
def WindRosesUptoCardSaid : Prop := Claim7.holds Tryd.pinned (.plain (OpenSpec.upto windRosesSpec)) windRosesUptoCard

/-- THE SECOND FORM's CARD OF 'wigeonlaw03.WindCovers'. -/
def windCoversUptoCard : Claim7 := { stood := { row := windCoversUptoRow, standIns := [], harness := (true, "0b9f4bf6df015514ac357915e65ccc99b4a27ede4e8e8895b3fd841a72466c44"), looks := false }, kinds := [], alts := [], laidByText := true, laidKinds := [.listed, .data], laidTests := true, laidLooks := .later }
def WindCoversUptoCardSaid : Prop := Claim7.holds Tryd.pinned (.plain (OpenSpec.upto windCoversSpec)) windCoversUptoCard

/-- THE SECOND FORM's CARD OF 'wigeonlaw03.WindPipes'. -/
def windPipesUptoCard : Claim7 := { stood := { row := windPipesUptoRow, standIns := [], harness := (true, "0b9f4bf6df015514ac357915e65ccc99b4a27ede4e8e8895b3fd841a72466c44"), looks := false }, kinds := [], alts := [], laidByText := true, laidKinds := [.listed, .data], laidTests := true, laidLooks := .later }
def WindPipesUptoCardSaid : Prop := Claim7.holds Tryd.pinned (.plain (OpenSpec.upto windPipesSpec)) windPipesUptoCard

/-- THE SECOND FORM's CARD OF 'wigeonlaw03.WindApart'. -/
def windApartUptoCard : Claim7 := { stood := { row := windApartUptoRow, standIns := [], harness := (true, "0b9f4bf6df015514ac357915e65ccc99b4a27ede4e8e8895b3fd841a72466c44"), looks := false }, kinds := [], alts := [], laidByText := true, laidKinds := [.listed, .data], laidTests := true, laidLooks := .later }
def WindApartUptoCardSaid : Prop := Claim7.holds Tryd.pinned (.plain (OpenSpec.upto windApartSpec)) windApartUptoCard

/-- THE SECOND FORM's CARD OF 'wigeonlaw03.WindFewest'. -/
def windFewestUptoCard : Claim7 := { stood := { row := windFewestUptoRow, standIns := [], harness := (true, "0b9f4bf6df015514ac357915e65ccc99b4a27ede4e8e8895b3fd841a72466c44"), looks := false }, kinds := [], alts := [], laidByText := true, laidKinds := [.data, .data, .listed, .data], laidTests := true, laidLooks := .later }
def WindFewestUptoCardSaid : Prop := Claim7.holds Tryd.pinned (.plain (OpenSpec.upto windFewestSpec)) windFewestUptoCard

/-- THE SECOND FORM's CARD OF 'wigeonlaw03.WindProves'. -/
def windProvesUptoCard : Claim7 := { stood := { row := windProvesUptoRow, standIns := [], harness := (true, "0b9f4bf6df015514ac357915e65ccc99b4a27ede4e8e8895b3fd841a72466c44"), looks := false }, kinds := [], alts := [], laidByText := true, laidKinds := [.data, .data, .listed, .data], laidTests := true, laidLooks := .later }
def WindProvesUptoCardSaid : Prop := Claim7.holds Tryd.pinned (.plain (OpenSpec.upto windProvesSpec)) windProvesUptoCard
end Rows
end Go.Proofs.YthihlapmkcelpaaDoor
