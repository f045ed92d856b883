/-
  DERIVED. GIVEN WITH THE SEED: THE CARDS: each row of YtpmnhipffkhcpaaGreatDoorRows.lean that lists a variable, with what it lists TIED to the program's text (the seventh form; the later family's looks); each row that meets fmt, with fmt's text TOLD by the authors' own Lean function (tested against real Go, not proved from fmt's source: count such statements apart). THE CARD IS WHAT COUNTS. Prove the row's statement (the work); the ties are given (YtpmnhipffkhcpaaGreatDoorTie.lean); close each card by the builder's one call (the guide's Derived/Test/ToyasCard.lean, 'card_holds'). Laid BY PROGRAM, IN A SANDBOX (cutbox-door.mjs). By AI agents, Wed Nov 11 2026. No macro, syntax, notation, axiom, sorry.
-/
import Derived.Test.YtpmnhipffkhcpaaGreatDoorRows
import GoSem.ClaimSeven
namespace Go.Proofs.YtpmnhipffkhcpaaGreatDoor
namespace Rows

/-- THE TIED CARD OF 'kingposttop.TopBalance'. -/
def topBalanceCard : Claim7 := { stood := { row := topBalanceRow, standIns := [], harness := (true, "563439853f9f0b0f1db0335fbd4bd44fd0b70d62e878ff9b7cb1e39e2fdee6c6"), looks := true }, kinds := [], alts := [], laidByText := true, laidKinds := [.data, .data, .data, .data, .sentinel, .sentinel, .pinned], laidTests := true, laidLooks := .later }
def TopBalanceCardSaid : Prop := Claim7.holds Tryz.pinned (.plain (OpenSpec.ofChange topBalanceSpec)) topBalanceCard

/-- THE TIED CARD OF 'kingposttop.TopBothSides'. -/
def topBothSidesCard : Claim7 := { stood := { row := topBothSidesRow, standIns := [], harness := (true, "563439853f9f0b0f1db0335fbd4bd44fd0b70d62e878ff9b7cb1e39e2fdee6c6"), looks := true }, kinds := [], alts := [], laidByText := true, laidKinds := [.data, .data, .data, .data, .sentinel, .sentinel, .pinned], laidTests := true, laidLooks := .later }
def TopBothSidesCardSaid : Prop := Claim7.holds Tryz.pinned (.plain (OpenSpec.ofChange topBothSidesSpec)) topBothSidesCard

/-- THE TIED CARD OF 'kingpostlaw07.MeasureDecimals'. -/
def measureDecimalsCard : Claim7 := { stood := { row := measureDecimalsRow, standIns := [], harness := (true, "563439853f9f0b0f1db0335fbd4bd44fd0b70d62e878ff9b7cb1e39e2fdee6c6"), looks := true }, kinds := [], alts := [], laidByText := true, laidKinds := [.data, .data, .data, .data, .sentinel, .sentinel, .pinned], laidTests := true, laidLooks := .later }
def MeasureDecimalsCardSaid : Prop := Claim7.holds Tryz.pinned (.plain (OpenSpec.ofChange measureDecimalsSpec)) measureDecimalsCard

/-- THE TIED CARD OF 'kingpostlaw07.MeasureOthers'. -/
def measureOthersCard : Claim7 := { stood := { row := measureOthersRow, standIns := [], harness := (true, "563439853f9f0b0f1db0335fbd4bd44fd0b70d62e878ff9b7cb1e39e2fdee6c6"), looks := true }, kinds := [], alts := [], laidByText := true, laidKinds := [.data, .data, .data, .data, .sentinel, .sentinel, .pinned], laidTests := true, laidLooks := .later }
def MeasureOthersCardSaid : Prop := Claim7.holds Tryz.pinned (.plain (OpenSpec.ofChange measureOthersSpec)) measureOthersCard

/-- THE TIED CARD OF 'kingposttop.TopJumps'. -/
def topJumpsCard : Claim7 := { stood := { row := topJumpsRow, standIns := [], harness := (true, "563439853f9f0b0f1db0335fbd4bd44fd0b70d62e878ff9b7cb1e39e2fdee6c6"), looks := true }, kinds := [], alts := [], laidByText := true, laidKinds := [.data, .data, .data, .data, .sentinel, .sentinel, .pinned], laidTests := true, laidLooks := .later }
def TopJumpsCardSaid : Prop := Claim7.holds Tryz.pinned (.plain (OpenSpec.ofChange topJumpsSpec)) topJumpsCard

/-- THE TIED CARD OF 'kingpostlaw07.MeasureWords'. -/
def measureWordsCard : Claim7 := { stood := { row := measureWordsRow, standIns := [], harness := (true, "563439853f9f0b0f1db0335fbd4bd44fd0b70d62e878ff9b7cb1e39e2fdee6c6"), looks := true }, kinds := [], alts := [], laidByText := true, laidKinds := [.data, .data, .data, .data, .sentinel, .sentinel, .pinned], laidTests := true, laidLooks := .later }
def MeasureWordsCardSaid : Prop := Claim7.holds Tryz.pinned (.plain (OpenSpec.ofChange measureWordsSpec)) measureWordsCard

/-- THE TIED CARD OF 'kingpostlaw28.HiprafterLines'. -/
def hiprafterLinesCard : Claim7 := { stood := { row := hiprafterLinesRow, standIns := [], harness := (true, "563439853f9f0b0f1db0335fbd4bd44fd0b70d62e878ff9b7cb1e39e2fdee6c6"), looks := true }, kinds := [], alts := [], laidByText := true, laidKinds := [.data, .data, .data, .data, .sentinel, .sentinel, .pinned], laidTests := true, laidLooks := .later }
def HiprafterLinesCardSaid : Prop := Claim7.holds Tryz.pinned (.plain (OpenSpec.ofChange hiprafterLinesSpec)) hiprafterLinesCard

/-- THE TIED CARD OF 'kingpostlaw28.HiprafterSizes'. -/
def hiprafterSizesCard : Claim7 := { stood := { row := hiprafterSizesRow, standIns := [], harness := (true, "563439853f9f0b0f1db0335fbd4bd44fd0b70d62e878ff9b7cb1e39e2fdee6c6"), looks := true }, kinds := [], alts := [], laidByText := true, laidKinds := [.data, .data, .data, .data, .sentinel, .sentinel, .pinned], laidTests := true, laidLooks := .later }
def HiprafterSizesCardSaid : Prop := Claim7.holds Tryz.pinned (.plain (OpenSpec.ofChange hiprafterSizesSpec)) hiprafterSizesCard

/-- THE TIED CARD OF 'kingpostlaw03.RootRounds'. -/
def rootRoundsCard : Claim7 := { stood := { row := rootRoundsRow, standIns := [], harness := (true, "563439853f9f0b0f1db0335fbd4bd44fd0b70d62e878ff9b7cb1e39e2fdee6c6"), looks := true }, kinds := [], alts := [], laidByText := true, laidKinds := [.data, .data, .data, .data, .sentinel, .sentinel, .data, .pinned], laidTests := true, laidLooks := .later }
def RootRoundsCardSaid : Prop := Claim7.holds Tryz.pinned (.plain (OpenSpec.ofChange rootRoundsSpec)) rootRoundsCard

/-- THE TIED CARD OF 'kingpostlaw07.MeasureNames'. -/
def measureNamesCard : Claim7 := { stood := { row := measureNamesRow, standIns := [], harness := (true, "563439853f9f0b0f1db0335fbd4bd44fd0b70d62e878ff9b7cb1e39e2fdee6c6"), looks := true }, kinds := [], alts := [], laidByText := true, laidKinds := [.data, .data, .data, .data, .sentinel, .sentinel, .pinned, .pinned], laidTests := true, laidLooks := .later }
def MeasureNamesCardSaid : Prop := Claim7.holds Tryz.pinned (.plain (OpenSpec.ofChange measureNamesSpec)) measureNamesCard

/-- THE TIED CARD OF 'kingpostlaw09.VectorProducts'. -/
def vectorProductsCard : Claim7 := { stood := { row := vectorProductsRow, standIns := [], harness := (true, "563439853f9f0b0f1db0335fbd4bd44fd0b70d62e878ff9b7cb1e39e2fdee6c6"), looks := true }, kinds := [], alts := [], laidByText := true, laidKinds := [.data, .data, .data, .data, .sentinel, .sentinel, .data, .pinned], laidTests := true, laidLooks := .later }
def VectorProductsCardSaid : Prop := Claim7.holds Tryz.pinned (.plain (OpenSpec.ofChange vectorProductsSpec)) vectorProductsCard

/-- THE SECOND FORM's CARD OF 'kingposttop.TopBalance'. -/
def topBalanceUptoCard : Claim7 := { stood := { row := topBalanceUptoRow, standIns := [], harness := (true, "563439853f9f0b0f1db0335fbd4bd44fd0b70d62e878ff9b7cb1e39e2fdee6c6"), looks := true }, kinds := [], alts := [], laidByText := true, laidKinds := [.data, .data, .data, .data, .sentinel, .sentinel, .pinned], laidTests := true, laidLooks := .later }
def TopBalanceUptoCardSaid : Prop := Claim7.holds Tryz.pinned (.plain (OpenSpec.upto topBalanceSpec)) topBalanceUptoCard

/-- THE SECOND FORM's CARD OF 'kingposttop.TopBothSides'. -/
def topBothSidesUptoCard : Claim7 := { stood := { row := topBothSidesUptoRow, standIns := [], harness := (true, "563439853f9f0b0f1db0335fbd4bd44fd0b70d62e878ff9b7cb1e39e2fdee6c6"), looks := true }, kinds := [], alts := [], laidByText := true, laidKinds := [.data, .data, .data, .data, .sentinel, .sentinel, .pinned], laidTests := true, laidLooks := .later }
def TopBothSidesUptoCardSaid : Prop := Claim7.holds Tryz.pinned (.plain (OpenSpec.upto topBothSidesSpec)) topBothSidesUptoCard

/-- THE SECOND FORM's CARD OF 'kingpostlaw07.MeasureDecimals'. -/
def measureDecimalsUptoCard : Claim7 := { stood := { row := measureDecimalsUptoRow, standIns := [], harness := (true, "563439853f9f0b0f1db0335fbd4bd44fd0b70d62e878ff9b7cb1e39e2fdee6c6"), looks := true }, kinds := [], alts := [], laidByText := true, laidKinds := [.data, .data, .data, .data, .sentinel, .sentinel, .pinned], laidTests := true, laidLooks := .later }
def MeasureDecimalsUptoCardSaid : Prop := Claim7.holds Tryz.pinned (.plain (OpenSpec.upto measureDecimalsSpec)) measureDecimalsUptoCard

/-- THE SECOND FORM's CARD OF 'kingpostlaw07.MeasureOthers'. -/
def measureOthersUptoCard : Claim7 := { stood := { row := measureOthersUptoRow, standIns := [], harness := (true, "563439853f9f0b0f1db0335fbd4bd44fd0b70d62e878ff9b7cb1e39e2fdee6c6"), looks := true }, kinds := [], alts := [], laidByText := true, laidKinds := [.data, .data, .data, .data, .sentinel, .sentinel, .pinned], laidTests := true, laidLooks := .later }
def MeasureOthersUptoCardSaid : Prop := Claim7.holds Tryz.pinned (.plain (OpenSpec.upto measureOthersSpec)) measureOthersUptoCard

/-- THE SECOND FORM's CARD OF 'kingposttop.TopJumps'. -/
def topJumpsUptoCard : Claim7 := { stood := { row := topJumpsUptoRow, standIns := [], harness := (true, "563439853f9f0b0f1db0335fbd4bd44fd0b70d62e878ff9b7cb1e39e2fdee6c6"), looks := true }, kinds := [], alts := [], laidByText := true, laidKinds := [.data, .data, .data, .data, .sentinel, .sentinel, .pinned], laidTests := true, laidLooks := .later }
def TopJumpsUptoCardSaid : Prop := Claim7.holds Tryz.pinned (.plain (OpenSpec.upto topJumpsSpec)) topJumpsUptoCard

/-- THE SECOND FORM's CARD OF 'kingpostlaw07.MeasureWords'. -/
def measureWordsUptoCard : Claim7 := { stood := { row := measureWordsUptoRow, standIns := [], harness := (true, "563439853f9f0b0f1db0335fbd4bd44fd0b70d62e878ff9b7cb1e39e2fdee6c6"), looks := true }, kinds := [], alts := [], laidByText := true, laidKinds := [.data, .data, .data, .data, .sentinel, .sentinel, .pinned], laidTests := true, laidLooks := .later }
def MeasureWordsUptoCardSaid : Prop := Claim7.holds Tryz.pinned (.plain (OpenSpec.upto measureWordsSpec)) measureWordsUptoCard

/-- THE SECOND FORM's CARD OF 'kingpostlaw28.HiprafterLines'. -/
def hiprafterLinesUptoCard : Claim7 := { stood := { row := hiprafterLinesUptoRow, standIns := [], harness := (true, "563439853f9f0b0f1db0335fbd4bd44fd0b70d62e878ff9b7cb1e39e2fdee6c6"), looks := true }, kinds := [], alts := [], laidByText := true, laidKinds := [.data, .data, .data, .data, .sentinel, .sentinel, .pinned], laidTests := true, laidLooks := .later }
def HiprafterLinesUptoCardSaid : Prop := Claim7.holds Tryz.pinned (.plain (OpenSpec.upto hiprafterLinesSpec)) hiprafterLinesUptoCard

/-- THE SECOND FORM's CARD OF 'kingpostlaw28.HiprafterSizes'. -/
def hiprafterSizesUptoCard : Claim7 := { stood := { row := hiprafterSizesUptoRow, standIns := [], harness := (true, "563439853f9f0b0f1db0335fbd4bd44fd0b70d62e878ff9b7cb1e39e2fdee6c6"), looks := true }, kinds := [], alts := [], laidByText := true, laidKinds := [.data, .data, .data, .data, .sentinel, .sentinel, .pinned], laidTests := true, laidLooks := .later }
def HiprafterSizesUptoCardSaid : Prop := Claim7.holds Tryz.pinned (.plain (OpenSpec.upto hiprafterSizesSpec)) hiprafterSizesUptoCard

/-- THE SECOND FORM's CARD OF 'kingpostlaw03.RootRounds'. -/
def rootRoundsUptoCard : Claim7 := { stood := { row := rootRoundsUptoRow, standIns := [], harness := (true, "563439853f9f0b0f1db0335fbd4bd44fd0b70d62e878ff9b7cb1e39e2fdee6c6"), looks := true }, kinds := [], alts := [], laidByText := true, laidKinds := [.data, .data, .data, .data, .sentinel, .sentinel, .data, .pinned], laidTests := true, laidLooks := .later }
def RootRoundsUptoCardSaid : Prop := Claim7.holds Tryz.pinned (.plain (OpenSpec.upto rootRoundsSpec)) rootRoundsUptoCard

/-- THE SECOND FORM's CARD OF 'kingpostlaw07.MeasureNames'. -/
def measureNamesUptoCard : Claim7 := { stood := { row := measureNamesUptoRow, standIns := [], harness := (true, "563439853f9f0b0f1db0335fbd4bd44fd0b70d62e878ff9b7cb1e39e2fdee6c6"), looks := true }, kinds := [], alts := [], laidByText := true, laidKinds := [.data, .data, .data, .data, .sentinel, .sentinel, .pinned, .pinned], laidTests := true, laidLooks := .later }
def MeasureNamesUptoCardSaid : Prop := Claim7.holds Tryz.pinned (.plain (OpenSpec.upto measureNamesSpec)) measureNamesUptoCard

/-- THE SECOND FORM's CARD OF 'kingpostlaw09.VectorProducts'. -/
def vectorProductsUptoCard : Claim7 := { stood := { row := vectorProductsUptoRow, standIns := [], harness := (true, "563439853f9f0b0f1db0335fbd4bd44fd0b70d62e878ff9b7cb1e39e2fdee6c6"), looks := true }, kinds := [], alts := [], laidByText := true, laidKinds := [.data, .data, .data, .data, .sentinel, .sentinel, .data, .pinned], laidTests := true, laidLooks := .later }
def VectorProductsUptoCardSaid : Prop := Claim7.holds Tryz.pinned (.plain (OpenSpec.upto vectorProductsSpec)) vectorProductsUptoCard
end Rows
end Go.Proofs.YtpmnhipffkhcpaaGreatDoor
