/-
  DERIVED. GIVEN WITH THE SEED: THE CARDS: each row of YtfgjpnoeibiaaaaGreatDoorRows.lean that lists a variable, with what it lists TIED to the program's text (the seventh form; the later family's looks); each row that meets fmt, with fmt's text TOLD by the authors' own Lean function (tested against real Go, not proved from fmt's source: count such statements apart). THE CARD IS WHAT COUNTS. Prove the row's statement (the work); the ties are given (YtfgjpnoeibiaaaaGreatDoorTie.lean); close each card by the builder's one call (the guide's Derived/Test/ToyasCard.lean, 'card_holds'). Laid BY PROGRAM, IN A SANDBOX (cutbox-door.mjs). By AI agents, Wed Nov 11 2026. No macro, syntax, notation, axiom, sorry.
-/
import Derived.Test.YtfgjpnoeibiaaaaGreatDoorRows
import GoSem.ClaimSeven
namespace Go.Proofs.YtfgjpnoeibiaaaaGreatDoor
namespace Rows

/-- THE TIED CARD OF 'kingposttop.TopBalance'. -/
def topBalanceCard : Claim7 := { stood := { row := topBalanceRow, standIns := [], harness := (true, "0ae148608289d8dafb68e3f983b1f58ca8912c72f18480792044668613d08b19"), looks := true }, kinds := [], alts := [], laidByText := true, laidKinds := [.data, .data, .data, .data, .sentinel, .sentinel, .pinned], laidTests := true, laidLooks := .later }
def TopBalanceCardSaid : Prop := Claim7.holds Tryz.pinned (.plain (OpenSpec.ofChange topBalanceSpec)) topBalanceCard

/-- THE TIED CARD OF 'kingposttop.TopBothSides'. -/
def topBothSidesCard : Claim7 := { stood := { row := topBothSidesRow, standIns := [], harness := (true, "0ae148608289d8dafb68e3f983b1f58ca8912c72f18480792044668613d08b19"), looks := true }, kinds := [], alts := [], laidByText := true, laidKinds := [.data, .data, .data, .data, .sentinel, .sentinel, .pinned], laidTests := true, laidLooks := .later }
def TopBothSidesCardSaid : Prop := Claim7.holds Tryz.pinned (.plain (OpenSpec.ofChange topBothSidesSpec)) topBothSidesCard

/-- THE TIED CARD OF 'kingposttop.TopJumps'. -/
def topJumpsCard : Claim7 := { stood := { row := topJumpsRow, standIns := [], harness := (true, "0ae148608289d8dafb68e3f983b1f58ca8912c72f18480792044668613d08b19"), looks := true }, kinds := [], alts := [], laidByText := true, laidKinds := [.data, .data, .data, .data, .sentinel, .sentinel, .pinned], laidTests := true, laidLooks := .later }
def TopJumpsCardSaid : Prop := Claim7.holds Tryz.pinned (.plain (OpenSpec.ofChange topJumpsSpec)) topJumpsCard

/-- THE TIED CARD OF 'kingpostlaw07.MeasureReads'. -/
def measureReadsCard : Claim7 := { stood := { row := measureReadsRow, standIns := [], harness := (true, "0ae148608289d8dafb68e3f983b1f58ca8912c72f18480792044668613d08b19"), looks := true }, kinds := [], alts := [], laidByText := true, laidKinds := [.data, .data, .data, .data, .sentinel, .sentinel, .pinned], laidTests := true, laidLooks := .later }
def MeasureReadsCardSaid : Prop := Claim7.holds Tryz.pinned (.plain (OpenSpec.ofChange measureReadsSpec)) measureReadsCard

/-- THE TIED CARD OF 'kingpostlaw07.MeasureDecimals'. -/
def measureDecimalsCard : Claim7 := { stood := { row := measureDecimalsRow, standIns := [], harness := (true, "0ae148608289d8dafb68e3f983b1f58ca8912c72f18480792044668613d08b19"), looks := true }, kinds := [], alts := [], laidByText := true, laidKinds := [.data, .data, .data, .data, .sentinel, .sentinel, .pinned], laidTests := true, laidLooks := .later }
def MeasureDecimalsCardSaid : Prop := Claim7.holds Tryz.pinned (.plain (OpenSpec.ofChange measureDecimalsSpec)) measureDecimalsCard

/-- THE TIED CARD OF 'kingpostlaw07.MeasureExact'. -/
def measureExactCard : Claim7 := { stood := { row := measureExactRow, standIns := [], harness := (true, "0ae148608289d8dafb68e3f983b1f58ca8912c72f18480792044668613d08b19"), looks := true }, kinds := [], alts := [], laidByText := true, laidKinds := [.data, .data, .data, .data, .sentinel, .sentinel, .pinned], laidTests := true, laidLooks := .later }
def MeasureExactCardSaid : Prop := Claim7.holds Tryz.pinned (.plain (OpenSpec.ofChange measureExactSpec)) measureExactCard

/-- THE TIED CARD OF 'kingpostlaw07.MeasureOthers'. -/
def measureOthersCard : Claim7 := { stood := { row := measureOthersRow, standIns := [], harness := (true, "0ae148608289d8dafb68e3f983b1f58ca8912c72f18480792044668613d08b19"), looks := true }, kinds := [], alts := [], laidByText := true, laidKinds := [.data, .data, .data, .data, .sentinel, .sentinel, .pinned], laidTests := true, laidLooks := .later }
def MeasureOthersCardSaid : Prop := Claim7.holds Tryz.pinned (.plain (OpenSpec.ofChange measureOthersSpec)) measureOthersCard

/-- THE TIED CARD OF 'kingpostlaw07.MeasureFeet'. -/
def measureFeetCard : Claim7 := { stood := { row := measureFeetRow, standIns := [], harness := (true, "0ae148608289d8dafb68e3f983b1f58ca8912c72f18480792044668613d08b19"), looks := true }, kinds := [], alts := [], laidByText := true, laidKinds := [.data, .data, .data, .data, .sentinel, .sentinel, .pinned], laidTests := true, laidLooks := .later }
def MeasureFeetCardSaid : Prop := Claim7.holds Tryz.pinned (.plain (OpenSpec.ofChange measureFeetSpec)) measureFeetCard

/-- THE TIED CARD OF 'kingpostlaw07.MeasureRounds'. -/
def measureRoundsCard : Claim7 := { stood := { row := measureRoundsRow, standIns := [], harness := (true, "0ae148608289d8dafb68e3f983b1f58ca8912c72f18480792044668613d08b19"), looks := true }, kinds := [], alts := [], laidByText := true, laidKinds := [.data, .data, .data, .data, .sentinel, .sentinel, .pinned], laidTests := true, laidLooks := .later }
def MeasureRoundsCardSaid : Prop := Claim7.holds Tryz.pinned (.plain (OpenSpec.ofChange measureRoundsSpec)) measureRoundsCard

/-- THE TIED CARD OF 'kingpostlaw07.MeasureOrder'. -/
def measureOrderCard : Claim7 := { stood := { row := measureOrderRow, standIns := [], harness := (true, "0ae148608289d8dafb68e3f983b1f58ca8912c72f18480792044668613d08b19"), looks := true }, kinds := [], alts := [], laidByText := true, laidKinds := [.data, .data, .data, .data, .sentinel, .sentinel, .pinned], laidTests := true, laidLooks := .later }
def MeasureOrderCardSaid : Prop := Claim7.holds Tryz.pinned (.plain (OpenSpec.ofChange measureOrderSpec)) measureOrderCard

/-- THE TIED CARD OF 'kingpostlaw07.MeasureWords'. -/
def measureWordsCard : Claim7 := { stood := { row := measureWordsRow, standIns := [], harness := (true, "0ae148608289d8dafb68e3f983b1f58ca8912c72f18480792044668613d08b19"), looks := true }, kinds := [], alts := [], laidByText := true, laidKinds := [.data, .data, .data, .data, .sentinel, .sentinel, .pinned], laidTests := true, laidLooks := .later }
def MeasureWordsCardSaid : Prop := Claim7.holds Tryz.pinned (.plain (OpenSpec.ofChange measureWordsSpec)) measureWordsCard

/-- THE TIED CARD OF 'kingpostlaw07.MeasureNames'. -/
def measureNamesCard : Claim7 := { stood := { row := measureNamesRow, standIns := [], harness := (true, "0ae148608289d8dafb68e3f983b1f58ca8912c72f18480792044668613d08b19"), looks := true }, kinds := [], alts := [], laidByText := true, laidKinds := [.data, .data, .data, .data, .sentinel, .sentinel, .pinned, .pinned], laidTests := true, laidLooks := .later }
def MeasureNamesCardSaid : Prop := Claim7.holds Tryz.pinned (.plain (OpenSpec.ofChange measureNamesSpec)) measureNamesCard

/-- THE SECOND FORM's CARD OF 'kingposttop.TopBalance'. -/
def topBalanceUptoCard : Claim7 := { stood := { row := topBalanceUptoRow, standIns := [], harness := (true, "0ae148608289d8dafb68e3f983b1f58ca8912c72f18480792044668613d08b19"), looks := true }, kinds := [], alts := [], laidByText := true, laidKinds := [.data, .data, .data, .data, .sentinel, .sentinel, .pinned], laidTests := true, laidLooks := .later }
def TopBalanceUptoCardSaid : Prop := Claim7.holds Tryz.pinned (.plain (OpenSpec.upto topBalanceSpec)) topBalanceUptoCard

/-- THE SECOND FORM's CARD OF 'kingposttop.TopBothSides'. -/
def topBothSidesUptoCard : Claim7 := { stood := { row := topBothSidesUptoRow, standIns := [], harness := (true, "0ae148608289d8dafb68e3f983b1f58ca8912c72f18480792044668613d08b19"), looks := true }, kinds := [], alts := [], laidByText := true, laidKinds := [.data, .data, .data, .data, .sentinel, .sentinel, .pinned], laidTests := true, laidLooks := .later }
def TopBothSidesUptoCardSaid : Prop := Claim7.holds Tryz.pinned (.plain (OpenSpec.upto topBothSidesSpec)) topBothSidesUptoCard

/-- THE SECOND FORM's CARD OF 'kingposttop.TopJumps'. -/
def topJumpsUptoCard : Claim7 := { stood := { row := topJumpsUptoRow, standIns := [], harness := (true, "0ae148608289d8dafb68e3f983b1f58ca8912c72f18480792044668613d08b19"), looks := true }, kinds := [], alts := [], laidByText := true, laidKinds := [.data, .data, .data, .data, .sentinel, .sentinel, .pinned], laidTests := true, laidLooks := .later }
def TopJumpsUptoCardSaid : Prop := Claim7.holds Tryz.pinned (.plain (OpenSpec.upto topJumpsSpec)) topJumpsUptoCard

/-- THE SECOND FORM's CARD OF 'kingpostlaw07.MeasureReads'. -/
def measureReadsUptoCard : Claim7 := { stood := { row := measureReadsUptoRow, standIns := [], harness := (true, "0ae148608289d8dafb68e3f983b1f58ca8912c72f18480792044668613d08b19"), looks := true }, kinds := [], alts := [], laidByText := true, laidKinds := [.data, .data, .data, .data, .sentinel, .sentinel, .pinned], laidTests := true, laidLooks := .later }
def MeasureReadsUptoCardSaid : Prop := Claim7.holds Tryz.pinned (.plain (OpenSpec.upto measureReadsSpec)) measureReadsUptoCard

/-- THE SECOND FORM's CARD OF 'kingpostlaw07.MeasureDecimals'. -/
def measureDecimalsUptoCard : Claim7 := { stood := { row := measureDecimalsUptoRow, standIns := [], harness := (true, "0ae148608289d8dafb68e3f983b1f58ca8912c72f18480792044668613d08b19"), looks := true }, kinds := [], alts := [], laidByText := true, laidKinds := [.data, .data, .data, .data, .sentinel, .sentinel, .pinned], laidTests := true, laidLooks := .later }
def MeasureDecimalsUptoCardSaid : Prop := Claim7.holds Tryz.pinned (.plain (OpenSpec.upto measureDecimalsSpec)) measureDecimalsUptoCard

/-- THE SECOND FORM's CARD OF 'kingpostlaw07.MeasureExact'. -/
def measureExactUptoCard : Claim7 := { stood := { row := measureExactUptoRow, standIns := [], harness := (true, "0ae148608289d8dafb68e3f983b1f58ca8912c72f18480792044668613d08b19"), looks := true }, kinds := [], alts := [], laidByText := true, laidKinds := [.data, .data, .data, .data, .sentinel, .sentinel, .pinned], laidTests := true, laidLooks := .later }
def MeasureExactUptoCardSaid : Prop := Claim7.holds Tryz.pinned (.plain (OpenSpec.upto measureExactSpec)) measureExactUptoCard

/-- THE SECOND FORM's CARD OF 'kingpostlaw07.MeasureOthers'. -/
def measureOthersUptoCard : Claim7 := { stood := { row := measureOthersUptoRow, standIns := [], harness := (true, "0ae148608289d8dafb68e3f983b1f58ca8912c72f18480792044668613d08b19"), looks := true }, kinds := [], alts := [], laidByText := true, laidKinds := [.data, .data, .data, .data, .sentinel, .sentinel, .pinned], laidTests := true, laidLooks := .later }
def MeasureOthersUptoCardSaid : Prop := Claim7.holds Tryz.pinned (.plain (OpenSpec.upto measureOthersSpec)) measureOthersUptoCard

/-- THE SECOND FORM's CARD OF 'kingpostlaw07.MeasureFeet'. -/
def measureFeetUptoCard : Claim7 := { stood := { row := measureFeetUptoRow, standIns := [], harness := (true, "0ae148608289d8dafb68e3f983b1f58ca8912c72f18480792044668613d08b19"), looks := true }, kinds := [], alts := [], laidByText := true, laidKinds := [.data, .data, .data, .data, .sentinel, .sentinel, .pinned], laidTests := true, laidLooks := .later }
def MeasureFeetUptoCardSaid : Prop := Claim7.holds Tryz.pinned (.plain (OpenSpec.upto measureFeetSpec)) measureFeetUptoCard

/-- THE SECOND FORM's CARD OF 'kingpostlaw07.MeasureRounds'. -/
def measureRoundsUptoCard : Claim7 := { stood := { row := measureRoundsUptoRow, standIns := [], harness := (true, "0ae148608289d8dafb68e3f983b1f58ca8912c72f18480792044668613d08b19"), looks := true }, kinds := [], alts := [], laidByText := true, laidKinds := [.data, .data, .data, .data, .sentinel, .sentinel, .pinned], laidTests := true, laidLooks := .later }
def MeasureRoundsUptoCardSaid : Prop := Claim7.holds Tryz.pinned (.plain (OpenSpec.upto measureRoundsSpec)) measureRoundsUptoCard

/-- THE SECOND FORM's CARD OF 'kingpostlaw07.MeasureOrder'. -/
def measureOrderUptoCard : Claim7 := { stood := { row := measureOrderUptoRow, standIns := [], harness := (true, "0ae148608289d8dafb68e3f983b1f58ca8912c72f18480792044668613d08b19"), looks := true }, kinds := [], alts := [], laidByText := true, laidKinds := [.data, .data, .data, .data, .sentinel, .sentinel, .pinned], laidTests := true, laidLooks := .later }
def MeasureOrderUptoCardSaid : Prop := Claim7.holds Tryz.pinned (.plain (OpenSpec.upto measureOrderSpec)) measureOrderUptoCard

/-- THE SECOND FORM's CARD OF 'kingpostlaw07.MeasureWords'. -/
def measureWordsUptoCard : Claim7 := { stood := { row := measureWordsUptoRow, standIns := [], harness := (true, "0ae148608289d8dafb68e3f983b1f58ca8912c72f18480792044668613d08b19"), looks := true }, kinds := [], alts := [], laidByText := true, laidKinds := [.data, .data, .data, .data, .sentinel, .sentinel, .pinned], laidTests := true, laidLooks := .later }
def MeasureWordsUptoCardSaid : Prop := Claim7.holds Tryz.pinned (.plain (OpenSpec.upto measureWordsSpec)) measureWordsUptoCard

/-- THE SECOND FORM's CARD OF 'kingpostlaw07.MeasureNames'. -/
def measureNamesUptoCard : Claim7 := { stood := { row := measureNamesUptoRow, standIns := [], harness := (true, "0ae148608289d8dafb68e3f983b1f58ca8912c72f18480792044668613d08b19"), looks := true }, kinds := [], alts := [], laidByText := true, laidKinds := [.data, .data, .data, .data, .sentinel, .sentinel, .pinned, .pinned], laidTests := true, laidLooks := .later }
def MeasureNamesUptoCardSaid : Prop := Claim7.holds Tryz.pinned (.plain (OpenSpec.upto measureNamesSpec)) measureNamesUptoCard
end Rows
end Go.Proofs.YtfgjpnoeibiaaaaGreatDoor
