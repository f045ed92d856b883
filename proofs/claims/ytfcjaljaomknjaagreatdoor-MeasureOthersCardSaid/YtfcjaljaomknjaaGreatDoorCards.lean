/-
  DERIVED. GIVEN WITH THE SEED: THE CARDS: each row of YtfcjaljaomknjaaGreatDoorRows.lean that lists a variable, with what it lists TIED to the program's text (the seventh form; the later family's looks); each row that meets fmt, with fmt's text TOLD by the authors' own Lean function (tested against real Go, not proved from fmt's source: count such statements apart). THE CARD IS WHAT COUNTS. Prove the row's statement (the work); the ties are given (YtfcjaljaomknjaaGreatDoorTie.lean); close each card by the builder's one call (the guide's Derived/Test/ToyasCard.lean, 'card_holds'). Laid BY PROGRAM, IN A SANDBOX (cutbox-door.mjs). By AI agents, Wed Nov 11 2026. No macro, syntax, notation, axiom, sorry.
-/
import Derived.Test.YtfcjaljaomknjaaGreatDoorRows
import GoSem.ClaimSeven
namespace Go.Proofs.YtfcjaljaomknjaaGreatDoor
namespace Rows

/-- THE TIED CARD OF 'kingpostlaw07.MeasureDecimals'. -/
def measureDecimalsCard : Claim7 := { stood := { row := measureDecimalsRow, standIns := [], harness := (true, "d29d50615bedf250b48e65b3f1c6f2db4594ab81fbcffe84580999dda17f2315"), looks := true }, kinds := [], alts := [], laidByText := true, laidKinds := [.data, .data, .data, .data, .sentinel, .sentinel, .pinned], laidTests := true, laidLooks := .later }
def MeasureDecimalsCardSaid : Prop := Claim7.holds Tryz.pinned (.plain (OpenSpec.ofChange measureDecimalsSpec)) measureDecimalsCard

/-- THE TIED CARD OF 'kingpostlaw07.MeasureOthers'. -/
def measureOthersCard : Claim7 := { stood := { row := measureOthersRow, standIns := [], harness := (true, "d29d50615bedf250b48e65b3f1c6f2db4594ab81fbcffe84580999dda17f2315"), looks := true }, kinds := [], alts := [], laidByText := true, laidKinds := [.data, .data, .data, .data, .sentinel, .sentinel, .pinned], laidTests := true, laidLooks := .later }
def MeasureOthersCardSaid : Prop := Claim7.holds Tryz.pinned (.plain (OpenSpec.ofChange measureOthersSpec)) measureOthersCard

/-- THE TIED CARD OF 'kingpostlaw07.MeasureWords'. -/
def measureWordsCard : Claim7 := { stood := { row := measureWordsRow, standIns := [], harness := (true, "d29d50615bedf250b48e65b3f1c6f2db4594ab81fbcffe84580999dda17f2315"), looks := true }, kinds := [], alts := [], laidByText := true, laidKinds := [.data, .data, .data, .data, .sentinel, .sentinel, .pinned], laidTests := true, laidLooks := .later }
def MeasureWordsCardSaid : Prop := Claim7.holds Tryz.pinned (.plain (OpenSpec.ofChange measureWordsSpec)) measureWordsCard

/-- THE TIED CARD OF 'kingpostlaw07.MeasureNames'. -/
def measureNamesCard : Claim7 := { stood := { row := measureNamesRow, standIns := [], harness := (true, "d29d50615bedf250b48e65b3f1c6f2db4594ab81fbcffe84580999dda17f2315"), looks := true }, kinds := [], alts := [], laidByText := true, laidKinds := [.data, .data, .data, .data, .sentinel, .sentinel, .pinned, .pinned], laidTests := true, laidLooks := .later }
def MeasureNamesCardSaid : Prop := Claim7.holds Tryz.pinned (.plain (OpenSpec.ofChange measureNamesSpec)) measureNamesCard

/-- THE SECOND FORM's CARD OF 'kingpostlaw07.MeasureDecimals'. -/
def measureDecimalsUptoCard : Claim7 := { stood := { row := measureDecimalsUptoRow, standIns := [], harness := (true, "d29d50615bedf250b48e65b3f1c6f2db4594ab81fbcffe84580999dda17f2315"), looks := true }, kinds := [], alts := [], laidByText := true, laidKinds := [.data, .data, .data, .data, .sentinel, .sentinel, .pinned], laidTests := true, laidLooks := .later }
def MeasureDecimalsUptoCardSaid : Prop := Claim7.holds Tryz.pinned (.plain (OpenSpec.upto measureDecimalsSpec)) measureDecimalsUptoCard

/-- THE SECOND FORM's CARD OF 'kingpostlaw07.MeasureOthers'. -/
def measureOthersUptoCard : Claim7 := { stood := { row := measureOthersUptoRow, standIns := [], harness := (true, "d29d50615bedf250b48e65b3f1c6f2db4594ab81fbcffe84580999dda17f2315"), looks := true }, kinds := [], alts := [], laidByText := true, laidKinds := [.data, .data, .data, .data, .sentinel, .sentinel, .pinned], laidTests := true, laidLooks := .later }
def MeasureOthersUptoCardSaid : Prop := Claim7.holds Tryz.pinned (.plain (OpenSpec.upto measureOthersSpec)) measureOthersUptoCard

/-- THE SECOND FORM's CARD OF 'kingpostlaw07.MeasureWords'. -/
def measureWordsUptoCard : Claim7 := { stood := { row := measureWordsUptoRow, standIns := [], harness := (true, "d29d50615bedf250b48e65b3f1c6f2db4594ab81fbcffe84580999dda17f2315"), looks := true }, kinds := [], alts := [], laidByText := true, laidKinds := [.data, .data, .data, .data, .sentinel, .sentinel, .pinned], laidTests := true, laidLooks := .later }
def MeasureWordsUptoCardSaid : Prop := Claim7.holds Tryz.pinned (.plain (OpenSpec.upto measureWordsSpec)) measureWordsUptoCard

/-- THE SECOND FORM's CARD OF 'kingpostlaw07.MeasureNames'. -/
def measureNamesUptoCard : Claim7 := { stood := { row := measureNamesUptoRow, standIns := [], harness := (true, "d29d50615bedf250b48e65b3f1c6f2db4594ab81fbcffe84580999dda17f2315"), looks := true }, kinds := [], alts := [], laidByText := true, laidKinds := [.data, .data, .data, .data, .sentinel, .sentinel, .pinned, .pinned], laidTests := true, laidLooks := .later }
def MeasureNamesUptoCardSaid : Prop := Claim7.holds Tryz.pinned (.plain (OpenSpec.upto measureNamesSpec)) measureNamesUptoCard
end Rows
end Go.Proofs.YtfcjaljaomknjaaGreatDoor
