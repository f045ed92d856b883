/-
  DERIVED. GIVEN WITH THE SEED: THE CARDS: each row of YtgddookioipjiaaGreatDoorRows.lean that lists a variable, with what it lists TIED to the program's text (the seventh form; the later family's looks); each row that meets fmt, with fmt's text TOLD by the authors' own Lean function (tested against real Go, not proved from fmt's source: count such statements apart). THE CARD IS WHAT COUNTS. Prove the row's statement (the work); the ties are given (YtgddookioipjiaaGreatDoorTie.lean); close each card by the builder's one call (the guide's Derived/Test/ToyasCard.lean, 'card_holds'). Laid BY PROGRAM, IN A SANDBOX (cutbox-door.mjs). By AI agents, Wed Nov 11 2026. No macro, syntax, notation, axiom, sorry.
-/
import Derived.Test.YtgddookioipjiaaGreatDoorRows
import GoSem.ClaimSeven
namespace Go.Proofs.YtgddookioipjiaaGreatDoor
namespace Rows

/-- THE TIED CARD OF 'kingpostlaw03.RootForms'. -/
def rootFormsCard : Claim7 := { stood := { row := rootFormsRow, standIns := [], harness := (true, "5493e0fa406d1fe639a7bf305a4badc1e0796c7c019582cbe2dd222619684ebb"), looks := true }, kinds := [], alts := [], laidByText := true, laidKinds := [.data, .data, .data, .data, .sentinel, .sentinel, .data, .pinned], laidTests := true, laidLooks := .later }
def RootFormsCardSaid : Prop := Claim7.holds Tryz.pinned (.plain (OpenSpec.ofChange rootFormsSpec)) rootFormsCard

/-- THE TIED CARD OF 'kingpostlaw03.RootExact'. -/
def rootExactCard : Claim7 := { stood := { row := rootExactRow, standIns := [], harness := (true, "5493e0fa406d1fe639a7bf305a4badc1e0796c7c019582cbe2dd222619684ebb"), looks := true }, kinds := [], alts := [], laidByText := true, laidKinds := [.data, .data, .data, .data, .sentinel, .sentinel, .data, .pinned], laidTests := true, laidLooks := .later }
def RootExactCardSaid : Prop := Claim7.holds Tryz.pinned (.plain (OpenSpec.ofChange rootExactSpec)) rootExactCard

/-- THE TIED CARD OF 'kingpostlaw03.RootRatios'. -/
def rootRatiosCard : Claim7 := { stood := { row := rootRatiosRow, standIns := [], harness := (true, "5493e0fa406d1fe639a7bf305a4badc1e0796c7c019582cbe2dd222619684ebb"), looks := true }, kinds := [], alts := [], laidByText := true, laidKinds := [.data, .data, .data, .data, .sentinel, .sentinel, .data, .pinned], laidTests := true, laidLooks := .later }
def RootRatiosCardSaid : Prop := Claim7.holds Tryz.pinned (.plain (OpenSpec.ofChange rootRatiosSpec)) rootRatiosCard

/-- THE TIED CARD OF 'kingpostlaw03.RootNormal'. -/
def rootNormalCard : Claim7 := { stood := { row := rootNormalRow, standIns := [], harness := (true, "5493e0fa406d1fe639a7bf305a4badc1e0796c7c019582cbe2dd222619684ebb"), looks := true }, kinds := [], alts := [], laidByText := true, laidKinds := [.data, .data, .data, .data, .sentinel, .sentinel, .data, .pinned], laidTests := true, laidLooks := .later }
def RootNormalCardSaid : Prop := Claim7.holds Tryz.pinned (.plain (OpenSpec.ofChange rootNormalSpec)) rootNormalCard

/-- THE TIED CARD OF 'kingpostlaw03.RootOrder'. -/
def rootOrderCard : Claim7 := { stood := { row := rootOrderRow, standIns := [], harness := (true, "5493e0fa406d1fe639a7bf305a4badc1e0796c7c019582cbe2dd222619684ebb"), looks := true }, kinds := [], alts := [], laidByText := true, laidKinds := [.data, .data, .data, .data, .sentinel, .sentinel, .data, .pinned], laidTests := true, laidLooks := .later }
def RootOrderCardSaid : Prop := Claim7.holds Tryz.pinned (.plain (OpenSpec.ofChange rootOrderSpec)) rootOrderCard

/-- THE TIED CARD OF 'kingpostlaw03.RootFloors'. -/
def rootFloorsCard : Claim7 := { stood := { row := rootFloorsRow, standIns := [], harness := (true, "5493e0fa406d1fe639a7bf305a4badc1e0796c7c019582cbe2dd222619684ebb"), looks := true }, kinds := [], alts := [], laidByText := true, laidKinds := [.data, .data, .data, .data, .sentinel, .sentinel, .data, .pinned], laidTests := true, laidLooks := .later }
def RootFloorsCardSaid : Prop := Claim7.holds Tryz.pinned (.plain (OpenSpec.ofChange rootFloorsSpec)) rootFloorsCard

/-- THE TIED CARD OF 'kingpostlaw03.RootRounds'. -/
def rootRoundsCard : Claim7 := { stood := { row := rootRoundsRow, standIns := [], harness := (true, "5493e0fa406d1fe639a7bf305a4badc1e0796c7c019582cbe2dd222619684ebb"), looks := true }, kinds := [], alts := [], laidByText := true, laidKinds := [.data, .data, .data, .data, .sentinel, .sentinel, .data, .pinned], laidTests := true, laidLooks := .later }
def RootRoundsCardSaid : Prop := Claim7.holds Tryz.pinned (.plain (OpenSpec.ofChange rootRoundsSpec)) rootRoundsCard

/-- THE TIED CARD OF 'kingpostlaw03.RootDecimals'. -/
def rootDecimalsCard : Claim7 := { stood := { row := rootDecimalsRow, standIns := [], harness := (true, "5493e0fa406d1fe639a7bf305a4badc1e0796c7c019582cbe2dd222619684ebb"), looks := true }, kinds := [], alts := [], laidByText := true, laidKinds := [.data, .data, .data, .data, .sentinel, .sentinel, .data, .pinned], laidTests := true, laidLooks := .later }
def RootDecimalsCardSaid : Prop := Claim7.holds Tryz.pinned (.plain (OpenSpec.ofChange rootDecimalsSpec)) rootDecimalsCard

/-- THE TIED CARD OF 'kingpostlaw03.RootNear'. -/
def rootNearCard : Claim7 := { stood := { row := rootNearRow, standIns := [], harness := (true, "5493e0fa406d1fe639a7bf305a4badc1e0796c7c019582cbe2dd222619684ebb"), looks := true }, kinds := [], alts := [], laidByText := true, laidKinds := [.data, .data, .data, .data, .sentinel, .sentinel, .data, .pinned], laidTests := true, laidLooks := .later }
def RootNearCardSaid : Prop := Claim7.holds Tryz.pinned (.plain (OpenSpec.ofChange rootNearSpec)) rootNearCard

/-- THE SECOND FORM's CARD OF 'kingpostlaw03.RootForms'. -/
def rootFormsUptoCard : Claim7 := { stood := { row := rootFormsUptoRow, standIns := [], harness := (true, "5493e0fa406d1fe639a7bf305a4badc1e0796c7c019582cbe2dd222619684ebb"), looks := true }, kinds := [], alts := [], laidByText := true, laidKinds := [.data, .data, .data, .data, .sentinel, .sentinel, .data, .pinned], laidTests := true, laidLooks := .later }
def RootFormsUptoCardSaid : Prop := Claim7.holds Tryz.pinned (.plain (OpenSpec.upto rootFormsSpec)) rootFormsUptoCard

/-- THE SECOND FORM's CARD OF 'kingpostlaw03.RootExact'. -/
def rootExactUptoCard : Claim7 := { stood := { row := rootExactUptoRow, standIns := [], harness := (true, "5493e0fa406d1fe639a7bf305a4badc1e0796c7c019582cbe2dd222619684ebb"), looks := true }, kinds := [], alts := [], laidByText := true, laidKinds := [.data, .data, .data, .data, .sentinel, .sentinel, .data, .pinned], laidTests := true, laidLooks := .later }
def RootExactUptoCardSaid : Prop := Claim7.holds Tryz.pinned (.plain (OpenSpec.upto rootExactSpec)) rootExactUptoCard

/-- THE SECOND FORM's CARD OF 'kingpostlaw03.RootRatios'. -/
def rootRatiosUptoCard : Claim7 := { stood := { row := rootRatiosUptoRow, standIns := [], harness := (true, "5493e0fa406d1fe639a7bf305a4badc1e0796c7c019582cbe2dd222619684ebb"), looks := true }, kinds := [], alts := [], laidByText := true, laidKinds := [.data, .data, .data, .data, .sentinel, .sentinel, .data, .pinned], laidTests := true, laidLooks := .later }
def RootRatiosUptoCardSaid : Prop := Claim7.holds Tryz.pinned (.plain (OpenSpec.upto rootRatiosSpec)) rootRatiosUptoCard

/-- THE SECOND FORM's CARD OF 'kingpostlaw03.RootNormal'. -/
def rootNormalUptoCard : Claim7 := { stood := { row := rootNormalUptoRow, standIns := [], harness := (true, "5493e0fa406d1fe639a7bf305a4badc1e0796c7c019582cbe2dd222619684ebb"), looks := true }, kinds := [], alts := [], laidByText := true, laidKinds := [.data, .data, .data, .data, .sentinel, .sentinel, .data, .pinned], laidTests := true, laidLooks := .later }
def RootNormalUptoCardSaid : Prop := Claim7.holds Tryz.pinned (.plain (OpenSpec.upto rootNormalSpec)) rootNormalUptoCard

/-- THE SECOND FORM's CARD OF 'kingpostlaw03.RootOrder'. -/
def rootOrderUptoCard : Claim7 := { stood := { row := rootOrderUptoRow, standIns := [], harness := (true, "5493e0fa406d1fe639a7bf305a4badc1e0796c7c019582cbe2dd222619684ebb"), looks := true }, kinds := [], alts := [], laidByText := true, laidKinds := [.data, .data, .data, .data, .sentinel, .sentinel, .data, .pinned], laidTests := true, laidLooks := .later }
def RootOrderUptoCardSaid : Prop := Claim7.holds Tryz.pinned (.plain (OpenSpec.upto rootOrderSpec)) rootOrderUptoCard

/-- THE SECOND FORM's CARD OF 'kingpostlaw03.RootFloors'. -/
def rootFloorsUptoCard : Claim7 := { stood := { row := rootFloorsUptoRow, standIns := [], harness := (true, "5493e0fa406d1fe639a7bf305a4badc1e0796c7c019582cbe2dd222619684ebb"), looks := true }, kinds := [], alts := [], laidByText := true, laidKinds := [.data, .data, .data, .data, .sentinel, .sentinel, .data, .pinned], laidTests := true, laidLooks := .later }
def RootFloorsUptoCardSaid : Prop := Claim7.holds Tryz.pinned (.plain (OpenSpec.upto rootFloorsSpec)) rootFloorsUptoCard

/-- THE SECOND FORM's CARD OF 'kingpostlaw03.RootRounds'. -/
def rootRoundsUptoCard : Claim7 := { stood := { row := rootRoundsUptoRow, standIns := [], harness := (true, "5493e0fa406d1fe639a7bf305a4badc1e0796c7c019582cbe2dd222619684ebb"), looks := true }, kinds := [], alts := [], laidByText := true, laidKinds := [.data, .data, .data, .data, .sentinel, .sentinel, .data, .pinned], laidTests := true, laidLooks := .later }
def RootRoundsUptoCardSaid : Prop := Claim7.holds Tryz.pinned (.plain (OpenSpec.upto rootRoundsSpec)) rootRoundsUptoCard

/-- THE SECOND FORM's CARD OF 'kingpostlaw03.RootDecimals'. -/
def rootDecimalsUptoCard : Claim7 := { stood := { row := rootDecimalsUptoRow, standIns := [], harness := (true, "5493e0fa406d1fe639a7bf305a4badc1e0796c7c019582cbe2dd222619684ebb"), looks := true }, kinds := [], alts := [], laidByText := true, laidKinds := [.data, .data, .data, .data, .sentinel, .sentinel, .data, .pinned], laidTests := true, laidLooks := .later }
def RootDecimalsUptoCardSaid : Prop := Claim7.holds Tryz.pinned (.plain (OpenSpec.upto rootDecimalsSpec)) rootDecimalsUptoCard

/-- THE SECOND FORM's CARD OF 'kingpostlaw03.RootNear'. -/
def rootNearUptoCard : Claim7 := { stood := { row := rootNearUptoRow, standIns := [], harness := (true, "5493e0fa406d1fe639a7bf305a4badc1e0796c7c019582cbe2dd222619684ebb"), looks := true }, kinds := [], alts := [], laidByText := true, laidKinds := [.data, .data, .data, .data, .sentinel, .sentinel, .data, .pinned], laidTests := true, laidLooks := .later }
def RootNearUptoCardSaid : Prop := Claim7.holds Tryz.pinned (.plain (OpenSpec.upto rootNearSpec)) rootNearUptoCard
end Rows
end Go.Proofs.YtgddookioipjiaaGreatDoor
