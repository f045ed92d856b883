/-
  DERIVED. GIVEN WITH THE SEED: THE CARDS: each row of YtklgpilgalfckaaGreatDoorRows.lean that lists a variable, with what it lists TIED to the program's text (the seventh form; the later family's looks); each row that meets fmt, with fmt's text TOLD by the authors' own Lean function (tested against real Go, not proved from fmt's source: count such statements apart). THE CARD IS WHAT COUNTS. Prove the row's statement (the work); the ties are given (YtklgpilgalfckaaGreatDoorTie.lean); close each card by the builder's one call (the guide's Derived/Test/ToyasCard.lean, 'card_holds'). Laid BY PROGRAM, IN A SANDBOX (cutbox-door.mjs). By AI agents, Wed Nov 11 2026. No macro, syntax, notation, axiom, sorry.
-/
import Derived.Test.YtklgpilgalfckaaGreatDoorRows
import GoSem.ClaimSeven
namespace Go.Proofs.YtklgpilgalfckaaGreatDoor
namespace Rows

/-- THE TIED CARD OF 'kingpostlaw28.HiprafterLines'. -/
def hiprafterLinesCard : Claim7 := { stood := { row := hiprafterLinesRow, standIns := [], harness := (true, "6e1478dd1505b7e15f6d2add629910d60abb65e6a42bf4fdd29ba60dd9a94956"), looks := true }, kinds := [], alts := [], laidByText := true, laidKinds := [.data, .data, .data, .data, .sentinel, .sentinel, .pinned], laidTests := true, laidLooks := .later }
def HiprafterLinesCardSaid : Prop := Claim7.holds Tryz.pinned (.plain (OpenSpec.ofChange hiprafterLinesSpec)) hiprafterLinesCard

/-- THE TIED CARD OF 'kingpostlaw28.HiprafterSizes'. -/
def hiprafterSizesCard : Claim7 := { stood := { row := hiprafterSizesRow, standIns := [], harness := (true, "6e1478dd1505b7e15f6d2add629910d60abb65e6a42bf4fdd29ba60dd9a94956"), looks := true }, kinds := [], alts := [], laidByText := true, laidKinds := [.data, .data, .data, .data, .sentinel, .sentinel, .pinned], laidTests := true, laidLooks := .later }
def HiprafterSizesCardSaid : Prop := Claim7.holds Tryz.pinned (.plain (OpenSpec.ofChange hiprafterSizesSpec)) hiprafterSizesCard

/-- THE TIED CARD OF 'kingpostlaw09.VectorProducts'. -/
def vectorProductsCard : Claim7 := { stood := { row := vectorProductsRow, standIns := [], harness := (true, "6e1478dd1505b7e15f6d2add629910d60abb65e6a42bf4fdd29ba60dd9a94956"), looks := true }, kinds := [], alts := [], laidByText := true, laidKinds := [.data, .data, .data, .data, .sentinel, .sentinel, .data, .pinned], laidTests := true, laidLooks := .later }
def VectorProductsCardSaid : Prop := Claim7.holds Tryz.pinned (.plain (OpenSpec.ofChange vectorProductsSpec)) vectorProductsCard

/-- THE SECOND FORM's CARD OF 'kingpostlaw28.HiprafterLines'. -/
def hiprafterLinesUptoCard : Claim7 := { stood := { row := hiprafterLinesUptoRow, standIns := [], harness := (true, "6e1478dd1505b7e15f6d2add629910d60abb65e6a42bf4fdd29ba60dd9a94956"), looks := true }, kinds := [], alts := [], laidByText := true, laidKinds := [.data, .data, .data, .data, .sentinel, .sentinel, .pinned], laidTests := true, laidLooks := .later }
def HiprafterLinesUptoCardSaid : Prop := Claim7.holds Tryz.pinned (.plain (OpenSpec.upto hiprafterLinesSpec)) hiprafterLinesUptoCard

/-- THE SECOND FORM's CARD OF 'kingpostlaw28.HiprafterSizes'. -/
def hiprafterSizesUptoCard : Claim7 := { stood := { row := hiprafterSizesUptoRow, standIns := [], harness := (true, "6e1478dd1505b7e15f6d2add629910d60abb65e6a42bf4fdd29ba60dd9a94956"), looks := true }, kinds := [], alts := [], laidByText := true, laidKinds := [.data, .data, .data, .data, .sentinel, .sentinel, .pinned], laidTests := true, laidLooks := .later }
def HiprafterSizesUptoCardSaid : Prop := Claim7.holds Tryz.pinned (.plain (OpenSpec.upto hiprafterSizesSpec)) hiprafterSizesUptoCard

/-- THE SECOND FORM's CARD OF 'kingpostlaw09.VectorProducts'. -/
def vectorProductsUptoCard : Claim7 := { stood := { row := vectorProductsUptoRow, standIns := [], harness := (true, "6e1478dd1505b7e15f6d2add629910d60abb65e6a42bf4fdd29ba60dd9a94956"), looks := true }, kinds := [], alts := [], laidByText := true, laidKinds := [.data, .data, .data, .data, .sentinel, .sentinel, .data, .pinned], laidTests := true, laidLooks := .later }
def VectorProductsUptoCardSaid : Prop := Claim7.holds Tryz.pinned (.plain (OpenSpec.upto vectorProductsSpec)) vectorProductsUptoCard
end Rows
end Go.Proofs.YtklgpilgalfckaaGreatDoor
