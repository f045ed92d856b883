/-
  DERIVED. GIVEN WITH THE SEED: THE CARDS: each row of YtbfojhneajedmaaGreatDoorRows.lean that lists a variable, with what it lists TIED to the program's text (the seventh form; the later family's looks); each row that meets fmt, with fmt's text TOLD by the authors' own Lean function (tested against real Go, not proved from fmt's source: count such statements apart). THE CARD IS WHAT COUNTS. Prove the row's statement (the work); the ties are given (YtbfojhneajedmaaGreatDoorTie.lean); close each card by the builder's one call (the guide's Derived/Test/ToyasCard.lean, 'card_holds'). Laid BY PROGRAM, IN A SANDBOX (cutbox-door.mjs). By AI agents, Wed Nov 11 2026. No macro, syntax, notation, axiom, sorry.
-/
import Derived.Test.YtbfojhneajedmaaGreatDoorRows
import GoSem.ClaimSeven
namespace Go.Proofs.YtbfojhneajedmaaGreatDoor
namespace Rows

/-- THE TIED CARD OF 'kingpostlaw28.HiprafterMembers'. -/
def hiprafterMembersCard : Claim7 := { stood := { row := hiprafterMembersRow, standIns := [], harness := (true, "f668c80b5ee784fd1eaf85381cca87a8dddacb9a3bfa9ea4f2cc762459269bf5"), looks := true }, kinds := [], alts := [], laidByText := true, laidKinds := [.data, .data, .data, .data, .sentinel, .sentinel, .pinned], laidTests := true, laidLooks := .later }
def HiprafterMembersCardSaid : Prop := Claim7.holds Tryz.pinned (.plain (OpenSpec.ofChange hiprafterMembersSpec)) hiprafterMembersCard

/-- THE TIED CARD OF 'kingpostlaw28.HiprafterKeeps'. -/
def hiprafterKeepsCard : Claim7 := { stood := { row := hiprafterKeepsRow, standIns := [], harness := (true, "f668c80b5ee784fd1eaf85381cca87a8dddacb9a3bfa9ea4f2cc762459269bf5"), looks := true }, kinds := [], alts := [], laidByText := true, laidKinds := [.data, .data, .data, .data, .sentinel, .sentinel, .pinned], laidTests := true, laidLooks := .later }
def HiprafterKeepsCardSaid : Prop := Claim7.holds Tryz.pinned (.plain (OpenSpec.ofChange hiprafterKeepsSpec)) hiprafterKeepsCard

/-- THE TIED CARD OF 'kingpostlaw28.HiprafterTurned'. -/
def hiprafterTurnedCard : Claim7 := { stood := { row := hiprafterTurnedRow, standIns := [], harness := (true, "f668c80b5ee784fd1eaf85381cca87a8dddacb9a3bfa9ea4f2cc762459269bf5"), looks := true }, kinds := [], alts := [], laidByText := true, laidKinds := [.data, .data, .data, .data, .sentinel, .sentinel, .pinned], laidTests := true, laidLooks := .later }
def HiprafterTurnedCardSaid : Prop := Claim7.holds Tryz.pinned (.plain (OpenSpec.ofChange hiprafterTurnedSpec)) hiprafterTurnedCard

/-- THE TIED CARD OF 'kingpostlaw28.HiprafterLines'. -/
def hiprafterLinesCard : Claim7 := { stood := { row := hiprafterLinesRow, standIns := [], harness := (true, "f668c80b5ee784fd1eaf85381cca87a8dddacb9a3bfa9ea4f2cc762459269bf5"), looks := true }, kinds := [], alts := [], laidByText := true, laidKinds := [.data, .data, .data, .data, .sentinel, .sentinel, .pinned], laidTests := true, laidLooks := .later }
def HiprafterLinesCardSaid : Prop := Claim7.holds Tryz.pinned (.plain (OpenSpec.ofChange hiprafterLinesSpec)) hiprafterLinesCard

/-- THE TIED CARD OF 'kingpostlaw28.HiprafterEnds'. -/
def hiprafterEndsCard : Claim7 := { stood := { row := hiprafterEndsRow, standIns := [], harness := (true, "f668c80b5ee784fd1eaf85381cca87a8dddacb9a3bfa9ea4f2cc762459269bf5"), looks := true }, kinds := [], alts := [], laidByText := true, laidKinds := [.data, .data, .data, .data, .sentinel, .sentinel, .pinned], laidTests := true, laidLooks := .later }
def HiprafterEndsCardSaid : Prop := Claim7.holds Tryz.pinned (.plain (OpenSpec.ofChange hiprafterEndsSpec)) hiprafterEndsCard

/-- THE TIED CARD OF 'kingpostlaw28.HiprafterDirections'. -/
def hiprafterDirectionsCard : Claim7 := { stood := { row := hiprafterDirectionsRow, standIns := [], harness := (true, "f668c80b5ee784fd1eaf85381cca87a8dddacb9a3bfa9ea4f2cc762459269bf5"), looks := true }, kinds := [], alts := [], laidByText := true, laidKinds := [.data, .data, .data, .data, .sentinel, .sentinel, .pinned], laidTests := true, laidLooks := .later }
def HiprafterDirectionsCardSaid : Prop := Claim7.holds Tryz.pinned (.plain (OpenSpec.ofChange hiprafterDirectionsSpec)) hiprafterDirectionsCard

/-- THE TIED CARD OF 'kingpostlaw28.HiprafterSizes'. -/
def hiprafterSizesCard : Claim7 := { stood := { row := hiprafterSizesRow, standIns := [], harness := (true, "f668c80b5ee784fd1eaf85381cca87a8dddacb9a3bfa9ea4f2cc762459269bf5"), looks := true }, kinds := [], alts := [], laidByText := true, laidKinds := [.data, .data, .data, .data, .sentinel, .sentinel, .pinned], laidTests := true, laidLooks := .later }
def HiprafterSizesCardSaid : Prop := Claim7.holds Tryz.pinned (.plain (OpenSpec.ofChange hiprafterSizesSpec)) hiprafterSizesCard

/-- THE TIED CARD OF 'kingpostlaw09.VectorOrder'. -/
def vectorOrderCard : Claim7 := { stood := { row := vectorOrderRow, standIns := [], harness := (true, "f668c80b5ee784fd1eaf85381cca87a8dddacb9a3bfa9ea4f2cc762459269bf5"), looks := true }, kinds := [], alts := [], laidByText := true, laidKinds := [.data, .data, .data, .data, .sentinel, .sentinel, .data, .pinned], laidTests := true, laidLooks := .later }
def VectorOrderCardSaid : Prop := Claim7.holds Tryz.pinned (.plain (OpenSpec.ofChange vectorOrderSpec)) vectorOrderCard

/-- THE TIED CARD OF 'kingpostlaw09.VectorLagrange'. -/
def vectorLagrangeCard : Claim7 := { stood := { row := vectorLagrangeRow, standIns := [], harness := (true, "f668c80b5ee784fd1eaf85381cca87a8dddacb9a3bfa9ea4f2cc762459269bf5"), looks := true }, kinds := [], alts := [], laidByText := true, laidKinds := [.data, .data, .data, .data, .sentinel, .sentinel, .data, .pinned], laidTests := true, laidLooks := .later }
def VectorLagrangeCardSaid : Prop := Claim7.holds Tryz.pinned (.plain (OpenSpec.ofChange vectorLagrangeSpec)) vectorLagrangeCard

/-- THE TIED CARD OF 'kingpostlaw09.VectorProducts'. -/
def vectorProductsCard : Claim7 := { stood := { row := vectorProductsRow, standIns := [], harness := (true, "f668c80b5ee784fd1eaf85381cca87a8dddacb9a3bfa9ea4f2cc762459269bf5"), looks := true }, kinds := [], alts := [], laidByText := true, laidKinds := [.data, .data, .data, .data, .sentinel, .sentinel, .data, .pinned], laidTests := true, laidLooks := .later }
def VectorProductsCardSaid : Prop := Claim7.holds Tryz.pinned (.plain (OpenSpec.ofChange vectorProductsSpec)) vectorProductsCard

/-- THE TIED CARD OF 'kingpostlaw09.VectorSpace'. -/
def vectorSpaceCard : Claim7 := { stood := { row := vectorSpaceRow, standIns := [], harness := (true, "f668c80b5ee784fd1eaf85381cca87a8dddacb9a3bfa9ea4f2cc762459269bf5"), looks := true }, kinds := [], alts := [], laidByText := true, laidKinds := [.data, .data, .data, .data, .sentinel, .sentinel, .data, .pinned], laidTests := true, laidLooks := .later }
def VectorSpaceCardSaid : Prop := Claim7.holds Tryz.pinned (.plain (OpenSpec.ofChange vectorSpaceSpec)) vectorSpaceCard

/-- THE TIED CARD OF 'kingpostlaw09.VectorScalar'. -/
def vectorScalarCard : Claim7 := { stood := { row := vectorScalarRow, standIns := [], harness := (true, "f668c80b5ee784fd1eaf85381cca87a8dddacb9a3bfa9ea4f2cc762459269bf5"), looks := true }, kinds := [], alts := [], laidByText := true, laidKinds := [.data, .data, .data, .data, .sentinel, .sentinel, .data, .pinned], laidTests := true, laidLooks := .later }
def VectorScalarCardSaid : Prop := Claim7.holds Tryz.pinned (.plain (OpenSpec.ofChange vectorScalarSpec)) vectorScalarCard

/-- THE TIED CARD OF 'kingpostlaw09.VectorCross'. -/
def vectorCrossCard : Claim7 := { stood := { row := vectorCrossRow, standIns := [], harness := (true, "f668c80b5ee784fd1eaf85381cca87a8dddacb9a3bfa9ea4f2cc762459269bf5"), looks := true }, kinds := [], alts := [], laidByText := true, laidKinds := [.data, .data, .data, .data, .sentinel, .sentinel, .data, .pinned], laidTests := true, laidLooks := .later }
def VectorCrossCardSaid : Prop := Claim7.holds Tryz.pinned (.plain (OpenSpec.ofChange vectorCrossSpec)) vectorCrossCard

/-- THE SECOND FORM's CARD OF 'kingpostlaw28.HiprafterMembers'. -/
def hiprafterMembersUptoCard : Claim7 := { stood := { row := hiprafterMembersUptoRow, standIns := [], harness := (true, "f668c80b5ee784fd1eaf85381cca87a8dddacb9a3bfa9ea4f2cc762459269bf5"), looks := true }, kinds := [], alts := [], laidByText := true, laidKinds := [.data, .data, .data, .data, .sentinel, .sentinel, .pinned], laidTests := true, laidLooks := .later }
def HiprafterMembersUptoCardSaid : Prop := Claim7.holds Tryz.pinned (.plain (OpenSpec.upto hiprafterMembersSpec)) hiprafterMembersUptoCard

/-- THE SECOND FORM's CARD OF 'kingpostlaw28.HiprafterKeeps'. -/
def hiprafterKeepsUptoCard : Claim7 := { stood := { row := hiprafterKeepsUptoRow, standIns := [], harness := (true, "f668c80b5ee784fd1eaf85381cca87a8dddacb9a3bfa9ea4f2cc762459269bf5"), looks := true }, kinds := [], alts := [], laidByText := true, laidKinds := [.data, .data, .data, .data, .sentinel, .sentinel, .pinned], laidTests := true, laidLooks := .later }
def HiprafterKeepsUptoCardSaid : Prop := Claim7.holds Tryz.pinned (.plain (OpenSpec.upto hiprafterKeepsSpec)) hiprafterKeepsUptoCard

/-- THE SECOND FORM's CARD OF 'kingpostlaw28.HiprafterTurned'. -/
def hiprafterTurnedUptoCard : Claim7 := { stood := { row := hiprafterTurnedUptoRow, standIns := [], harness := (true, "f668c80b5ee784fd1eaf85381cca87a8dddacb9a3bfa9ea4f2cc762459269bf5"), looks := true }, kinds := [], alts := [], laidByText := true, laidKinds := [.data, .data, .data, .data, .sentinel, .sentinel, .pinned], laidTests := true, laidLooks := .later }
def HiprafterTurnedUptoCardSaid : Prop := Claim7.holds Tryz.pinned (.plain (OpenSpec.upto hiprafterTurnedSpec)) hiprafterTurnedUptoCard

/-- THE SECOND FORM's CARD OF 'kingpostlaw28.HiprafterLines'. -/
def hiprafterLinesUptoCard : Claim7 := { stood := { row := hiprafterLinesUptoRow, standIns := [], harness := (true, "f668c80b5ee784fd1eaf85381cca87a8dddacb9a3bfa9ea4f2cc762459269bf5"), looks := true }, kinds := [], alts := [], laidByText := true, laidKinds := [.data, .data, .data, .data, .sentinel, .sentinel, .pinned], laidTests := true, laidLooks := .later }
def HiprafterLinesUptoCardSaid : Prop := Claim7.holds Tryz.pinned (.plain (OpenSpec.upto hiprafterLinesSpec)) hiprafterLinesUptoCard

/-- THE SECOND FORM's CARD OF 'kingpostlaw28.HiprafterEnds'. -/
def hiprafterEndsUptoCard : Claim7 := { stood := { row := hiprafterEndsUptoRow, standIns := [], harness := (true, "f668c80b5ee784fd1eaf85381cca87a8dddacb9a3bfa9ea4f2cc762459269bf5"), looks := true }, kinds := [], alts := [], laidByText := true, laidKinds := [.data, .data, .data, .data, .sentinel, .sentinel, .pinned], laidTests := true, laidLooks := .later }
def HiprafterEndsUptoCardSaid : Prop := Claim7.holds Tryz.pinned (.plain (OpenSpec.upto hiprafterEndsSpec)) hiprafterEndsUptoCard

/-- THE SECOND FORM's CARD OF 'kingpostlaw28.HiprafterDirections'. -/
def hiprafterDirectionsUptoCard : Claim7 := { stood := { row := hiprafterDirectionsUptoRow, standIns := [], harness := (true, "f668c80b5ee784fd1eaf85381cca87a8dddacb9a3bfa9ea4f2cc762459269bf5"), looks := true }, kinds := [], alts := [], laidByText := true, laidKinds := [.data, .data, .data, .data, .sentinel, .sentinel, .pinned], laidTests := true, laidLooks := .later }
def HiprafterDirectionsUptoCardSaid : Prop := Claim7.holds Tryz.pinned (.plain (OpenSpec.upto hiprafterDirectionsSpec)) hiprafterDirectionsUptoCard

/-- THE SECOND FORM's CARD OF 'kingpostlaw28.HiprafterSizes'. -/
def hiprafterSizesUptoCard : Claim7 := { stood := { row := hiprafterSizesUptoRow, standIns := [], harness := (true, "f668c80b5ee784fd1eaf85381cca87a8dddacb9a3bfa9ea4f2cc762459269bf5"), looks := true }, kinds := [], alts := [], laidByText := true, laidKinds := [.data, .data, .data, .data, .sentinel, .sentinel, .pinned], laidTests := true, laidLooks := .later }
def HiprafterSizesUptoCardSaid : Prop := Claim7.holds Tryz.pinned (.plain (OpenSpec.upto hiprafterSizesSpec)) hiprafterSizesUptoCard

/-- THE SECOND FORM's CARD OF 'kingpostlaw09.VectorOrder'. -/
def vectorOrderUptoCard : Claim7 := { stood := { row := vectorOrderUptoRow, standIns := [], harness := (true, "f668c80b5ee784fd1eaf85381cca87a8dddacb9a3bfa9ea4f2cc762459269bf5"), looks := true }, kinds := [], alts := [], laidByText := true, laidKinds := [.data, .data, .data, .data, .sentinel, .sentinel, .data, .pinned], laidTests := true, laidLooks := .later }
def VectorOrderUptoCardSaid : Prop := Claim7.holds Tryz.pinned (.plain (OpenSpec.upto vectorOrderSpec)) vectorOrderUptoCard

/-- THE SECOND FORM's CARD OF 'kingpostlaw09.VectorLagrange'. -/
def vectorLagrangeUptoCard : Claim7 := { stood := { row := vectorLagrangeUptoRow, standIns := [], harness := (true, "f668c80b5ee784fd1eaf85381cca87a8dddacb9a3bfa9ea4f2cc762459269bf5"), looks := true }, kinds := [], alts := [], laidByText := true, laidKinds := [.data, .data, .data, .data, .sentinel, .sentinel, .data, .pinned], laidTests := true, laidLooks := .later }
def VectorLagrangeUptoCardSaid : Prop := Claim7.holds Tryz.pinned (.plain (OpenSpec.upto vectorLagrangeSpec)) vectorLagrangeUptoCard

/-- THE SECOND FORM's CARD OF 'kingpostlaw09.VectorProducts'. -/
def vectorProductsUptoCard : Claim7 := { stood := { row := vectorProductsUptoRow, standIns := [], harness := (true, "f668c80b5ee784fd1eaf85381cca87a8dddacb9a3bfa9ea4f2cc762459269bf5"), looks := true }, kinds := [], alts := [], laidByText := true, laidKinds := [.data, .data, .data, .data, .sentinel, .sentinel, .data, .pinned], laidTests := true, laidLooks := .later }
def VectorProductsUptoCardSaid : Prop := Claim7.holds Tryz.pinned (.plain (OpenSpec.upto vectorProductsSpec)) vectorProductsUptoCard

/-- THE SECOND FORM's CARD OF 'kingpostlaw09.VectorSpace'. -/
def vectorSpaceUptoCard : Claim7 := { stood := { row := vectorSpaceUptoRow, standIns := [], harness := (true, "f668c80b5ee784fd1eaf85381cca87a8dddacb9a3bfa9ea4f2cc762459269bf5"), looks := true }, kinds := [], alts := [], laidByText := true, laidKinds := [.data, .data, .data, .data, .sentinel, .sentinel, .data, .pinned], laidTests := true, laidLooks := .later }
def VectorSpaceUptoCardSaid : Prop := Claim7.holds Tryz.pinned (.plain (OpenSpec.upto vectorSpaceSpec)) vectorSpaceUptoCard

/-- THE SECOND FORM's CARD OF 'kingpostlaw09.VectorScalar'. -/
def vectorScalarUptoCard : Claim7 := { stood := { row := vectorScalarUptoRow, standIns := [], harness := (true, "f668c80b5ee784fd1eaf85381cca87a8dddacb9a3bfa9ea4f2cc762459269bf5"), looks := true }, kinds := [], alts := [], laidByText := true, laidKinds := [.data, .data, .data, .data, .sentinel, .sentinel, .data, .pinned], laidTests := true, laidLooks := .later }
def VectorScalarUptoCardSaid : Prop := Claim7.holds Tryz.pinned (.plain (OpenSpec.upto vectorScalarSpec)) vectorScalarUptoCard

/-- THE SECOND FORM's CARD OF 'kingpostlaw09.VectorCross'. -/
def vectorCrossUptoCard : Claim7 := { stood := { row := vectorCrossUptoRow, standIns := [], harness := (true, "f668c80b5ee784fd1eaf85381cca87a8dddacb9a3bfa9ea4f2cc762459269bf5"), looks := true }, kinds := [], alts := [], laidByText := true, laidKinds := [.data, .data, .data, .data, .sentinel, .sentinel, .data, .pinned], laidTests := true, laidLooks := .later }
def VectorCrossUptoCardSaid : Prop := Claim7.holds Tryz.pinned (.plain (OpenSpec.upto vectorCrossSpec)) vectorCrossUptoCard
end Rows
end Go.Proofs.YtbfojhneajedmaaGreatDoor
