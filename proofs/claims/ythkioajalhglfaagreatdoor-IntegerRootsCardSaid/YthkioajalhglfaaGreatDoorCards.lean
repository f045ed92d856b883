/-
  DERIVED. GIVEN WITH THE SEED: THE CARDS: each row of YthkioajalhglfaaGreatDoorRows.lean that lists a variable, with what it lists TIED to the program's text (the seventh form; the later family's looks); each row that meets fmt, with fmt's text TOLD by the authors' own Lean function (tested against real Go, not proved from fmt's source: count such statements apart). THE CARD IS WHAT COUNTS. Prove the row's statement (the work); the ties are given (YthkioajalhglfaaGreatDoorTie.lean); close each card by the builder's one call (the guide's Derived/Test/ToyasCard.lean, 'card_holds'). Laid BY PROGRAM, IN A SANDBOX (cutbox-door.mjs). By AI agents, Wed Nov 11 2026. No macro, syntax, notation, axiom, sorry.
-/
import Derived.Test.YthkioajalhglfaaGreatDoorRows
import GoSem.ClaimSeven
namespace Go.Proofs.YthkioajalhglfaaGreatDoor
namespace Rows

/-- THE TIED CARD OF 'kingpostlaw01.IntegerProducts'. -/
def integerProductsCard : Claim7 := { stood := { row := integerProductsRow, standIns := [], harness := (true, "ec8721564ef7b866c092895d6a365e221a4ea89c16230c499669342e423d4c05"), looks := true }, kinds := [], alts := [], laidByText := true, laidKinds := [.data, .data, .data, .data, .sentinel, .sentinel, .pinned], laidTests := true, laidLooks := .later }
def IntegerProductsCardSaid : Prop := Claim7.holds Tryz.pinned (.plain (OpenSpec.ofChange integerProductsSpec)) integerProductsCard

/-- THE TIED CARD OF 'kingpostlaw01.IntegerRoots'. -/
def integerRootsCard : Claim7 := { stood := { row := integerRootsRow, standIns := [], harness := (true, "ec8721564ef7b866c092895d6a365e221a4ea89c16230c499669342e423d4c05"), looks := true }, kinds := [], alts := [], laidByText := true, laidKinds := [.data, .data, .data, .data, .sentinel, .sentinel, .pinned], laidTests := true, laidLooks := .later }
def IntegerRootsCardSaid : Prop := Claim7.holds Tryz.pinned (.plain (OpenSpec.ofChange integerRootsSpec)) integerRootsCard

/-- THE TIED CARD OF 'kingpostlaw01.IntegerPowers'. -/
def integerPowersCard : Claim7 := { stood := { row := integerPowersRow, standIns := [], harness := (true, "ec8721564ef7b866c092895d6a365e221a4ea89c16230c499669342e423d4c05"), looks := true }, kinds := [], alts := [], laidByText := true, laidKinds := [.data, .data, .data, .data, .sentinel, .sentinel, .pinned], laidTests := true, laidLooks := .later }
def IntegerPowersCardSaid : Prop := Claim7.holds Tryz.pinned (.plain (OpenSpec.ofChange integerPowersSpec)) integerPowersCard

/-- THE TIED CARD OF 'kingpostlaw01.IntegerDivisors'. -/
def integerDivisorsCard : Claim7 := { stood := { row := integerDivisorsRow, standIns := [], harness := (true, "ec8721564ef7b866c092895d6a365e221a4ea89c16230c499669342e423d4c05"), looks := true }, kinds := [], alts := [], laidByText := true, laidKinds := [.data, .data, .data, .data, .sentinel, .sentinel, .pinned], laidTests := true, laidLooks := .later }
def IntegerDivisorsCardSaid : Prop := Claim7.holds Tryz.pinned (.plain (OpenSpec.ofChange integerDivisorsSpec)) integerDivisorsCard

/-- THE TIED CARD OF 'kingpostlaw01.IntegerRing'. -/
def integerRingCard : Claim7 := { stood := { row := integerRingRow, standIns := [], harness := (true, "ec8721564ef7b866c092895d6a365e221a4ea89c16230c499669342e423d4c05"), looks := true }, kinds := [], alts := [], laidByText := true, laidKinds := [.data, .data, .data, .data, .sentinel, .sentinel, .pinned], laidTests := true, laidLooks := .later }
def IntegerRingCardSaid : Prop := Claim7.holds Tryz.pinned (.plain (OpenSpec.ofChange integerRingSpec)) integerRingCard

/-- THE TIED CARD OF 'kingpostlaw01.IntegerSums'. -/
def integerSumsCard : Claim7 := { stood := { row := integerSumsRow, standIns := [], harness := (true, "ec8721564ef7b866c092895d6a365e221a4ea89c16230c499669342e423d4c05"), looks := true }, kinds := [], alts := [], laidByText := true, laidKinds := [.data, .data, .data, .data, .sentinel, .sentinel, .pinned], laidTests := true, laidLooks := .later }
def IntegerSumsCardSaid : Prop := Claim7.holds Tryz.pinned (.plain (OpenSpec.ofChange integerSumsSpec)) integerSumsCard

/-- THE TIED CARD OF 'kingpostlaw01.IntegerOrder'. -/
def integerOrderCard : Claim7 := { stood := { row := integerOrderRow, standIns := [], harness := (true, "ec8721564ef7b866c092895d6a365e221a4ea89c16230c499669342e423d4c05"), looks := true }, kinds := [], alts := [], laidByText := true, laidKinds := [.data, .data, .data, .data, .sentinel, .sentinel, .pinned], laidTests := true, laidLooks := .later }
def IntegerOrderCardSaid : Prop := Claim7.holds Tryz.pinned (.plain (OpenSpec.ofChange integerOrderSpec)) integerOrderCard

/-- THE TIED CARD OF 'kingpostlaw01.IntegerDivision'. -/
def integerDivisionCard : Claim7 := { stood := { row := integerDivisionRow, standIns := [], harness := (true, "ec8721564ef7b866c092895d6a365e221a4ea89c16230c499669342e423d4c05"), looks := true }, kinds := [], alts := [], laidByText := true, laidKinds := [.data, .data, .data, .data, .sentinel, .sentinel, .pinned], laidTests := true, laidLooks := .later }
def IntegerDivisionCardSaid : Prop := Claim7.holds Tryz.pinned (.plain (OpenSpec.ofChange integerDivisionSpec)) integerDivisionCard

/-- THE TIED CARD OF 'kingpostlaw01.IntegerSquares'. -/
def integerSquaresCard : Claim7 := { stood := { row := integerSquaresRow, standIns := [], harness := (true, "ec8721564ef7b866c092895d6a365e221a4ea89c16230c499669342e423d4c05"), looks := true }, kinds := [], alts := [], laidByText := true, laidKinds := [.data, .data, .data, .data, .sentinel, .sentinel, .pinned], laidTests := true, laidLooks := .later }
def IntegerSquaresCardSaid : Prop := Claim7.holds Tryz.pinned (.plain (OpenSpec.ofChange integerSquaresSpec)) integerSquaresCard

/-- THE TIED CARD OF 'kingpostlaw01.IntegerSmall'. -/
def integerSmallCard : Claim7 := { stood := { row := integerSmallRow, standIns := [], harness := (true, "ec8721564ef7b866c092895d6a365e221a4ea89c16230c499669342e423d4c05"), looks := true }, kinds := [], alts := [], laidByText := true, laidKinds := [.data, .data, .data, .data, .sentinel, .sentinel, .pinned], laidTests := true, laidLooks := .later }
def IntegerSmallCardSaid : Prop := Claim7.holds Tryz.pinned (.plain (OpenSpec.ofChange integerSmallSpec)) integerSmallCard

/-- THE SECOND FORM's CARD OF 'kingpostlaw01.IntegerProducts'. -/
def integerProductsUptoCard : Claim7 := { stood := { row := integerProductsUptoRow, standIns := [], harness := (true, "ec8721564ef7b866c092895d6a365e221a4ea89c16230c499669342e423d4c05"), looks := true }, kinds := [], alts := [], laidByText := true, laidKinds := [.data, .data, .data, .data, .sentinel, .sentinel, .pinned], laidTests := true, laidLooks := .later }
def IntegerProductsUptoCardSaid : Prop := Claim7.holds Tryz.pinned (.plain (OpenSpec.upto integerProductsSpec)) integerProductsUptoCard

/-- THE SECOND FORM's CARD OF 'kingpostlaw01.IntegerRoots'. -/
def integerRootsUptoCard : Claim7 := { stood := { row := integerRootsUptoRow, standIns := [], harness := (true, "ec8721564ef7b866c092895d6a365e221a4ea89c16230c499669342e423d4c05"), looks := true }, kinds := [], alts := [], laidByText := true, laidKinds := [.data, .data, .data, .data, .sentinel, .sentinel, .pinned], laidTests := true, laidLooks := .later }
def IntegerRootsUptoCardSaid : Prop := Claim7.holds Tryz.pinned (.plain (OpenSpec.upto integerRootsSpec)) integerRootsUptoCard

/-- THE SECOND FORM's CARD OF 'kingpostlaw01.IntegerPowers'. -/
def integerPowersUptoCard : Claim7 := { stood := { row := integerPowersUptoRow, standIns := [], harness := (true, "ec8721564ef7b866c092895d6a365e221a4ea89c16230c499669342e423d4c05"), looks := true }, kinds := [], alts := [], laidByText := true, laidKinds := [.data, .data, .data, .data, .sentinel, .sentinel, .pinned], laidTests := true, laidLooks := .later }
def IntegerPowersUptoCardSaid : Prop := Claim7.holds Tryz.pinned (.plain (OpenSpec.upto integerPowersSpec)) integerPowersUptoCard

/-- THE SECOND FORM's CARD OF 'kingpostlaw01.IntegerDivisors'. -/
def integerDivisorsUptoCard : Claim7 := { stood := { row := integerDivisorsUptoRow, standIns := [], harness := (true, "ec8721564ef7b866c092895d6a365e221a4ea89c16230c499669342e423d4c05"), looks := true }, kinds := [], alts := [], laidByText := true, laidKinds := [.data, .data, .data, .data, .sentinel, .sentinel, .pinned], laidTests := true, laidLooks := .later }
def IntegerDivisorsUptoCardSaid : Prop := Claim7.holds Tryz.pinned (.plain (OpenSpec.upto integerDivisorsSpec)) integerDivisorsUptoCard

/-- THE SECOND FORM's CARD OF 'kingpostlaw01.IntegerRing'. -/
def integerRingUptoCard : Claim7 := { stood := { row := integerRingUptoRow, standIns := [], harness := (true, "ec8721564ef7b866c092895d6a365e221a4ea89c16230c499669342e423d4c05"), looks := true }, kinds := [], alts := [], laidByText := true, laidKinds := [.data, .data, .data, .data, .sentinel, .sentinel, .pinned], laidTests := true, laidLooks := .later }
def IntegerRingUptoCardSaid : Prop := Claim7.holds Tryz.pinned (.plain (OpenSpec.upto integerRingSpec)) integerRingUptoCard

/-- THE SECOND FORM's CARD OF 'kingpostlaw01.IntegerSums'. -/
def integerSumsUptoCard : Claim7 := { stood := { row := integerSumsUptoRow, standIns := [], harness := (true, "ec8721564ef7b866c092895d6a365e221a4ea89c16230c499669342e423d4c05"), looks := true }, kinds := [], alts := [], laidByText := true, laidKinds := [.data, .data, .data, .data, .sentinel, .sentinel, .pinned], laidTests := true, laidLooks := .later }
def IntegerSumsUptoCardSaid : Prop := Claim7.holds Tryz.pinned (.plain (OpenSpec.upto integerSumsSpec)) integerSumsUptoCard

/-- THE SECOND FORM's CARD OF 'kingpostlaw01.IntegerOrder'. -/
def integerOrderUptoCard : Claim7 := { stood := { row := integerOrderUptoRow, standIns := [], harness := (true, "ec8721564ef7b866c092895d6a365e221a4ea89c16230c499669342e423d4c05"), looks := true }, kinds := [], alts := [], laidByText := true, laidKinds := [.data, .data, .data, .data, .sentinel, .sentinel, .pinned], laidTests := true, laidLooks := .later }
def IntegerOrderUptoCardSaid : Prop := Claim7.holds Tryz.pinned (.plain (OpenSpec.upto integerOrderSpec)) integerOrderUptoCard

/-- THE SECOND FORM's CARD OF 'kingpostlaw01.IntegerDivision'. -/
def integerDivisionUptoCard : Claim7 := { stood := { row := integerDivisionUptoRow, standIns := [], harness := (true, "ec8721564ef7b866c092895d6a365e221a4ea89c16230c499669342e423d4c05"), looks := true }, kinds := [], alts := [], laidByText := true, laidKinds := [.data, .data, .data, .data, .sentinel, .sentinel, .pinned], laidTests := true, laidLooks := .later }
def IntegerDivisionUptoCardSaid : Prop := Claim7.holds Tryz.pinned (.plain (OpenSpec.upto integerDivisionSpec)) integerDivisionUptoCard

/-- THE SECOND FORM's CARD OF 'kingpostlaw01.IntegerSquares'. -/
def integerSquaresUptoCard : Claim7 := { stood := { row := integerSquaresUptoRow, standIns := [], harness := (true, "ec8721564ef7b866c092895d6a365e221a4ea89c16230c499669342e423d4c05"), looks := true }, kinds := [], alts := [], laidByText := true, laidKinds := [.data, .data, .data, .data, .sentinel, .sentinel, .pinned], laidTests := true, laidLooks := .later }
def IntegerSquaresUptoCardSaid : Prop := Claim7.holds Tryz.pinned (.plain (OpenSpec.upto integerSquaresSpec)) integerSquaresUptoCard

/-- THE SECOND FORM's CARD OF 'kingpostlaw01.IntegerSmall'. -/
def integerSmallUptoCard : Claim7 := { stood := { row := integerSmallUptoRow, standIns := [], harness := (true, "ec8721564ef7b866c092895d6a365e221a4ea89c16230c499669342e423d4c05"), looks := true }, kinds := [], alts := [], laidByText := true, laidKinds := [.data, .data, .data, .data, .sentinel, .sentinel, .pinned], laidTests := true, laidLooks := .later }
def IntegerSmallUptoCardSaid : Prop := Claim7.holds Tryz.pinned (.plain (OpenSpec.upto integerSmallSpec)) integerSmallUptoCard
end Rows
end Go.Proofs.YthkioajalhglfaaGreatDoor
