/-
  DERIVED. GIVEN WITH THE SEED: THE CARDS: each row of YtfljmbdnnjjmoaaDoorRows.lean that lists a variable, with what it lists TIED to the program's text (the seventh form; the later family's looks); each row that meets fmt, with fmt's text TOLD by the authors' own Lean function (tested against real Go, not proved from fmt's source: count such statements apart). THE CARD IS WHAT COUNTS. Prove the row's statement (the work); the ties are given (YtfljmbdnnjjmoaaDoorTie.lean); close each card by the builder's one call (the guide's Derived/Test/ToyasCard.lean, 'card_holds'). Laid BY PROGRAM, IN A SANDBOX (cutbox-door.mjs). By AI agents, Wed Nov 11 2026. No macro, syntax, notation, axiom, sorry.
-/
import Derived.Test.YtfljmbdnnjjmoaaDoorRows
import GoSem.ClaimSeven
namespace Go.Proofs.YtfljmbdnnjjmoaaDoor
namespace Rows

/-- THE TIED CARD OF 'kingpostlaw43.StockFree'. -/
def stockFreeCard : Claim7 := { stood := { row := stockFreeRow, standIns := [], harness := (true, "618a4161427e0aa34369f3b13382a755c6b52a4669310861f1c4bee2e072fe4d"), looks := true }, kinds := [], alts := [], laidByText := true, laidKinds := [.data, .data, .data], laidTests := true, laidLooks := .later }
def StockFreeCardSaid : Prop := Claim7.holds Tryd.pinned (.plain (OpenSpec.ofChange stockFreeSpec)) stockFreeCard

/-- THE TIED CARD OF 'kingpostlaw43.StockLaid'. -/
def stockLaidCard : Claim7 := { stood := { row := stockLaidRow, standIns := [], harness := (true, "618a4161427e0aa34369f3b13382a755c6b52a4669310861f1c4bee2e072fe4d"), looks := true }, kinds := [], alts := [], laidByText := true, laidKinds := [.data, .data, .data], laidTests := true, laidLooks := .later }
def StockLaidCardSaid : Prop := Claim7.holds Tryd.pinned (.plain (OpenSpec.ofChange stockLaidSpec)) stockLaidCard

/-- THE TIED CARD OF 'kingpostlaw43.StockEarly'. -/
def stockEarlyCard : Claim7 := { stood := { row := stockEarlyRow, standIns := [], harness := (true, "618a4161427e0aa34369f3b13382a755c6b52a4669310861f1c4bee2e072fe4d"), looks := true }, kinds := [], alts := [], laidByText := true, laidKinds := [.data, .data, .data], laidTests := true, laidLooks := .later }
def StockEarlyCardSaid : Prop := Claim7.holds Tryd.pinned (.plain (OpenSpec.ofChange stockEarlySpec)) stockEarlyCard

/-- THE TIED CARD OF 'kingpostlaw43.StockCapacity'. -/
def stockCapacityCard : Claim7 := { stood := { row := stockCapacityRow, standIns := [], harness := (true, "618a4161427e0aa34369f3b13382a755c6b52a4669310861f1c4bee2e072fe4d"), looks := true }, kinds := [], alts := [], laidByText := true, laidKinds := [.data, .data, .data], laidTests := true, laidLooks := .later }
def StockCapacityCardSaid : Prop := Claim7.holds Tryd.pinned (.plain (OpenSpec.ofChange stockCapacitySpec)) stockCapacityCard

/-- THE TIED CARD OF 'kingpostlaw43.StockFewer'. -/
def stockFewerCard : Claim7 := { stood := { row := stockFewerRow, standIns := [], harness := (true, "618a4161427e0aa34369f3b13382a755c6b52a4669310861f1c4bee2e072fe4d"), looks := true }, kinds := [], alts := [], laidByText := true, laidKinds := [.data, .data, .data], laidTests := true, laidLooks := .later }
def StockFewerCardSaid : Prop := Claim7.holds Tryd.pinned (.plain (OpenSpec.ofChange stockFewerSpec)) stockFewerCard

/-- THE TIED CARD OF 'kingpostlaw43.StockBars'. -/
def stockBarsCard : Claim7 := { stood := { row := stockBarsRow, standIns := [], harness := (true, "618a4161427e0aa34369f3b13382a755c6b52a4669310861f1c4bee2e072fe4d"), looks := true }, kinds := [], alts := [], laidByText := true, laidKinds := [.data, .data, .data], laidTests := true, laidLooks := .later }
def StockBarsCardSaid : Prop := Claim7.holds Tryd.pinned (.plain (OpenSpec.ofChange stockBarsSpec)) stockBarsCard

/-- THE TIED CARD OF 'kingpostlaw43.StockTakes'. -/
def stockTakesCard : Claim7 := { stood := { row := stockTakesRow, standIns := [], harness := (true, "618a4161427e0aa34369f3b13382a755c6b52a4669310861f1c4bee2e072fe4d"), looks := true }, kinds := [], alts := [], laidByText := true, laidKinds := [.data, .data, .data], laidTests := true, laidLooks := .later }
def StockTakesCardSaid : Prop := Claim7.holds Tryd.pinned (.plain (OpenSpec.ofChange stockTakesSpec)) stockTakesCard

/-- THE TIED CARD OF 'kingpostlaw43.StockTexts'. -/
def stockTextsCard : Claim7 := { stood := { row := stockTextsRow, standIns := [], harness := (true, "618a4161427e0aa34369f3b13382a755c6b52a4669310861f1c4bee2e072fe4d"), looks := true }, kinds := [], alts := [], laidByText := true, laidKinds := [.data, .data, .data, .data, .sentinel, .sentinel, .pinned], laidTests := true, laidLooks := .later }
def StockTextsCardSaid : Prop := Claim7.holds Tryd.pinned (.plain (OpenSpec.ofChange stockTextsSpec)) stockTextsCard

/-- THE SECOND FORM's CARD OF 'kingpostlaw43.StockFree'. -/
def stockFreeUptoCard : Claim7 := { stood := { row := stockFreeUptoRow, standIns := [], harness := (true, "618a4161427e0aa34369f3b13382a755c6b52a4669310861f1c4bee2e072fe4d"), looks := true }, kinds := [], alts := [], laidByText := true, laidKinds := [.data, .data, .data], laidTests := true, laidLooks := .later }
def StockFreeUptoCardSaid : Prop := Claim7.holds Tryd.pinned (.plain (OpenSpec.upto stockFreeSpec)) stockFreeUptoCard

/-- THE SECOND FORM's CARD OF 'kingpostlaw43.StockLaid'. -/
def stockLaidUptoCard : Claim7 := { stood := { row := stockLaidUptoRow, standIns := [], harness := (true, "618a4161427e0aa34369f3b13382a755c6b52a4669310861f1c4bee2e072fe4d"), looks := true }, kinds := [], alts := [], laidByText := true, laidKinds := [.data, .data, .data], laidTests := true, laidLooks := .later }
def StockLaidUptoCardSaid : Prop := Claim7.holds Tryd.pinned (.plain (OpenSpec.upto stockLaidSpec)) stockLaidUptoCard

/-- THE SECOND FORM's CARD OF 'kingpostlaw43.StockEarly'. -/
def stockEarlyUptoCard : Claim7 := { stood := { row := stockEarlyUptoRow, standIns := [], harness := (true, "618a4161427e0aa34369f3b13382a755c6b52a4669310861f1c4bee2e072fe4d"), looks := true }, kinds := [], alts := [], laidByText := true, laidKinds := [.data, .data, .data], laidTests := true, laidLooks := .later }
def StockEarlyUptoCardSaid : Prop := Claim7.holds Tryd.pinned (.plain (OpenSpec.upto stockEarlySpec)) stockEarlyUptoCard

/-- THE SECOND FORM's CARD OF 'kingpostlaw43.StockCapacity'. -/
def stockCapacityUptoCard : Claim7 := { stood := { row := stockCapacityUptoRow, standIns := [], harness := (true, "618a4161427e0aa34369f3b13382a755c6b52a4669310861f1c4bee2e072fe4d"), looks := true }, kinds := [], alts := [], laidByText := true, laidKinds := [.data, .data, .data], laidTests := true, laidLooks := .later }
def StockCapacityUptoCardSaid : Prop := Claim7.holds Tryd.pinned (.plain (OpenSpec.upto stockCapacitySpec)) stockCapacityUptoCard

/-- THE SECOND FORM's CARD OF 'kingpostlaw43.StockFewer'. -/
def stockFewerUptoCard : Claim7 := { stood := { row := stockFewerUptoRow, standIns := [], harness := (true, "618a4161427e0aa34369f3b13382a755c6b52a4669310861f1c4bee2e072fe4d"), looks := true }, kinds := [], alts := [], laidByText := true, laidKinds := [.data, .data, .data], laidTests := true, laidLooks := .later }
def StockFewerUptoCardSaid : Prop := Claim7.holds Tryd.pinned (.plain (OpenSpec.upto stockFewerSpec)) stockFewerUptoCard

/-- THE SECOND FORM's CARD OF 'kingpostlaw43.StockBars'. -/
def stockBarsUptoCard : Claim7 := { stood := { row := stockBarsUptoRow, standIns := [], harness := (true, "618a4161427e0aa34369f3b13382a755c6b52a4669310861f1c4bee2e072fe4d"), looks := true }, kinds := [], alts := [], laidByText := true, laidKinds := [.data, .data, .data], laidTests := true, laidLooks := .later }
def StockBarsUptoCardSaid : Prop := Claim7.holds Tryd.pinned (.plain (OpenSpec.upto stockBarsSpec)) stockBarsUptoCard

/-- THE SECOND FORM's CARD OF 'kingpostlaw43.StockTakes'. -/
def stockTakesUptoCard : Claim7 := { stood := { row := stockTakesUptoRow, standIns := [], harness := (true, "618a4161427e0aa34369f3b13382a755c6b52a4669310861f1c4bee2e072fe4d"), looks := true }, kinds := [], alts := [], laidByText := true, laidKinds := [.data, .data, .data], laidTests := true, laidLooks := .later }
def StockTakesUptoCardSaid : Prop := Claim7.holds Tryd.pinned (.plain (OpenSpec.upto stockTakesSpec)) stockTakesUptoCard

/-- THE SECOND FORM's CARD OF 'kingpostlaw43.StockTexts'. -/
def stockTextsUptoCard : Claim7 := { stood := { row := stockTextsUptoRow, standIns := [], harness := (true, "618a4161427e0aa34369f3b13382a755c6b52a4669310861f1c4bee2e072fe4d"), looks := true }, kinds := [], alts := [], laidByText := true, laidKinds := [.data, .data, .data, .data, .sentinel, .sentinel, .pinned], laidTests := true, laidLooks := .later }
def StockTextsUptoCardSaid : Prop := Claim7.holds Tryd.pinned (.plain (OpenSpec.upto stockTextsSpec)) stockTextsUptoCard
end Rows
end Go.Proofs.YtfljmbdnnjjmoaaDoor
