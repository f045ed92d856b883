/-
  Texts of the integers, laid together: LE.
-/
import Derived.Test.YthkioajalhglfaaGreatDoorRows
import Derived.Lay
import Derived.MakeChecks
import Derived.Lib.LaidU8
import Derived.Shelf.Vars
import Derived.Test.YthkioajalhglfaaGreatDoorZ2
import Derived.Test.YthkioajalhglfaaGreatDoorZ3
namespace Go.Proofs.YthkioajalhglfaaGreatDoor
open Go.ChangeShapes Go.WideShapes Go.RowKit Go.KP

theorem own : ownKnob Tryz.prog.godebug = none := by kernel_rfl
theorem laidOut : laidOutB Tryz.prog = true := by kernel_rfl
noncomputable abbrev numStart (os : Os) : World := World.laidAll Tryz.prog os Rows.integerOrderRow.laid
set_option maxRecDepth 100000 in
theorem numStart_met (os : Os) (args : Array Value) : laidMetH Tryz.prog Rows.integerOrderRow.laid ((numStart os).forCall (fun _ _ => 0) ⟨#[], args, []⟩).memory := by
  rw [Go.MakeChecks.laidMetH_plain _ _ _ (by kernel_rfl)]
  exact laidMet_laidAll args (by kernel_rfl) (by kernel_rfl)
theorem gPow : Tryz.prog.globalNamed "internal/strconv.uint64pow10" = some 0 := by kernel_rfl
theorem pow_of_laid {W : World} (hL : laidMetH Tryz.prog Rows.integerOrderRow.laid W) : P10 W.heap.size W :=
  Lib.tabBelow_of_tabIs (tab_of_laid (t := 139) (e := 114) (n := 20) gPow (by kernel_rfl) (by kernel_rfl) (by kernel_rfl) (by kernel_rfl) (by kernel_rfl) (by kernel_rfl) hL)
end Go.Proofs.YthkioajalhglfaaGreatDoor
