/-
  What the cards of this seat share: the listed tables, a start that lays them.
-/
import Derived.Test.YtfljmbdnnjjmoaaDoorRows
import Derived.Test.YtfljmbdnnjjmoaaDoorPost
import Derived.Lib.AppendIntMem
namespace Go.Proofs.YtfljmbdnnjjmoaaDoor
open Go.ChangeShapes Go.WideShapes Go.RowKit Go.KP

theorem own : ownKnob Tryd.prog.godebug = none := by kernel_rfl
theorem laidOut : laidOutB Tryd.prog = true := by kernel_rfl
def tabs3 : List (String × DataW Unit) := [("math/bits.deBruijn32tab", Rows.laid_math_bits_deBruijn32tab), ("math/bits.deBruijn64tab", Rows.laid_math_bits_deBruijn64tab), ("internal/strconv.uint64pow10", Rows.laid_internal_strconv_uint64pow10)]
noncomputable abbrev doorStart (os : Os) : World := World.doorLaid Tryd.prog 72 os
theorem door_met (os : Os) (args : Array Value) : laidMetH Tryd.prog tabs3 ((doorStart os).forCall (fun _ _ => 0) ⟨#[], args, []⟩).memory :=
  laidMetH_of_parts3 (fuel := 8) (laidMet_of_run' 8 (by kernel_rfl) (by kernel_rfl)) (by kernel_rfl) (by kernel_rfl)
theorem gPow : Tryd.prog.globalNamed "internal/strconv.uint64pow10" = some 1 := by kernel_rfl
theorem pow_of_laid {W : World} (h : laidMetH Tryd.prog tabs3 W) : Lib.TabIs Tryd.prog W "internal/strconv.uint64pow10" .u64 Lib.pow10Tab :=
  tab_of_laid (t := 123) (e := 111) (n := 20) gPow (by kernel_rfl) (by kernel_rfl) (by kernel_rfl) (by kernel_rfl) (by kernel_rfl) (by kernel_rfl) h
end Go.Proofs.YtfljmbdnnjjmoaaDoor
