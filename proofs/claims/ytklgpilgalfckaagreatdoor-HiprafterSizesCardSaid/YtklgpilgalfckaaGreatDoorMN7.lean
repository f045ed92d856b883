/-
  Texts laid together.
-/
import Derived.Test.YtklgpilgalfckaaGreatDoorMN5
import Derived.Test.YtklgpilgalfckaaGreatDoorMN6
import Derived.JoinedCond
import Derived.Lay
import Derived.Lib.LaidU8
import Derived.MakeChecks
import Derived.Shelf.Vars
import Derived.Test.YtklgpilgalfckaaGreatDoorRows
set_option maxRecDepth 100000
namespace Go.Proofs.YtklgpilgalfckaaGreatDoor
open Go.ChangeShapes Go.WideShapes Go.RowKit Go.KP

theorem own : ownKnob Tryz.prog.godebug = none := by kernel_rfl
theorem laidOut : laidOutB Tryz.prog = true := by kernel_rfl
noncomputable abbrev numStart (os : Os) : World := World.laidAll Tryz.prog os Rows.hiprafterLinesRow.laid
theorem numStart_met (os : Os) (args : Array Value) : laidMetH Tryz.prog Rows.hiprafterLinesRow.laid ((numStart os).forCall (fun _ _ => 0) ⟨#[], args, []⟩).memory := by
  rw [Go.MakeChecks.laidMetH_plain _ _ _ (by kernel_rfl)]
  exact laidMet_laidAll args (by kernel_rfl) (by kernel_rfl)
theorem gPow : Tryz.prog.globalNamed "internal/strconv.uint64pow10" = some 4 := by kernel_rfl
theorem pq_of_laid {W : World} (hL : laidMetH Tryz.prog Rows.hiprafterLinesRow.laid W) (hsh : W.ShapedOpen Tryz.prog) : PQ W.heap.size W := by
  have hlen : ∃ m, W.cell? ⟨3, 0, none⟩ = some (.int .i64 m) :=
    Go.Proofs.cell_of_shapedOpen_int (zero := #[.int .i64 0]) (t := 3) hsh (of_decide_eq_true (by kernel_rfl)) (by kernel_rfl) rfl (by kernel_rfl) (by kernel_rfl) Tryz.underlying3
  refine ⟨Lib.tabBelow_of_tabIs (tab_of_laid (t := 297) (e := 256) (n := 20) gPow (by kernel_rfl) (by kernel_rfl) (by kernel_rfl) (by kernel_rfl) (by kernel_rfl) (by kernel_rfl) hL), ?_, hlen⟩
  obtain ⟨m, hm⟩ := hlen
  unfold World.cell? at hm
  cases hh : W.heap[3]? with
  | none => simp [hh] at hm
  | some o => exact (Array.getElem?_eq_some_iff.1 hh).1
theorem and_t {a b : Bool} (ha : a = true) (hb : b = true) : (a && b) = true := by rw [ha, hb]; rfl
theorem prog_mapsRowed : mapsRowed Tryz.pinned.checked.prog = true := by kernel_rfl
theorem prog_laidOut : laidOutB Tryz.pinned.checked.prog = true := by kernel_rfl
theorem prog_stops : (Tryz.pinned.checked.prog.stops == []) = true := by kernel_rfl
theorem prog_stopKnobs : (Tryz.pinned.checked.prog.stopKnobs == []) = true := by kernel_rfl
theorem prog_plainKeys : (Rows.hiprafterLinesRow.plainKeys == Tryz.pinned.checked.prog.plainKeys) = true := by kernel_rfl
theorem prog_stopsHeard : Tryz.pinned.checked.prog.stopsHeard = true := by kernel_rfl
theorem prog_mayEnter : Tryz.pinned.checked.prog.mayEnter = true := by kernel_rfl
theorem prog_lifted : (Rows.hiprafterLinesRow.lifted == Tryz.pinned.checked.prog.liftsFinal) = true := by kernel_rfl
theorem prog_make : (Tryz.pinned.checked.prog.make == some Rows.hiprafterLinesRow.make) = true := by kernel_rfl
end Go.Proofs.YtklgpilgalfckaaGreatDoor
