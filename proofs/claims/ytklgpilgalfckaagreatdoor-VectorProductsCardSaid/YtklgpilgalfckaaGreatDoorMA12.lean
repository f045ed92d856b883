/-
 Texts laid together.
-/
import Derived.Test.YtklgpilgalfckaaGreatDoorMA5
import Derived.Test.YtklgpilgalfckaaGreatDoorMA9
import Derived.Test.YtklgpilgalfckaaGreatDoorMA10
import Derived.Test.YtklgpilgalfckaaGreatDoorMA11
import Derived.JoinedCond
import Derived.Lay
import Derived.Lib.LaidU8
import Derived.MakeChecks
import Derived.Shelf.Vars
import Derived.Test.YtklgpilgalfckaaGreatDoorRows
set_option maxRecDepth 100000
namespace Go.Proofs.YtklgpilgalfckaaGreatDoor
open Go.ChangeShapes Go.WideShapes Go.RowKit Go.KP Go.KI

theorem own : ownKnob Tryz.prog.godebug = none := by kernel_rfl
theorem laidOut : laidOutB Tryz.prog = true := by kernel_rfl
noncomputable abbrev numStart (os : Os) : World := World.laidAll Tryz.prog os Rows.vectorProductsRow.laid
theorem ycw (os : Os) (args : Array Value) : laidMetH Tryz.prog Rows.vectorProductsRow.laid ((numStart os).forCall (fun _ _ => 0) ⟨#[], args, []⟩).memory := by
 rw [Go.MakeChecks.laidMetH_plain _ _ _ (by kernel_rfl)]
 exact laidMet_laidAll args (by kernel_rfl) (by kernel_rfl)
theorem gPow : Tryz.prog.globalNamed "internal/strconv.uint64pow10" = some 4 := by kernel_rfl
theorem yeI {W : World} (hL : laidMetH Tryz.prog Rows.vectorProductsRow.laid W) (hsh : W.ShapedOpen Tryz.prog) : PQ W.heap.size W := by
 have hlen : ∃ m, W.cell? ⟨3, 0, none⟩ = some (.int .i64 m) :=
  Go.Proofs.cell_of_shapedOpen_int (zero := #[.int .i64 0]) (t := 3) hsh (of_decide_eq_true (by kernel_rfl)) (by kernel_rfl) rfl (by kernel_rfl) (by kernel_rfl) Tryz.underlying3
 refine ⟨Lib.tabBelow_of_tabIs (ydb (t := 297) (e := 256) (n := 20) gPow (by kernel_rfl) (by kernel_rfl) (by kernel_rfl) (by kernel_rfl) (by kernel_rfl) (by kernel_rfl) hL), ?_, hlen⟩
 obtain ⟨m, hm⟩ := hlen
 unfold World.cell? at hm
 cases hh : W.heap[3]? with
 |none => simp [hh] at hm
 |some o => exact (Array.getElem?_eq_some_iff.1 hh).1
theorem gPrimes : Tryz.prog.globalNamed "kingpost/root.primes" = some 0 := by kernel_rfl
theorem primesRow : ((primes25.map fun p => Lib.decDigits p).map fun l => Value.string ⟨l.toArray⟩).toArray = primesA := by
 rw [List.map_map]
 rfl
theorem yeT {W : World} (hL : laidMetH Tryz.prog Rows.vectorProductsRow.laid W) (hsh : W.ShapedOpen Tryz.prog) : PR W.heap.size W := by
 obtain ⟨t, fr, hb⟩ := ybA (t := 192) (e := 9) (n := 25) (ls := primes25.map fun p => Lib.decDigits p) gPrimes (by kernel_rfl) (by kernel_rfl) (by kernel_rfl) (by kernel_rfl) (by kernel_rfl) (by kernel_rfl) hL
 rw [primesRow] at hb
 exact ⟨yeI hL hsh, (Array.getElem?_eq_some_iff.1 hb).1, t, fr, hb⟩
theorem zI {a b : Bool} (ha : a = true) (hb : b = true) : (a && b) = true := by rw [ha, hb]; rfl
theorem yax : mapsRowed Tryz.pinned.checked.prog = true := by kernel_rfl
theorem yb7 : laidOutB Tryz.pinned.checked.prog = true := by kernel_rfl
theorem ye7 : (Tryz.pinned.checked.prog.stops == []) = true := by kernel_rfl
theorem yav : (Tryz.pinned.checked.prog.stopKnobs == []) = true := by kernel_rfl
theorem yaz : (Rows.vectorProductsRow.plainKeys == Tryz.pinned.checked.prog.plainKeys) = true := by kernel_rfl
theorem wN : Tryz.pinned.checked.prog.stopsHeard = true := by kernel_rfl
theorem ybF : Tryz.pinned.checked.prog.mayEnter = true := by kernel_rfl
theorem ydC : (Rows.vectorProductsRow.lifted == Tryz.pinned.checked.prog.liftsFinal) = true := by kernel_rfl
theorem yfg : (Tryz.pinned.checked.prog.make == some Rows.vectorProductsRow.make) = true := by kernel_rfl
end Go.Proofs.YtklgpilgalfckaaGreatDoor
