/-
  strings.Builder's writes, laid over the table of another contract of the shelf.
-/
import Derived.Test.YthkioajalhglfaaGreatDoorShelfA
namespace Go.Proofs.YthkioajalhglfaaGreatDoor
open Go.Shelf Go.RowKit

theorem lays240 : Lays.n240 Tryz.prog Tryz.lays105_ren := {
  mixed := Tryz.lays105.mixed
  f240 := Tryz.lays105.f240
  f276 := Tryz.lays105.f276
  t0 := Tryz.lays105.t0
  a0 := Tryz.lays105.a0
  z0 := Tryz.lays105.z0
  v0 := Tryz.lays105.v0
  t4 := Tryz.lays105.t4
  a4 := Tryz.lays105.a4
  z4 := Tryz.lays105.z4
  v4 := Tryz.lays105.v4
  t9 := Tryz.lays105.t9
  a9 := Tryz.lays105.a9
  z9 := Tryz.lays105.z9
  v9 := Tryz.lays105.v9
  t20 := Tryz.lays105.t20
  a20 := Tryz.lays105.a20
  z20 := Tryz.lays105.z20
  v20 := Tryz.lays105.v20
  t70 := Tryz.lays105.t70
  a70 := Tryz.lays105.a70
  z70 := Tryz.lays105.z70
  v70 := Tryz.lays105.v70
  t72 := Tryz.lays105.t72
  a72 := Tryz.lays105.a72
  z72 := Tryz.lays105.z72
  v72 := Tryz.lays105.v72
  t164 := Tryz.lays105.t164
  a164 := Tryz.lays105.a164
  z164 := Tryz.lays105.z164
  v164 := Tryz.lays105.v164
}
theorem lays166 : Lays.n166 Tryz.prog Tryz.lays105_ren := {
  mixed := Tryz.lays105.mixed
  f166 := Tryz.lays105.f166
  f240 := Tryz.lays105.f240
  f276 := Tryz.lays105.f276
  t0 := Tryz.lays105.t0
  a0 := Tryz.lays105.a0
  z0 := Tryz.lays105.z0
  v0 := Tryz.lays105.v0
  t3 := Tryz.lays105.t3
  a3 := Tryz.lays105.a3
  z3 := Tryz.lays105.z3
  v3 := Tryz.lays105.v3
  t4 := Tryz.lays105.t4
  a4 := Tryz.lays105.a4
  z4 := Tryz.lays105.z4
  v4 := Tryz.lays105.v4
  t9 := Tryz.lays105.t9
  a9 := Tryz.lays105.a9
  z9 := Tryz.lays105.z9
  v9 := Tryz.lays105.v9
  t20 := Tryz.lays105.t20
  a20 := Tryz.lays105.a20
  z20 := Tryz.lays105.z20
  v20 := Tryz.lays105.v20
  t37 := Tryz.lays105.t37
  a37 := Tryz.lays105.a37
  z37 := Tryz.lays105.z37
  v37 := Tryz.lays105.v37
  t70 := Tryz.lays105.t70
  a70 := Tryz.lays105.a70
  z70 := Tryz.lays105.z70
  v70 := Tryz.lays105.v70
  t72 := Tryz.lays105.t72
  a72 := Tryz.lays105.a72
  z72 := Tryz.lays105.z72
  v72 := Tryz.lays105.v72
  t75 := Tryz.lays105.t75
  a75 := Tryz.lays105.a75
  z75 := Tryz.lays105.z75
  v75 := Tryz.lays105.v75
  t164 := Tryz.lays105.t164
  a164 := Tryz.lays105.a164
  z164 := Tryz.lays105.z164
  v164 := Tryz.lays105.v164
}
def ren167 : Go.Shelf.Ren := ⟨fun | 167 => 101 | n => Tryz.lays105_ren.f n, Tryz.lays105_ren.t, Tryz.lays105_ren.g⟩
theorem lays167 : Lays.n167 Tryz.prog ren167 := {
  mixed := Tryz.lays105.mixed
  f167 := Tryz.func101.trans (congrArg some (by kernel_rfl))
  f240 := Tryz.lays105.f240
  f276 := Tryz.lays105.f276
  t0 := Tryz.lays105.t0
  a0 := Tryz.lays105.a0
  z0 := Tryz.lays105.z0
  v0 := Tryz.lays105.v0
  t4 := Tryz.lays105.t4
  a4 := Tryz.lays105.a4
  z4 := Tryz.lays105.z4
  v4 := Tryz.lays105.v4
  t5 := Tryz.lays105.t5
  a5 := Tryz.lays105.a5
  z5 := Tryz.lays105.z5
  v5 := Tryz.lays105.v5
  t9 := Tryz.lays105.t9
  a9 := Tryz.lays105.a9
  z9 := Tryz.lays105.z9
  v9 := Tryz.lays105.v9
  t20 := Tryz.lays105.t20
  a20 := Tryz.lays105.a20
  z20 := Tryz.lays105.z20
  v20 := Tryz.lays105.v20
  t37 := Tryz.lays105.t37
  a37 := Tryz.lays105.a37
  z37 := Tryz.lays105.z37
  v37 := Tryz.lays105.v37
  t70 := Tryz.lays105.t70
  a70 := Tryz.lays105.a70
  z70 := Tryz.lays105.z70
  v70 := Tryz.lays105.v70
  t72 := Tryz.lays105.t72
  a72 := Tryz.lays105.a72
  z72 := Tryz.lays105.z72
  v72 := Tryz.lays105.v72
  t75 := Tryz.lays105.t75
  a75 := Tryz.lays105.a75
  z75 := Tryz.lays105.z75
  v75 := Tryz.lays105.v75
  t164 := Tryz.lays105.t164
  a164 := Tryz.lays105.a164
  z164 := Tryz.lays105.z164
  v164 := Tryz.lays105.v164
}
set_option maxRecDepth 100000 in
theorem extra167 : Builder.Extra Tryz.prog ren167 := {
  sizeBuilder := Tryz.Builder_Extra_105.sizeBuilder
  liesBuilder := Tryz.Builder_Extra_105.liesBuilder
  t5 := Tryz.Builder_Extra_105.t5
  a5 := Tryz.Builder_Extra_105.a5
  z5 := Tryz.Builder_Extra_105.z5
  v5 := Tryz.Builder_Extra_105.v5
  infoByte := Tryz.Builder_Extra_105.infoByte
  cellsByte := Tryz.Builder_Extra_105.cellsByte
  sizeByte := Tryz.Builder_Extra_105.sizeByte
  neB5 := Tryz.Builder_Extra_105.neB5
}
theorem builder_writeByte (B b : Nat) (bs : List Value) (c : Int) (w : World) (h : Lib.IsBuilder 95 5 B b bs w) (hlen : bs.length + 1 ≤ 140737488355328) (hBw : B ≤ w.heap.size) :
    Calls Tryz.prog 101 #[.pointer (some ⟨b, 0, none⟩), .int .u8 c] w fun e w' => e = .returned .nilIface ∧ (Lib.BuilderAt 95 5 B b (.pointer (some ⟨b, 0, none⟩)) (bs ++ [.int .u8 c]) w' ∧ Below B w w') := Any.Builder_WriteByte lays167 extra167 B b bs c w h hlen hBw
theorem builder_writeString (B b : Nat) (bs : List Value) (s : ByteArray) (w : World) (h : Lib.IsBuilder 95 5 B b bs w) (hlen : bs.length + s.size ≤ 140737488355328) (hBw : B ≤ w.heap.size) :
    Calls Tryz.prog 84 #[.pointer (some ⟨b, 0, none⟩), .string s] w fun e w' => e = .returned (.tuple #[.int .i64 s.size, .nilIface]) ∧ (Lib.BuilderAt 95 5 B b (.pointer (some ⟨b, 0, none⟩)) (bs ++ Lib.strCells s) w' ∧ Below B w w') := Any.Builder_WriteString lays166 Tryz.Builder_Extra_105 B b bs s w h hlen hBw
end Go.Proofs.YthkioajalhglfaaGreatDoor
