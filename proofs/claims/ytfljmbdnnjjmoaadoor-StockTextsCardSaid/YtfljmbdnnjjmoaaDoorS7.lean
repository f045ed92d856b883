/-
  strings.Builder's writes, laid over the table of strings.Join.
-/
import Derived.Test.YtfljmbdnnjjmoaaDoorShelfA
namespace Go.Proofs.YtfljmbdnnjjmoaaDoor
open Go.Shelf Go.RowKit

theorem lays240 : Lays.n240 Tryd.prog Tryd.lays156_ren := {
  mixed := Tryd.lays156.mixed
  f240 := Tryd.lays156.f240
  f276 := Tryd.lays156.f276
  t0 := Tryd.lays156.t0
  a0 := Tryd.lays156.a0
  z0 := Tryd.lays156.z0
  v0 := Tryd.lays156.v0
  t4 := Tryd.lays156.t4
  a4 := Tryd.lays156.a4
  z4 := Tryd.lays156.z4
  v4 := Tryd.lays156.v4
  t9 := Tryd.lays156.t9
  a9 := Tryd.lays156.a9
  z9 := Tryd.lays156.z9
  v9 := Tryd.lays156.v9
  t20 := Tryd.lays156.t20
  a20 := Tryd.lays156.a20
  z20 := Tryd.lays156.z20
  v20 := Tryd.lays156.v20
  t70 := Tryd.lays156.t70
  a70 := Tryd.lays156.a70
  z70 := Tryd.lays156.z70
  v70 := Tryd.lays156.v70
  t72 := Tryd.lays156.t72
  a72 := Tryd.lays156.a72
  z72 := Tryd.lays156.z72
  v72 := Tryd.lays156.v72
  t164 := Tryd.lays156.t164
  a164 := Tryd.lays156.a164
  z164 := Tryd.lays156.z164
  v164 := Tryd.lays156.v164
}
theorem lays166 : Lays.n166 Tryd.prog Tryd.lays156_ren := {
  mixed := Tryd.lays156.mixed
  f166 := Tryd.lays156.f166
  f240 := Tryd.lays156.f240
  f276 := Tryd.lays156.f276
  t0 := Tryd.lays156.t0
  a0 := Tryd.lays156.a0
  z0 := Tryd.lays156.z0
  v0 := Tryd.lays156.v0
  t3 := Tryd.lays156.t3
  a3 := Tryd.lays156.a3
  z3 := Tryd.lays156.z3
  v3 := Tryd.lays156.v3
  t4 := Tryd.lays156.t4
  a4 := Tryd.lays156.a4
  z4 := Tryd.lays156.z4
  v4 := Tryd.lays156.v4
  t9 := Tryd.lays156.t9
  a9 := Tryd.lays156.a9
  z9 := Tryd.lays156.z9
  v9 := Tryd.lays156.v9
  t20 := Tryd.lays156.t20
  a20 := Tryd.lays156.a20
  z20 := Tryd.lays156.z20
  v20 := Tryd.lays156.v20
  t37 := Tryd.lays156.t37
  a37 := Tryd.lays156.a37
  z37 := Tryd.lays156.z37
  v37 := Tryd.lays156.v37
  t70 := Tryd.lays156.t70
  a70 := Tryd.lays156.a70
  z70 := Tryd.lays156.z70
  v70 := Tryd.lays156.v70
  t72 := Tryd.lays156.t72
  a72 := Tryd.lays156.a72
  z72 := Tryd.lays156.z72
  v72 := Tryd.lays156.v72
  t75 := Tryd.lays156.t75
  a75 := Tryd.lays156.a75
  z75 := Tryd.lays156.z75
  v75 := Tryd.lays156.v75
  t164 := Tryd.lays156.t164
  a164 := Tryd.lays156.a164
  z164 := Tryd.lays156.z164
  v164 := Tryd.lays156.v164
}
def ren167 : Go.Shelf.Ren := ⟨fun | 167 => 61 | n => Tryd.lays156_ren.f n, Tryd.lays156_ren.t, Tryd.lays156_ren.g⟩
theorem lays167 : Lays.n167 Tryd.prog ren167 := {
  mixed := Tryd.lays156.mixed
  f167 := Tryd.func61.trans (congrArg some (by kernel_rfl))
  f240 := Tryd.lays156.f240
  f276 := Tryd.lays156.f276
  t0 := Tryd.lays156.t0
  a0 := Tryd.lays156.a0
  z0 := Tryd.lays156.z0
  v0 := Tryd.lays156.v0
  t4 := Tryd.lays156.t4
  a4 := Tryd.lays156.a4
  z4 := Tryd.lays156.z4
  v4 := Tryd.lays156.v4
  t5 := Tryd.Builder_Extra_156.t5
  a5 := Tryd.Builder_Extra_156.a5
  z5 := Tryd.Builder_Extra_156.z5
  v5 := Tryd.Builder_Extra_156.v5
  t9 := Tryd.lays156.t9
  a9 := Tryd.lays156.a9
  z9 := Tryd.lays156.z9
  v9 := Tryd.lays156.v9
  t20 := Tryd.lays156.t20
  a20 := Tryd.lays156.a20
  z20 := Tryd.lays156.z20
  v20 := Tryd.lays156.v20
  t37 := Tryd.lays156.t37
  a37 := Tryd.lays156.a37
  z37 := Tryd.lays156.z37
  v37 := Tryd.lays156.v37
  t70 := Tryd.lays156.t70
  a70 := Tryd.lays156.a70
  z70 := Tryd.lays156.z70
  v70 := Tryd.lays156.v70
  t72 := Tryd.lays156.t72
  a72 := Tryd.lays156.a72
  z72 := Tryd.lays156.z72
  v72 := Tryd.lays156.v72
  t75 := Tryd.lays156.t75
  a75 := Tryd.lays156.a75
  z75 := Tryd.lays156.z75
  v75 := Tryd.lays156.v75
  t164 := Tryd.lays156.t164
  a164 := Tryd.lays156.a164
  z164 := Tryd.lays156.z164
  v164 := Tryd.lays156.v164
}
set_option maxRecDepth 100000 in
theorem extra167 : Builder.Extra Tryd.prog ren167 := {
  sizeBuilder := Tryd.Builder_Extra_156.sizeBuilder
  liesBuilder := Tryd.Builder_Extra_156.liesBuilder
  t5 := Tryd.Builder_Extra_156.t5
  a5 := Tryd.Builder_Extra_156.a5
  z5 := Tryd.Builder_Extra_156.z5
  v5 := Tryd.Builder_Extra_156.v5
  infoByte := Tryd.Builder_Extra_156.infoByte
  cellsByte := Tryd.Builder_Extra_156.cellsByte
  sizeByte := Tryd.Builder_Extra_156.sizeByte
  neB5 := Tryd.Builder_Extra_156.neB5
}
theorem builder_writeByte (B b : Nat) (bs : List Value) (c : Int) (w : World) (h : Lib.IsBuilder 80 5 B b bs w) (hlen : bs.length + 1 ≤ 140737488355328) (hBw : B ≤ w.heap.size) :
    Calls Tryd.prog 61 #[.pointer (some ⟨b, 0, none⟩), .int .u8 c] w fun e w' => e = .returned .nilIface ∧ (Lib.BuilderAt 80 5 B b (.pointer (some ⟨b, 0, none⟩)) (bs ++ [.int .u8 c]) w' ∧ Below B w w') := Any.Builder_WriteByte lays167 extra167 B b bs c w h hlen hBw
theorem builder_writeString (B b : Nat) (bs : List Value) (s : ByteArray) (w : World) (h : Lib.IsBuilder 80 5 B b bs w) (hlen : bs.length + s.size ≤ 140737488355328) (hBw : B ≤ w.heap.size) :
    Calls Tryd.prog 59 #[.pointer (some ⟨b, 0, none⟩), .string s] w fun e w' => e = .returned (.tuple #[.int .i64 s.size, .nilIface]) ∧ (Lib.BuilderAt 80 5 B b (.pointer (some ⟨b, 0, none⟩)) (bs ++ Lib.strCells s) w' ∧ Below B w w') := Any.Builder_WriteString lays166 Tryd.Builder_Extra_156 B b bs s w h hlen hBw
end Go.Proofs.YtfljmbdnnjjmoaaDoor
