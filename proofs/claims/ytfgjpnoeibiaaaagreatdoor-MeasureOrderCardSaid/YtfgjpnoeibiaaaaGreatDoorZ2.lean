/-
  Texts of the integers, laid together: ShelfA, ShelfB, Gen.
-/
import Derived.Shelf.Strings.Builder1
import Derived.Shelf.Strings.Builder2
import Derived.Shelf.Strings.OnBuilder
import Derived.Shelf.Strings.Trim
import Derived.Shelf.Small.Utf8
import Derived.Shelf.Small.Strs
import Derived.Shelf.Small.Wraps
import Derived.Shelf.Strings.BuilderF
import Derived.Shelf.Strings.BuilderK
import Derived.Shelf.Strings.Builder2Cap
import Derived.Shelf.Strconv.Atoi
import Derived.Shelf.Strconv.Itoa0
import Derived.Shelf.Strconv.Itoa1
import Derived.Shelf.LaysM
import Derived.Shelf.Strconv.Itoa2
import Derived.Shelf.Strconv.Itoa3
import Derived.Shelf.Strconv.AtoiErrFast
import Derived.Shelf.Strconv.ParseIntEmpty
import Derived.Shelf.Strconv.AtoiFail
import Derived.Shelf.Strconv.Clone
import Derived.Shelf.Strconv.SyntaxError
import Derived.Shelf.LaysC
import Derived.Shelf.Strconv.ToError
import Derived.Shelf.Strconv.Lower
import Derived.Shelf.Strconv.ParseUint10
import Derived.Shelf.Strconv.ParseUint10Empty
import Derived.Shelf.Strconv.ParseUint10Any
import Derived.Shelf.Strconv.ParseInt10
import Derived.Shelf.Strconv.AtoiLong
import Derived.Shelf.Strconv.AtoiInnerAll
import Derived.Shelf.Strconv.RangeError
import Derived.Shelf.Strconv.ToErrorRange
import Derived.Shelf.Strconv.AtoiAll
import Derived.Shelf.Strconv.ErrVarAll
import Derived.Shelf.Strconv.ParseUintEmpty
import Derived.Shelf.Strconv.ParseUint10b64
import Derived.Shelf.Strconv.ParseUint10b32
import Derived.Shelf.Strconv.ParseUint10b16
import Derived.Shelf.Strconv.ParseUint10b8
import Derived.Shelf.Strings.Search1
import Derived.Shelf.Strings.Search2
import Derived.Shelf.Strings.Search3
import Derived.Shelf.Strings.Cut
import Derived.Shelf.Strings.Shaped
import Derived.Shelf.Strings.Prefix
import Derived.Shelf.Unicode.Latin
import Derived.Shelf.Unicode.Decode
import Derived.Shelf.Strings.Runes
import Derived.Shelf.Strings.AsciiSet
import Derived.Shelf.Bits.Mul64
import Derived.Shelf.Strings.Repeat
import Derived.Shelf.Unicode.DecodeSlow
import Derived.Shelf.Unicode.DecodeAny
import Derived.Shelf.Unicode.DecodeLast
import Derived.Shelf.Unicode.CaseLookup
import Derived.Shelf.Unicode.CaseConvert
import Derived.Shelf.Unicode.CaseTo
import Derived.Shelf.Unicode.CaseLaid
import Derived.Ground.Names2Prog
import Derived.Shelf.Slices.SearchI
import Derived.Test.YtfgjpnoeibiaaaaGreatDoorProg
import Derived.WalkKit
import Derived.WalkSpells
import Derived.Deep.Draws
namespace Go.Proofs
open Go.Shelf
def Tryz.lays170_ren : Go.Shelf.Ren := ⟨fun | 170 => 100 | n => n, fun | 70 => 119 | 3 => 3 | 0 => 0 | 72 => 122 | 37 => 120 | 5 => 5 | n => n, fun | n => n⟩
theorem Tryz.lays170 : Go.Proofs.Lays.n170 Tryz.prog Tryz.lays170_ren := {
  mixed := by kernel_rfl
  f170 := Tryz.func100.trans (congrArg some (by kernel_rfl))
  t0 := Tryz.underlying0
  a0 := Tryz.isAgg0
  z0 := Tryz.sizeOf0
  v0 := Tryz.zeroValue0
  t3 := Tryz.underlying3
  a3 := Tryz.isAgg3
  z3 := Tryz.sizeOf3
  v3 := Tryz.zeroValue3
  t37 := Tryz.underlying120
  a37 := Tryz.isAgg120
  z37 := Tryz.sizeOf120
  v37 := Tryz.zeroValue120
  t70 := Tryz.underlying119
  a70 := Tryz.isAgg119
  z70 := Tryz.sizeOf119
  v70 := Tryz.zeroValue119
  t72 := Tryz.underlying122
  a72 := Tryz.isAgg122
  z72 := Tryz.sizeOf122
  v72 := Tryz.zeroValue122 }
open Go.RowKit in
/-- (*strings.Builder).Len: "Len returns the number of accumulated bytes; b.Len() == len(b.String()).": the world is as it was. (LAID: no walk: one application.) -/
theorem Tryz.Builder_Len (B b : Nat) (bs : List Value) (w : World) (h : Lib.IsBuilder 122 5 B b bs w) :
    Calls Tryz.prog 100 #[.pointer (some ⟨b, 0, none⟩)] w fun e w' => e = .returned (.int .i64 bs.length) ∧ w' = w := Any.Builder_Len Tryz.lays170 B b bs w h
def Tryz.lays169_ren : Go.Shelf.Ren := ⟨fun | 169 => 101 | n => n, fun | 70 => 119 | 9 => 9 | 0 => 0 | 72 => 122 | 37 => 120 | 127 => 186 | 3 => 3 | 5 => 5 | n => n, fun | n => n⟩
theorem Tryz.lays169 : Go.Proofs.Lays.n169 Tryz.prog Tryz.lays169_ren := {
  mixed := by kernel_rfl
  f169 := Tryz.func101.trans (congrArg some (by kernel_rfl))
  t0 := Tryz.underlying0
  a0 := Tryz.isAgg0
  z0 := Tryz.sizeOf0
  v0 := Tryz.zeroValue0
  t3 := Tryz.underlying3
  a3 := Tryz.isAgg3
  z3 := Tryz.sizeOf3
  v3 := Tryz.zeroValue3
  t9 := Tryz.underlying9
  a9 := Tryz.isAgg9
  z9 := Tryz.sizeOf9
  v9 := Tryz.zeroValue9
  t37 := Tryz.underlying120
  a37 := Tryz.isAgg120
  z37 := Tryz.sizeOf120
  v37 := Tryz.zeroValue120
  t70 := Tryz.underlying119
  a70 := Tryz.isAgg119
  z70 := Tryz.sizeOf119
  v70 := Tryz.zeroValue119
  t72 := Tryz.underlying122
  a72 := Tryz.isAgg122
  z72 := Tryz.sizeOf122
  v72 := Tryz.zeroValue122
  t127 := Tryz.underlying186
  a127 := Tryz.isAgg186
  z127 := Tryz.sizeOf186
  v127 := Tryz.zeroValue186 }
theorem Tryz.Builder_Extra_169 : Builder.Extra Tryz.prog Tryz.lays169_ren := {
  sizeBuilder := by kernel_rfl
  liesBuilder := by kernel_rfl
  t5 := Tryz.underlying5
  a5 := Tryz.isAgg5
  z5 := Tryz.sizeOf5
  v5 := Tryz.zeroValue5
  infoByte := by kernel_rfl
  cellsByte := by kernel_rfl
  sizeByte := by kernel_rfl
  neB5 := by decide }
open Go.RowKit in
/-- (*strings.Builder).String: "String returns the accumulated string.": WHATEVER THE BUILDER HOLDS. (LAID: no walk: one application.) -/
theorem Tryz.Builder_String_any (B b : Nat) (l : List UInt8) (w : World) (h : Lib.IsBuilder 122 5 B b (Lib.byteCells l) w) (hBw : B ≤ w.heap.size) :
    Calls Tryz.prog 101 #[.pointer (some ⟨b, 0, none⟩)] w fun e w' => e = .returned (.string ⟨l.toArray⟩) ∧ Below B w w' := Any.Builder_String_any Tryz.lays169 Tryz.Builder_Extra_169 B b l w h hBw
def Tryz.lays159_ren : Go.Shelf.Ren := ⟨fun | 159 => 64 | 165 => 98 | 166 => 99 | 167 => 137 | 169 => 101 | 230 => 138 | 204 => 139 | 240 => 180 | 241 => 181 | 197 => 204 | 118 => 207 | 168 => 208 | 270 => 209 | 262 => 210 | 276 => 230 | 277 => 231 | 260 => 252 | 242 => 255 | 313 => 256 | 278 => 283 | 274 => 284 | 275 => 285 | n => n, fun | 9 => 9 | 4 => 4 | 3 => 3 | 5 => 5 | 72 => 122 | 0 => 0 | 76 => 126 | 75 => 125 | 107 => 155 | 70 => 119 | 20 => 20 | 37 => 120 | 127 => 186 | 21 => 21 | 105 => 200 | 164 => 217 | 162 => 239 | 203 => 237 | 119 => 256 | 46 => 116 | 139 => 259 | 138 => 258 | 51 => 180 | 160 => 260 | 208 => 275 | 206 => 273 | 80 => 129 | n => n, fun | 13 => 1 | 3 => 2 | 4 => 3 | n => n⟩
theorem Tryz.lays159 : Go.Proofs.Lays.n159 Tryz.prog Tryz.lays159_ren := {
  mixed := by kernel_rfl
  f118 := Tryz.func207.trans (congrArg some (by kernel_rfl))
  f159 := Tryz.func64.trans (congrArg some (by kernel_rfl))
  f165 := Tryz.func98.trans (congrArg some (by kernel_rfl))
  f166 := Tryz.func99.trans (congrArg some (by kernel_rfl))
  f167 := Tryz.func137.trans (congrArg some (by kernel_rfl))
  f168 := Tryz.func208.trans (congrArg some (by kernel_rfl))
  f169 := Tryz.func101.trans (congrArg some (by kernel_rfl))
  f197 := Tryz.func204.trans (congrArg some (by kernel_rfl))
  f204 := Tryz.func139.trans (congrArg some (by kernel_rfl))
  f230 := Tryz.func138.trans (congrArg some (by kernel_rfl))
  f240 := Tryz.func180.trans (congrArg some (by kernel_rfl))
  f241 := Tryz.func181.trans (congrArg some (by kernel_rfl))
  f242 := Tryz.func255.trans (congrArg some (by kernel_rfl))
  f260 := Tryz.func252.trans (congrArg some (by kernel_rfl))
  f262 := Tryz.func210.trans (congrArg some (by kernel_rfl))
  f270 := Tryz.func209.trans (congrArg some (by kernel_rfl))
  f274 := Tryz.func284.trans (congrArg some (by kernel_rfl))
  f275 := Tryz.func285.trans (congrArg some (by kernel_rfl))
  f276 := Tryz.func230.trans (congrArg some (by kernel_rfl))
  f277 := Tryz.func231.trans (congrArg some (by kernel_rfl))
  f278 := Tryz.func283.trans (congrArg some (by kernel_rfl))
  f313 := Tryz.func256.trans (congrArg some (by kernel_rfl))
  t0 := Tryz.underlying0
  a0 := Tryz.isAgg0
  z0 := Tryz.sizeOf0
  v0 := Tryz.zeroValue0
  t3 := Tryz.underlying3
  a3 := Tryz.isAgg3
  z3 := Tryz.sizeOf3
  v3 := Tryz.zeroValue3
  t4 := Tryz.underlying4
  a4 := Tryz.isAgg4
  z4 := Tryz.sizeOf4
  v4 := Tryz.zeroValue4
  t5 := Tryz.underlying5
  a5 := Tryz.isAgg5
  z5 := Tryz.sizeOf5
  v5 := Tryz.zeroValue5
  t9 := Tryz.underlying9
  a9 := Tryz.isAgg9
  z9 := Tryz.sizeOf9
  v9 := Tryz.zeroValue9
  t20 := Tryz.underlying20
  a20 := Tryz.isAgg20
  z20 := Tryz.sizeOf20
  v20 := Tryz.zeroValue20
  t21 := Tryz.underlying21
  a21 := Tryz.isAgg21
  z21 := Tryz.sizeOf21
  v21 := Tryz.zeroValue21
  t37 := Tryz.underlying120
  a37 := Tryz.isAgg120
  z37 := Tryz.sizeOf120
  v37 := Tryz.zeroValue120
  t46 := Tryz.underlying116
  a46 := Tryz.isAgg116
  z46 := Tryz.sizeOf116
  v46 := Tryz.zeroValue116
  t51 := Tryz.underlying180
  a51 := Tryz.isAgg180
  z51 := Tryz.sizeOf180
  v51 := Tryz.zeroValue180
  t70 := Tryz.underlying119
  a70 := Tryz.isAgg119
  z70 := Tryz.sizeOf119
  v70 := Tryz.zeroValue119
  t72 := Tryz.underlying122
  a72 := Tryz.isAgg122
  z72 := Tryz.sizeOf122
  v72 := Tryz.zeroValue122
  t75 := Tryz.underlying125
  a75 := Tryz.isAgg125
  z75 := Tryz.sizeOf125
  v75 := Tryz.zeroValue125
  t76 := Tryz.underlying126
  a76 := Tryz.isAgg126
  z76 := Tryz.sizeOf126
  v76 := Tryz.zeroValue126
  t105 := Tryz.underlying200
  a105 := Tryz.isAgg200
  z105 := Tryz.sizeOf200
  v105 := Tryz.zeroValue200
  t107 := Tryz.underlying155
  a107 := Tryz.isAgg155
  z107 := Tryz.sizeOf155
  v107 := Tryz.zeroValue155
  t119 := Tryz.underlying256
  a119 := Tryz.isAgg256
  z119 := Tryz.sizeOf256
  t127 := Tryz.underlying186
  a127 := Tryz.isAgg186
  z127 := Tryz.sizeOf186
  v127 := Tryz.zeroValue186
  t138 := Tryz.underlying258
  a138 := Tryz.isAgg258
  z138 := Tryz.sizeOf258
  v138 := Tryz.zeroValue258
  t139 := Tryz.underlying259
  a139 := Tryz.isAgg259
  z139 := Tryz.sizeOf259
  v139 := Tryz.zeroValue259
  t160 := Tryz.underlying260
  a160 := Tryz.isAgg260
  z160 := Tryz.sizeOf260
  v160 := Tryz.zeroValue260
  t162 := Tryz.underlying239
  a162 := Tryz.isAgg239
  z162 := Tryz.sizeOf239
  v162 := Tryz.zeroValue239
  t164 := Tryz.underlying217
  a164 := Tryz.isAgg217
  z164 := Tryz.sizeOf217
  v164 := Tryz.zeroValue217
  t203 := Tryz.underlying237
  a203 := Tryz.isAgg237
  z203 := Tryz.sizeOf237
  v203 := Tryz.zeroValue237
  t206 := Tryz.underlying273
  a206 := Tryz.isAgg273
  z206 := Tryz.sizeOf273
  v206 := Tryz.zeroValue273
  t208 := Tryz.underlying275
  a208 := Tryz.isAgg275
  z208 := Tryz.sizeOf275
  v208 := Tryz.zeroValue275
  g3 := by kernel_rfl
  g4 := by kernel_rfl
  g13 := by kernel_rfl }
theorem Tryz.Builder_Extra_159 : Builder.Extra Tryz.prog Tryz.lays159_ren := {
  sizeBuilder := by kernel_rfl
  liesBuilder := by kernel_rfl
  t5 := Tryz.underlying5
  a5 := Tryz.isAgg5
  z5 := Tryz.sizeOf5
  v5 := Tryz.zeroValue5
  infoByte := by kernel_rfl
  cellsByte := by kernel_rfl
  sizeByte := by kernel_rfl
  neB5 := by decide }
open Go.RowKit in
/-- strings.ToLower: "ToLower returns s with all Unicode letters mapped to their lower case.": ON ASCII TEXT OF AT MOST 2^47 BYTES. Below the heap's end the world is as it was: where a letter turns, the call makes a builder and its buffer. (LAID: no walk: one application.) -/
theorem Tryz.strings_ToLower_ascii (s : ByteArray) (w : World) (hs : s.size ≤ 140737488355328) (hascii : ∀ (j : Nat) (b : UInt8), s.data.toList[j]? = some b → b.toNat < 128) :
    Calls Tryz.prog 64 #[.string s] w fun e w' => e = .returned (.string ⟨(Lib.toLowerA s.data.toList).toArray⟩) ∧ Below w.heap.size w w' := Any.strings_ToLower_ascii Tryz.lays159 Tryz.Builder_Extra_159 s w hs hascii
def Tryz.lays156_ren : Go.Shelf.Ren := ⟨fun | 156 => 61 | 165 => 98 | 166 => 99 | 169 => 101 | 240 => 180 | 241 => 181 | 276 => 230 | 277 => 231 | n => n, fun | 31 => 65 | 9 => 9 | 3 => 3 | 4 => 4 | 0 => 0 | 20 => 20 | 72 => 122 | 76 => 126 | 70 => 119 | 37 => 120 | 75 => 125 | 127 => 186 | 164 => 217 | 5 => 5 | 80 => 129 | n => n, fun | n => n⟩
theorem Tryz.lays156 : Go.Proofs.Lays.n156 Tryz.prog Tryz.lays156_ren := {
  mixed := by kernel_rfl
  f156 := Tryz.func61.trans (congrArg some (by kernel_rfl))
  f165 := Tryz.func98.trans (congrArg some (by kernel_rfl))
  f166 := Tryz.func99.trans (congrArg some (by kernel_rfl))
  f169 := Tryz.func101.trans (congrArg some (by kernel_rfl))
  f240 := Tryz.func180.trans (congrArg some (by kernel_rfl))
  f241 := Tryz.func181.trans (congrArg some (by kernel_rfl))
  f276 := Tryz.func230.trans (congrArg some (by kernel_rfl))
  f277 := Tryz.func231.trans (congrArg some (by kernel_rfl))
  t0 := Tryz.underlying0
  a0 := Tryz.isAgg0
  z0 := Tryz.sizeOf0
  v0 := Tryz.zeroValue0
  t3 := Tryz.underlying3
  a3 := Tryz.isAgg3
  z3 := Tryz.sizeOf3
  v3 := Tryz.zeroValue3
  t4 := Tryz.underlying4
  a4 := Tryz.isAgg4
  z4 := Tryz.sizeOf4
  v4 := Tryz.zeroValue4
  t9 := Tryz.underlying9
  a9 := Tryz.isAgg9
  z9 := Tryz.sizeOf9
  v9 := Tryz.zeroValue9
  t20 := Tryz.underlying20
  a20 := Tryz.isAgg20
  z20 := Tryz.sizeOf20
  v20 := Tryz.zeroValue20
  t31 := Tryz.underlying65
  a31 := Tryz.isAgg65
  z31 := Tryz.sizeOf65
  v31 := Tryz.zeroValue65
  t37 := Tryz.underlying120
  a37 := Tryz.isAgg120
  z37 := Tryz.sizeOf120
  v37 := Tryz.zeroValue120
  t70 := Tryz.underlying119
  a70 := Tryz.isAgg119
  z70 := Tryz.sizeOf119
  v70 := Tryz.zeroValue119
  t72 := Tryz.underlying122
  a72 := Tryz.isAgg122
  z72 := Tryz.sizeOf122
  v72 := Tryz.zeroValue122
  t75 := Tryz.underlying125
  a75 := Tryz.isAgg125
  z75 := Tryz.sizeOf125
  v75 := Tryz.zeroValue125
  t76 := Tryz.underlying126
  a76 := Tryz.isAgg126
  z76 := Tryz.sizeOf126
  v76 := Tryz.zeroValue126
  t127 := Tryz.underlying186
  a127 := Tryz.isAgg186
  z127 := Tryz.sizeOf186
  v127 := Tryz.zeroValue186
  t164 := Tryz.underlying217
  a164 := Tryz.isAgg217
  z164 := Tryz.sizeOf217
  v164 := Tryz.zeroValue217 }
theorem Tryz.Builder_Extra_156 : Builder.Extra Tryz.prog Tryz.lays156_ren := {
  sizeBuilder := by kernel_rfl
  liesBuilder := by kernel_rfl
  t5 := Tryz.underlying5
  a5 := Tryz.isAgg5
  z5 := Tryz.sizeOf5
  v5 := Tryz.zeroValue5
  infoByte := by kernel_rfl
  cellsByte := by kernel_rfl
  sizeByte := by kernel_rfl
  neB5 := by decide }
open Go.RowKit in
/-- strings.Join: "Join concatenates the elements of its first argument to create a single string. The separator string sep is placed between elements in the resulting string.": HOWEVER MANY ELEMENTS. Below the heap's end the world is as it was. (LAID: no walk: one application.) -/
theorem Tryz.strings_Join (bk o c : Nat) (xs : List ByteArray) (sep : ByteArray) (w : World) (hcells : ∀ (j : Nat) x, xs[j]? = some x → w.cell? ⟨bk, o + j, none⟩ = some (.string x)) (hbk : bk < w.heap.size) (hN : xs.length ≤ 140737488355328) (hcap : xs.length ≤ c) (hlen : (Lib.join (xs.map (·.data.toList)) sep.data.toList).length ≤ 140737488355328) :
    Calls Tryz.prog 61 #[.slice (some ⟨bk, o, none⟩) xs.length c, .string sep] w fun e w' => e = .returned (.string ⟨(Lib.join (xs.map (·.data.toList)) sep.data.toList).toArray⟩) ∧ Below w.heap.size w w' := Any.strings_Join Tryz.lays156 Tryz.Builder_Extra_156 bk o c xs sep w hcells hbk hN hcap hlen
def Tryz.lays161_ren : Go.Shelf.Ren := ⟨fun | 161 => 177 | 231 => 130 | 227 => 132 | 233 => 133 | 235 => 135 | 228 => 203 | 197 => 204 | 151 => 205 | 260 => 252 | 152 => 253 | 137 => 281 | 119 => 282 | 224 => 234 | 225 => 233 | 217 => 232 | 266 => 264 | n => n, fun | 9 => 9 | 4 => 4 | 3 => 3 | 5 => 5 | 117 => 149 | 116 => 148 | 0 => 0 | 124 => 152 | 105 => 200 | 21 => 21 | 119 => 256 | 46 => 116 | 139 => 259 | 138 => 258 | n => n, fun | 3 => 2 | 4 => 3 | n => n⟩
theorem Tryz.lays161 : Go.Proofs.Lays.n161 Tryz.prog Tryz.lays161_ren := {
  mixed := by kernel_rfl
  f119 := Tryz.func282.trans (congrArg some (by kernel_rfl))
  f137 := Tryz.func281.trans (congrArg some (by kernel_rfl))
  f151 := Tryz.func205.trans (congrArg some (by kernel_rfl))
  f152 := Tryz.func253.trans (congrArg some (by kernel_rfl))
  f161 := Tryz.func177.trans (congrArg some (by kernel_rfl))
  f197 := Tryz.func204.trans (congrArg some (by kernel_rfl))
  f217 := Tryz.func232.trans (congrArg some (by kernel_rfl))
  f224 := Tryz.func234.trans (congrArg some (by kernel_rfl))
  f225 := Tryz.func233.trans (congrArg some (by kernel_rfl))
  f227 := Tryz.func132.trans (congrArg some (by kernel_rfl))
  f228 := Tryz.func203.trans (congrArg some (by kernel_rfl))
  f231 := Tryz.func130.trans (congrArg some (by kernel_rfl))
  f233 := Tryz.func133.trans (congrArg some (by kernel_rfl))
  f235 := Tryz.func135.trans (congrArg some (by kernel_rfl))
  f260 := Tryz.func252.trans (congrArg some (by kernel_rfl))
  f266 := Tryz.func264.trans (congrArg some (by kernel_rfl))
  t0 := Tryz.underlying0
  a0 := Tryz.isAgg0
  z0 := Tryz.sizeOf0
  v0 := Tryz.zeroValue0
  t3 := Tryz.underlying3
  a3 := Tryz.isAgg3
  z3 := Tryz.sizeOf3
  v3 := Tryz.zeroValue3
  t4 := Tryz.underlying4
  a4 := Tryz.isAgg4
  z4 := Tryz.sizeOf4
  v4 := Tryz.zeroValue4
  t5 := Tryz.underlying5
  a5 := Tryz.isAgg5
  z5 := Tryz.sizeOf5
  v5 := Tryz.zeroValue5
  t9 := Tryz.underlying9
  a9 := Tryz.isAgg9
  z9 := Tryz.sizeOf9
  v9 := Tryz.zeroValue9
  t21 := Tryz.underlying21
  a21 := Tryz.isAgg21
  z21 := Tryz.sizeOf21
  v21 := Tryz.zeroValue21
  t46 := Tryz.underlying116
  a46 := Tryz.isAgg116
  z46 := Tryz.sizeOf116
  v46 := Tryz.zeroValue116
  t105 := Tryz.underlying200
  a105 := Tryz.isAgg200
  z105 := Tryz.sizeOf200
  v105 := Tryz.zeroValue200
  t116 := Tryz.underlying148
  a116 := Tryz.isAgg148
  z116 := Tryz.sizeOf148
  t117 := Tryz.underlying149
  a117 := Tryz.isAgg149
  z117 := Tryz.sizeOf149
  v117 := Tryz.zeroValue149
  t119 := Tryz.underlying256
  a119 := Tryz.isAgg256
  z119 := Tryz.sizeOf256
  t124 := Tryz.underlying152
  a124 := Tryz.isAgg152
  z124 := Tryz.sizeOf152
  v124 := Tryz.zeroValue152
  t138 := Tryz.underlying258
  a138 := Tryz.isAgg258
  z138 := Tryz.sizeOf258
  v138 := Tryz.zeroValue258
  t139 := Tryz.underlying259
  a139 := Tryz.isAgg259
  z139 := Tryz.sizeOf259
  v139 := Tryz.zeroValue259
  g3 := by kernel_rfl
  g4 := by kernel_rfl }
open Go.RowKit in
/-- strings.TrimLeft: "TrimLeft returns a slice of the string s with all leading Unicode code points contained in cutset removed.": AT A cutset OF ONE ASCII BYTE. The world is as it was. (LAID: no walk: one application.) -/
theorem Tryz.strings_TrimLeft_one (s : ByteArray) (c : UInt8) (hc : c.toNat < 128) (w : World) :
    Calls Tryz.prog 177 #[.string s, .string ⟨#[c]⟩] w fun e w' => e = .returned (.string ⟨(Lib.trimLeftB s.data.toList c).toArray⟩) ∧ w' = w := Any.strings_TrimLeft_one Tryz.lays161 s c hc w
def Tryz.lays160_ren : Go.Shelf.Ren := ⟨fun | 160 => 63 | 232 => 131 | 231 => 130 | 227 => 132 | 234 => 134 | 233 => 133 | 236 => 136 | 235 => 135 | 228 => 203 | 271 => 206 | 151 => 205 | 197 => 204 | 120 => 254 | 152 => 253 | 260 => 252 | 137 => 281 | 119 => 282 | 224 => 234 | 225 => 233 | 217 => 232 | 266 => 264 | n => n, fun | 9 => 9 | 4 => 4 | 3 => 3 | 5 => 5 | 117 => 149 | 116 => 148 | 0 => 0 | 124 => 152 | 21 => 21 | 105 => 200 | 46 => 116 | 119 => 256 | 139 => 259 | 138 => 258 | n => n, fun | 3 => 2 | 4 => 3 | n => n⟩
theorem Tryz.lays160 : Go.Proofs.Lays.n160 Tryz.prog Tryz.lays160_ren := {
  mixed := by kernel_rfl
  f119 := Tryz.func282.trans (congrArg some (by kernel_rfl))
  f120 := Tryz.func254.trans (congrArg some (by kernel_rfl))
  f137 := Tryz.func281.trans (congrArg some (by kernel_rfl))
  f151 := Tryz.func205.trans (congrArg some (by kernel_rfl))
  f152 := Tryz.func253.trans (congrArg some (by kernel_rfl))
  f160 := Tryz.func63.trans (congrArg some (by kernel_rfl))
  f197 := Tryz.func204.trans (congrArg some (by kernel_rfl))
  f217 := Tryz.func232.trans (congrArg some (by kernel_rfl))
  f224 := Tryz.func234.trans (congrArg some (by kernel_rfl))
  f225 := Tryz.func233.trans (congrArg some (by kernel_rfl))
  f227 := Tryz.func132.trans (congrArg some (by kernel_rfl))
  f228 := Tryz.func203.trans (congrArg some (by kernel_rfl))
  f231 := Tryz.func130.trans (congrArg some (by kernel_rfl))
  f232 := Tryz.func131.trans (congrArg some (by kernel_rfl))
  f233 := Tryz.func133.trans (congrArg some (by kernel_rfl))
  f234 := Tryz.func134.trans (congrArg some (by kernel_rfl))
  f235 := Tryz.func135.trans (congrArg some (by kernel_rfl))
  f236 := Tryz.func136.trans (congrArg some (by kernel_rfl))
  f260 := Tryz.func252.trans (congrArg some (by kernel_rfl))
  f266 := Tryz.func264.trans (congrArg some (by kernel_rfl))
  f271 := Tryz.func206.trans (congrArg some (by kernel_rfl))
  t0 := Tryz.underlying0
  a0 := Tryz.isAgg0
  z0 := Tryz.sizeOf0
  v0 := Tryz.zeroValue0
  t3 := Tryz.underlying3
  a3 := Tryz.isAgg3
  z3 := Tryz.sizeOf3
  v3 := Tryz.zeroValue3
  t4 := Tryz.underlying4
  a4 := Tryz.isAgg4
  z4 := Tryz.sizeOf4
  v4 := Tryz.zeroValue4
  t5 := Tryz.underlying5
  a5 := Tryz.isAgg5
  z5 := Tryz.sizeOf5
  v5 := Tryz.zeroValue5
  t9 := Tryz.underlying9
  a9 := Tryz.isAgg9
  z9 := Tryz.sizeOf9
  v9 := Tryz.zeroValue9
  t21 := Tryz.underlying21
  a21 := Tryz.isAgg21
  z21 := Tryz.sizeOf21
  v21 := Tryz.zeroValue21
  t46 := Tryz.underlying116
  a46 := Tryz.isAgg116
  z46 := Tryz.sizeOf116
  v46 := Tryz.zeroValue116
  t105 := Tryz.underlying200
  a105 := Tryz.isAgg200
  z105 := Tryz.sizeOf200
  v105 := Tryz.zeroValue200
  t116 := Tryz.underlying148
  a116 := Tryz.isAgg148
  z116 := Tryz.sizeOf148
  t117 := Tryz.underlying149
  a117 := Tryz.isAgg149
  z117 := Tryz.sizeOf149
  v117 := Tryz.zeroValue149
  t119 := Tryz.underlying256
  a119 := Tryz.isAgg256
  z119 := Tryz.sizeOf256
  t124 := Tryz.underlying152
  a124 := Tryz.isAgg152
  z124 := Tryz.sizeOf152
  v124 := Tryz.zeroValue152
  t138 := Tryz.underlying258
  a138 := Tryz.isAgg258
  z138 := Tryz.sizeOf258
  v138 := Tryz.zeroValue258
  t139 := Tryz.underlying259
  a139 := Tryz.isAgg259
  z139 := Tryz.sizeOf259
  v139 := Tryz.zeroValue259
  g3 := by kernel_rfl
  g4 := by kernel_rfl }
open Go.RowKit in
/-- strings.Trim: "Trim returns a slice of the string s with all leading and trailing Unicode code points contained in cutset removed.": AT A cutset OF ONE ASCII BYTE. THE WORLD BEHIND IT: as it was, or (where s is not empty) with ONE DRAW MORE off the tape: the statement 'return trimLeftByte(trimRightByte(s, c), c)' draws its order of evaluation. (LAID: no walk: one application.) -/
theorem Tryz.strings_Trim_one (s : ByteArray) (c : UInt8) (hc : c.toNat < 128) (w : World) (hs : s.size ≤ 9223372036854775807) :
    Calls Tryz.prog 63 #[.string s, .string ⟨#[c]⟩] w fun e w' => e = .returned (.string ⟨(Lib.trimB s.data.toList c).toArray⟩) ∧ (w' = w ∨ w' = w.drew) := Any.strings_Trim_one Tryz.lays160 s c hc w hs
def Tryz.lays103_ren : Go.Shelf.Ren := ⟨fun | 103 => 33 | 210 => 96 | 206 => 126 | n => n, fun | 9 => 9 | 4 => 4 | 24 => 54 | 3 => 3 | n => n, fun | n => n⟩
theorem Tryz.lays103 : Go.Proofs.Lays.n103 Tryz.prog Tryz.lays103_ren := {
  mixed := by kernel_rfl
  f103 := Tryz.func33.trans (congrArg some (by kernel_rfl))
  f206 := Tryz.func126.trans (congrArg some (by kernel_rfl))
  f210 := Tryz.func96.trans (congrArg some (by kernel_rfl))
  t3 := Tryz.underlying3
  a3 := Tryz.isAgg3
  z3 := Tryz.sizeOf3
  v3 := Tryz.zeroValue3
  t4 := Tryz.underlying4
  a4 := Tryz.isAgg4
  z4 := Tryz.sizeOf4
  v4 := Tryz.zeroValue4
  t9 := Tryz.underlying9
  a9 := Tryz.isAgg9
  z9 := Tryz.sizeOf9
  v9 := Tryz.zeroValue9
  t24 := Tryz.underlying54
  a24 := Tryz.isAgg54
  z24 := Tryz.sizeOf54
  v24 := Tryz.zeroValue54 }
open Go.RowKit in
/-- strings.CutPrefix: "CutPrefix returns s without the provided leading prefix string and reports whether it found the prefix. If s doesn't start with prefix, CutPrefix returns s, false. If prefix is the empty string, CutPrefix returns s, true.": IT RETURNS '(Lib.trimPrefix s p, Lib.hasPrefix s p)'; the world is as it was. (LAID: no walk: one application.) -/
theorem Tryz.strings_CutPrefix (s p : ByteArray) (w : World) :
    Calls Tryz.prog 33 #[.string s, .string p] w fun e w' => e = .returned (.tuple #[.string ⟨(Lib.trimPrefix s.data.toList p.data.toList).toArray⟩, .bool (Lib.hasPrefix s.data.toList p.data.toList)]) ∧ w' = w := Any.strings_CutPrefix Tryz.lays103 s p w
def Tryz.lays122_ren : Go.Shelf.Ren := ⟨fun | 122 => 72 | 215 => 159 | n => n, fun | 3 => 3 | 4 => 4 | n => n, fun | n => n⟩
theorem Tryz.lays122 : Go.Proofs.Lays.n122 Tryz.prog Tryz.lays122_ren := {
  mixed := by kernel_rfl
  f122 := Tryz.func72.trans (congrArg some (by kernel_rfl))
  f215 := Tryz.func159.trans (congrArg some (by kernel_rfl))
  t3 := Tryz.underlying3
  a3 := Tryz.isAgg3
  z3 := Tryz.sizeOf3
  v3 := Tryz.zeroValue3
  t4 := Tryz.underlying4
  a4 := Tryz.isAgg4
  z4 := Tryz.sizeOf4
  v4 := Tryz.zeroValue4 }
open Go.RowKit in
/-- cmp.Compare at int: "Compare returns -1 if x is less than y, 0 if x equals y, +1 if x is greater than y.": IT RETURNS 'Lib.compareInt x y'; the world is as it was. (LAID: no walk: one application.) -/
theorem Tryz.cmp_Compare_int (x y : Int) (w : World) :
    Calls Tryz.prog 72 #[.int .i64 x, .int .i64 y] w fun e w' => e = .returned (.int .i64 (Lib.compareInt x y)) ∧ w' = w := Any.cmp_Compare_int Tryz.lays122 x y w
def Tryz.laysM171_ren : Go.Shelf.Ren := ⟨fun | 171 => 76 | 243 => 167 | 246 => 220 | 283 => 258 | 284 => 259 | 285 => 260 | 286 => 261 | 129 => 287 | 317 => 286 | 318 => 288 | 319 => 289 | 320 => 290 | 337 => 295 | 338 => 296 | n => n, fun | 3 => 3 | 9 => 9 | 2 => 2 | 4 => 4 | 171 => 241 | 0 => 0 | 53 => 183 | 37 => 120 | 5 => 5 | 173 => 244 | 212 => 264 | 51 => 180 | 20 => 20 | 213 => 265 | 46 => 116 | 232 => 281 | 233 => 282 | n => n, fun | 17 => 4 | 18 => 7 | 19 => 8 | n => n⟩
theorem Tryz.laysM171 : Go.Proofs.LaysM.n171 Tryz.prog Tryz.laysM171_ren := {
  mixed := by kernel_rfl
  f129 := Tryz.func287.trans (congrArg some (by kernel_rfl))
  f171 := Tryz.func76.trans (congrArg some (by kernel_rfl))
  f243 := Tryz.func167.trans (congrArg some (by kernel_rfl))
  f246 := Tryz.func220.trans (congrArg some (by kernel_rfl))
  f283 := Tryz.func258.trans (congrArg some (by kernel_rfl))
  f284 := Tryz.func259.trans (congrArg some (by kernel_rfl))
  f285 := Tryz.func260.trans (congrArg some (by kernel_rfl))
  f286 := Tryz.func261.trans (congrArg some (by kernel_rfl))
  f317 := Tryz.func286.trans (congrArg some (by kernel_rfl))
  f318 := Tryz.func288.trans (congrArg some (by kernel_rfl))
  f319 := Tryz.func289.trans (congrArg some (by kernel_rfl))
  f320 := Tryz.func290.trans (congrArg some (by kernel_rfl))
  f337 := Tryz.func295.trans (congrArg some (by kernel_rfl))
  f338 := Tryz.func296.trans (congrArg some (by kernel_rfl))
  t0 := Tryz.underlying0
  a0 := Tryz.isAgg0
  z0 := Tryz.sizeOf0
  v0 := Tryz.zeroValue0
  t2 := Tryz.underlying2
  a2 := Tryz.isAgg2
  z2 := Tryz.sizeOf2
  v2 := Tryz.zeroValue2
  t3 := Tryz.underlying3
  a3 := Tryz.isAgg3
  z3 := Tryz.sizeOf3
  v3 := Tryz.zeroValue3
  t4 := Tryz.underlying4
  a4 := Tryz.isAgg4
  z4 := Tryz.sizeOf4
  v4 := Tryz.zeroValue4
  t5 := Tryz.underlying5
  a5 := Tryz.isAgg5
  z5 := Tryz.sizeOf5
  v5 := Tryz.zeroValue5
  t9 := Tryz.underlying9
  a9 := Tryz.isAgg9
  z9 := Tryz.sizeOf9
  v9 := Tryz.zeroValue9
  t20 := Tryz.underlying20
  a20 := Tryz.isAgg20
  z20 := Tryz.sizeOf20
  v20 := Tryz.zeroValue20
  t37 := Tryz.underlying120
  a37 := Tryz.isAgg120
  z37 := Tryz.sizeOf120
  v37 := Tryz.zeroValue120
  t46 := Tryz.underlying116
  a46 := Tryz.isAgg116
  z46 := Tryz.sizeOf116
  v46 := Tryz.zeroValue116
  t51 := Tryz.underlying180
  a51 := Tryz.isAgg180
  z51 := Tryz.sizeOf180
  v51 := Tryz.zeroValue180
  t53 := Tryz.underlying183
  a53 := Tryz.isAgg183
  z53 := Tryz.sizeOf183
  v53 := Tryz.zeroValue183
  t171 := Tryz.underlying241
  a171 := Tryz.isAgg241
  z171 := Tryz.sizeOf241
  v171 := Tryz.zeroValue241
  t173 := Tryz.underlying244
  a173 := Tryz.isAgg244
  z173 := Tryz.sizeOf244
  v173 := Tryz.zeroValue244
  t212 := Tryz.underlying264
  a212 := Tryz.isAgg264
  z212 := Tryz.sizeOf264
  v212 := Tryz.zeroValue264
  t213 := Tryz.underlying265
  a213 := Tryz.isAgg265
  z213 := Tryz.sizeOf265
  t232 := Tryz.underlying281
  a232 := Tryz.isAgg281
  z232 := Tryz.sizeOf281
  v232 := Tryz.zeroValue281
  t233 := Tryz.underlying282
  a233 := Tryz.isAgg282
  z233 := Tryz.sizeOf282
  v233 := Tryz.zeroValue282
  g17 := by kernel_rfl
  g18 := by kernel_rfl
  g19 := by kernel_rfl
  i0 := by kernel_rfl
  i2 := by kernel_rfl
  i3 := by kernel_rfl
  i4 := by kernel_rfl
  i5 := by kernel_rfl
  i9 := by kernel_rfl
  i20 := by kernel_rfl
  i37 := by kernel_rfl
  i46 := by kernel_rfl
  i51 := by kernel_rfl
  i53 := by kernel_rfl
  i171 := by kernel_rfl
  i173 := by kernel_rfl
  i212 := by kernel_rfl
  i232 := by kernel_rfl
  i233 := by kernel_rfl
  m17 := by kernel_rfl
  m18 := by kernel_rfl
  m19 := by kernel_rfl }
open Go.RowKit Go.Sort Go.Lib in
/-- strconv.Itoa: "Itoa is equivalent to FormatInt(int64(i), 10).": i's DECIMAL NUMERAL ('Lib.itoa': a '-' where i is negative, then the digits), FOR EVERY int. The world behind the call: the world before it, new blocks behind the heap (the library's 'var a [24]byte'), draws. (LAID: no walk: one application.) -/
theorem Tryz.strconv_Itoa (n : Int) (h0 : -9223372036854775808 ≤ n) (h1 : n ≤ 9223372036854775807) (w : World) (htab : Lib.TabIs Tryz.prog w "internal/strconv.uint64pow10" .u64 Lib.pow10Tab) :
    Calls Tryz.prog 76 #[.int .i64 n] w fun e w' => e = .returned (.string ⟨(Lib.itoa n).toArray⟩) ∧ ∃ k os, w' = grow (w.drewN k) os := Any.strconv_Itoa Tryz.laysM171 n h0 h1 w htab
def Tryz.lays171_ren : Go.Shelf.Ren := ⟨fun | 171 => 76 | 243 => 167 | 246 => 220 | 283 => 258 | 284 => 259 | 285 => 260 | 286 => 261 | 129 => 287 | 317 => 286 | 318 => 288 | 319 => 289 | 320 => 290 | 337 => 295 | 338 => 296 | n => n, fun | 3 => 3 | 9 => 9 | 2 => 2 | 4 => 4 | 171 => 241 | 0 => 0 | 53 => 183 | 37 => 120 | 5 => 5 | 173 => 244 | 212 => 264 | 51 => 180 | 20 => 20 | 213 => 265 | 46 => 116 | 232 => 281 | 233 => 282 | n => n, fun | 17 => 4 | 18 => 7 | 19 => 8 | n => n⟩
theorem Tryz.lays171 : Go.Proofs.Lays.n171 Tryz.prog Tryz.lays171_ren := {
  mixed := by kernel_rfl
  f129 := Tryz.func287.trans (congrArg some (by kernel_rfl))
  f171 := Tryz.func76.trans (congrArg some (by kernel_rfl))
  f243 := Tryz.func167.trans (congrArg some (by kernel_rfl))
  f246 := Tryz.func220.trans (congrArg some (by kernel_rfl))
  f283 := Tryz.func258.trans (congrArg some (by kernel_rfl))
  f284 := Tryz.func259.trans (congrArg some (by kernel_rfl))
  f285 := Tryz.func260.trans (congrArg some (by kernel_rfl))
  f286 := Tryz.func261.trans (congrArg some (by kernel_rfl))
  f317 := Tryz.func286.trans (congrArg some (by kernel_rfl))
  f318 := Tryz.func288.trans (congrArg some (by kernel_rfl))
  f319 := Tryz.func289.trans (congrArg some (by kernel_rfl))
  f320 := Tryz.func290.trans (congrArg some (by kernel_rfl))
  f337 := Tryz.func295.trans (congrArg some (by kernel_rfl))
  f338 := Tryz.func296.trans (congrArg some (by kernel_rfl))
  t0 := Tryz.underlying0
  a0 := Tryz.isAgg0
  z0 := Tryz.sizeOf0
  v0 := Tryz.zeroValue0
  t2 := Tryz.underlying2
  a2 := Tryz.isAgg2
  z2 := Tryz.sizeOf2
  v2 := Tryz.zeroValue2
  t3 := Tryz.underlying3
  a3 := Tryz.isAgg3
  z3 := Tryz.sizeOf3
  v3 := Tryz.zeroValue3
  t4 := Tryz.underlying4
  a4 := Tryz.isAgg4
  z4 := Tryz.sizeOf4
  v4 := Tryz.zeroValue4
  t5 := Tryz.underlying5
  a5 := Tryz.isAgg5
  z5 := Tryz.sizeOf5
  v5 := Tryz.zeroValue5
  t9 := Tryz.underlying9
  a9 := Tryz.isAgg9
  z9 := Tryz.sizeOf9
  v9 := Tryz.zeroValue9
  t20 := Tryz.underlying20
  a20 := Tryz.isAgg20
  z20 := Tryz.sizeOf20
  v20 := Tryz.zeroValue20
  t37 := Tryz.underlying120
  a37 := Tryz.isAgg120
  z37 := Tryz.sizeOf120
  v37 := Tryz.zeroValue120
  t46 := Tryz.underlying116
  a46 := Tryz.isAgg116
  z46 := Tryz.sizeOf116
  v46 := Tryz.zeroValue116
  t51 := Tryz.underlying180
  a51 := Tryz.isAgg180
  z51 := Tryz.sizeOf180
  v51 := Tryz.zeroValue180
  t53 := Tryz.underlying183
  a53 := Tryz.isAgg183
  z53 := Tryz.sizeOf183
  v53 := Tryz.zeroValue183
  t171 := Tryz.underlying241
  a171 := Tryz.isAgg241
  z171 := Tryz.sizeOf241
  v171 := Tryz.zeroValue241
  t173 := Tryz.underlying244
  a173 := Tryz.isAgg244
  z173 := Tryz.sizeOf244
  v173 := Tryz.zeroValue244
  t212 := Tryz.underlying264
  a212 := Tryz.isAgg264
  z212 := Tryz.sizeOf264
  v212 := Tryz.zeroValue264
  t213 := Tryz.underlying265
  a213 := Tryz.isAgg265
  z213 := Tryz.sizeOf265
  t232 := Tryz.underlying281
  a232 := Tryz.isAgg281
  z232 := Tryz.sizeOf281
  v232 := Tryz.zeroValue281
  t233 := Tryz.underlying282
  a233 := Tryz.isAgg282
  z233 := Tryz.sizeOf282
  v233 := Tryz.zeroValue282
  g17 := by kernel_rfl
  g18 := by kernel_rfl
  g19 := by kernel_rfl }
open Go.RowKit Go.Sort Go.Lib in
/-- THE ROAD WITHOUT THE TABLE: 0 <= i < 100: NO PREMISE ON THE WORLD, AND THE WORLD IS AS IT WAS: a row that keeps its argument in that range need list no table ('laid = []'). (LAID: no walk: one application.) -/
theorem Tryz.strconv_Itoa_small (i : Nat) (hi : i < 100) (w : World) :
    Calls Tryz.prog 76 #[.int .i64 i] w fun e w' => e = .returned (.string ⟨(Lib.decDigits i).toArray⟩) ∧ w' = w := Any.strconv_Itoa_small Tryz.lays171 i hi w
def Tryz.laysC172_ren : Go.Shelf.Ren := ⟨fun | 172 => 196 | 244 => 245 | 245 => 246 | 247 => 275 | 279 => 276 | 280 => 277 | 281 => 278 | 282 => 279 | 287 => 292 | 316 => 293 | 171 => 76 | 205 => 294 | 321 => 297 | 322 => 298 | 243 => 167 | 246 => 220 | 283 => 258 | 284 => 259 | 285 => 260 | 286 => 261 | 129 => 287 | 317 => 286 | 318 => 288 | 319 => 289 | 320 => 290 | 337 => 295 | 338 => 296 | n => n, fun | 9 => 9 | 3 => 3 | 75 => 125 | 76 => 126 | 4 => 4 | 5 => 5 | 167 => 250 | 37 => 120 | 0 => 0 | 85 => 251 | 2 => 2 | 168 => 253 | 53 => 183 | 175 => 267 | 46 => 116 | 210 => 270 | 127 => 186 | 145 => 280 | 143 => 278 | 21 => 21 | 171 => 241 | 173 => 244 | 212 => 264 | 51 => 180 | 20 => 20 | 213 => 265 | 232 => 281 | 233 => 282 | 80 => 129 | n => n, fun | 15 => 5 | 16 => 6 | 17 => 4 | 18 => 7 | 19 => 8 | n => n⟩
theorem Tryz.laysC172 : Go.Proofs.LaysC.n172 Tryz.prog Tryz.laysC172_ren := {
  mixed := by kernel_rfl
  f129 := Tryz.func287.trans (congrArg some (by kernel_rfl))
  f171 := Tryz.func76.trans (congrArg some (by kernel_rfl))
  f172 := Tryz.func196.trans (congrArg some (by kernel_rfl))
  f205 := Tryz.func294.trans (congrArg some (by kernel_rfl))
  f243 := Tryz.func167.trans (congrArg some (by kernel_rfl))
  f244 := Tryz.func245.trans (congrArg some (by kernel_rfl))
  f245 := Tryz.func246.trans (congrArg some (by kernel_rfl))
  f246 := Tryz.func220.trans (congrArg some (by kernel_rfl))
  f247 := Tryz.func275.trans (congrArg some (by kernel_rfl))
  f279 := Tryz.func276.trans (congrArg some (by kernel_rfl))
  f280 := Tryz.func277.trans (congrArg some (by kernel_rfl))
  f281 := Tryz.func278.trans (congrArg some (by kernel_rfl))
  f282 := Tryz.func279.trans (congrArg some (by kernel_rfl))
  f283 := Tryz.func258.trans (congrArg some (by kernel_rfl))
  f284 := Tryz.func259.trans (congrArg some (by kernel_rfl))
  f285 := Tryz.func260.trans (congrArg some (by kernel_rfl))
  f286 := Tryz.func261.trans (congrArg some (by kernel_rfl))
  f287 := Tryz.func292.trans (congrArg some (by kernel_rfl))
  f316 := Tryz.func293.trans (congrArg some (by kernel_rfl))
  f317 := Tryz.func286.trans (congrArg some (by kernel_rfl))
  f318 := Tryz.func288.trans (congrArg some (by kernel_rfl))
  f319 := Tryz.func289.trans (congrArg some (by kernel_rfl))
  f320 := Tryz.func290.trans (congrArg some (by kernel_rfl))
  f321 := Tryz.func297.trans (congrArg some (by kernel_rfl))
  f322 := Tryz.func298.trans (congrArg some (by kernel_rfl))
  f337 := Tryz.func295.trans (congrArg some (by kernel_rfl))
  f338 := Tryz.func296.trans (congrArg some (by kernel_rfl))
  t0 := Tryz.underlying0
  a0 := Tryz.isAgg0
  z0 := Tryz.sizeOf0
  v0 := Tryz.zeroValue0
  t2 := Tryz.underlying2
  a2 := Tryz.isAgg2
  z2 := Tryz.sizeOf2
  v2 := Tryz.zeroValue2
  t3 := Tryz.underlying3
  a3 := Tryz.isAgg3
  z3 := Tryz.sizeOf3
  v3 := Tryz.zeroValue3
  t4 := Tryz.underlying4
  a4 := Tryz.isAgg4
  z4 := Tryz.sizeOf4
  v4 := Tryz.zeroValue4
  t5 := Tryz.underlying5
  a5 := Tryz.isAgg5
  z5 := Tryz.sizeOf5
  v5 := Tryz.zeroValue5
  t9 := Tryz.underlying9
  a9 := Tryz.isAgg9
  z9 := Tryz.sizeOf9
  v9 := Tryz.zeroValue9
  t20 := Tryz.underlying20
  a20 := Tryz.isAgg20
  z20 := Tryz.sizeOf20
  v20 := Tryz.zeroValue20
  t21 := Tryz.underlying21
  a21 := Tryz.isAgg21
  z21 := Tryz.sizeOf21
  v21 := Tryz.zeroValue21
  t37 := Tryz.underlying120
  a37 := Tryz.isAgg120
  z37 := Tryz.sizeOf120
  v37 := Tryz.zeroValue120
  t46 := Tryz.underlying116
  a46 := Tryz.isAgg116
  z46 := Tryz.sizeOf116
  v46 := Tryz.zeroValue116
  t51 := Tryz.underlying180
  a51 := Tryz.isAgg180
  z51 := Tryz.sizeOf180
  v51 := Tryz.zeroValue180
  t53 := Tryz.underlying183
  a53 := Tryz.isAgg183
  z53 := Tryz.sizeOf183
  v53 := Tryz.zeroValue183
  t75 := Tryz.underlying125
  a75 := Tryz.isAgg125
  z75 := Tryz.sizeOf125
  v75 := Tryz.zeroValue125
  t76 := Tryz.underlying126
  a76 := Tryz.isAgg126
  z76 := Tryz.sizeOf126
  v76 := Tryz.zeroValue126
  t85 := Tryz.underlying251
  a85 := Tryz.isAgg251
  z85 := Tryz.sizeOf251
  v85 := Tryz.zeroValue251
  t127 := Tryz.underlying186
  a127 := Tryz.isAgg186
  z127 := Tryz.sizeOf186
  v127 := Tryz.zeroValue186
  t143 := Tryz.underlying278
  a143 := Tryz.isAgg278
  z143 := Tryz.sizeOf278
  v143 := Tryz.zeroValue278
  t145 := Tryz.underlying280
  a145 := Tryz.isAgg280
  z145 := Tryz.sizeOf280
  v145 := Tryz.zeroValue280
  t167 := Tryz.underlying250
  a167 := Tryz.isAgg250
  z167 := Tryz.sizeOf250
  v167 := Tryz.zeroValue250
  t168 := Tryz.underlying253
  a168 := Tryz.isAgg253
  z168 := Tryz.sizeOf253
  v168 := Tryz.zeroValue253
  t171 := Tryz.underlying241
  a171 := Tryz.isAgg241
  z171 := Tryz.sizeOf241
  v171 := Tryz.zeroValue241
  t173 := Tryz.underlying244
  a173 := Tryz.isAgg244
  z173 := Tryz.sizeOf244
  v173 := Tryz.zeroValue244
  t175 := Tryz.underlying267
  a175 := Tryz.isAgg267
  z175 := Tryz.sizeOf267
  v175 := Tryz.zeroValue267
  t210 := Tryz.underlying270
  a210 := Tryz.isAgg270
  z210 := Tryz.sizeOf270
  v210 := Tryz.zeroValue270
  t212 := Tryz.underlying264
  a212 := Tryz.isAgg264
  z212 := Tryz.sizeOf264
  v212 := Tryz.zeroValue264
  t213 := Tryz.underlying265
  a213 := Tryz.isAgg265
  z213 := Tryz.sizeOf265
  t232 := Tryz.underlying281
  a232 := Tryz.isAgg281
  z232 := Tryz.sizeOf281
  v232 := Tryz.zeroValue281
  t233 := Tryz.underlying282
  a233 := Tryz.isAgg282
  z233 := Tryz.sizeOf282
  v233 := Tryz.zeroValue282
  g15 := by kernel_rfl
  g16 := by kernel_rfl
  g17 := by kernel_rfl
  g18 := by kernel_rfl
  g19 := by kernel_rfl
  t80 := Tryz.underlying129
  a80 := Tryz.isAgg129
  z80 := Tryz.sizeOf129
  v80 := Tryz.zeroValue129
  i0 := by kernel_rfl
  i2 := by kernel_rfl
  i3 := by kernel_rfl
  i4 := by kernel_rfl
  i5 := by kernel_rfl
  i9 := by kernel_rfl
  i20 := by kernel_rfl
  i21 := by kernel_rfl
  i37 := by kernel_rfl
  i46 := by kernel_rfl
  i51 := by kernel_rfl
  i53 := by kernel_rfl
  i75 := by kernel_rfl
  i76 := by kernel_rfl
  i80 := by kernel_rfl
  i85 := by kernel_rfl
  i127 := by kernel_rfl
  i143 := by kernel_rfl
  i145 := by kernel_rfl
  i167 := by kernel_rfl
  i168 := by kernel_rfl
  i171 := by kernel_rfl
  i173 := by kernel_rfl
  i175 := by kernel_rfl
  i210 := by kernel_rfl
  i212 := by kernel_rfl
  i232 := by kernel_rfl
  i233 := by kernel_rfl
  m15 := by kernel_rfl
  m16 := by kernel_rfl
  m17 := by kernel_rfl
  m18 := by kernel_rfl
  m19 := by kernel_rfl
  c0 := by kernel_rfl
  c2 := by kernel_rfl
  c3 := by kernel_rfl
  c4 := by kernel_rfl
  c5 := by kernel_rfl
  c9 := by kernel_rfl
  c20 := by kernel_rfl
  c21 := by kernel_rfl
  c37 := by kernel_rfl
  c46 := by kernel_rfl
  c51 := by kernel_rfl
  c53 := by kernel_rfl
  c75 := by kernel_rfl
  c76 := by kernel_rfl
  c80 := by kernel_rfl
  c85 := by kernel_rfl
  c127 := by kernel_rfl
  c143 := by kernel_rfl
  c145 := by kernel_rfl
  c167 := by kernel_rfl
  c168 := by kernel_rfl
  c171 := by kernel_rfl
  c173 := by kernel_rfl
  c175 := by kernel_rfl
  c210 := by kernel_rfl
  c212 := by kernel_rfl
  c213 := by kernel_rfl
  c232 := by kernel_rfl
  c233 := by kernel_rfl }
open Go.RowKit in
/-- strconv.Atoi, AT EVERY STRING THAT SPELLS AN int ('Lib.atoiAll .. = .ok v'; of whatever length: leading zeros count): v, AND NO ERROR. The world: as it was, or with the one new row that '[]byte(..)' lays. (LAID: no walk: one application.) -/
theorem Tryz.strconv_Atoi_ok (s : ByteArray) (hmax : s.size ≤ 9223372036854775806) (v : Int) (h : Lib.atoiAll s.data.toList = .ok v) (w : World) :
    Calls Tryz.prog 196 #[.string s] w fun e w' => e = .returned (.tuple #[.int .i64 v, .nilIface]) ∧ (w' = w ∨ ∃ t, w' = Lib.bytesWorld w 5 t) := Any.strconv_Atoi_ok Tryz.laysC172 s hmax v h w
def Tryz.lays144_ren : Go.Shelf.Ren := ⟨fun | 144 => 35 | 143 => 102 | 219 => 182 | 217 => 232 | 225 => 233 | 224 => 234 | 267 => 235 | 266 => 264 | 314 => 265 | n => n, fun | 9 => 9 | 4 => 4 | 3 => 3 | 5 => 5 | 46 => 116 | 146 => 181 | 51 => 180 | n => n, fun | 1 => 0 | n => n⟩
theorem Tryz.lays144 : Go.Proofs.Lays.n144 Tryz.prog Tryz.lays144_ren := {
  mixed := by kernel_rfl
  f143 := Tryz.func102.trans (congrArg some (by kernel_rfl))
  f144 := Tryz.func35.trans (congrArg some (by kernel_rfl))
  f217 := Tryz.func232.trans (congrArg some (by kernel_rfl))
  f219 := Tryz.func182.trans (congrArg some (by kernel_rfl))
  f224 := Tryz.func234.trans (congrArg some (by kernel_rfl))
  f225 := Tryz.func233.trans (congrArg some (by kernel_rfl))
  f266 := Tryz.func264.trans (congrArg some (by kernel_rfl))
  f267 := Tryz.func235.trans (congrArg some (by kernel_rfl))
  f314 := Tryz.func265.trans (congrArg some (by kernel_rfl))
  t3 := Tryz.underlying3
  a3 := Tryz.isAgg3
  z3 := Tryz.sizeOf3
  v3 := Tryz.zeroValue3
  t4 := Tryz.underlying4
  a4 := Tryz.isAgg4
  z4 := Tryz.sizeOf4
  v4 := Tryz.zeroValue4
  t5 := Tryz.underlying5
  a5 := Tryz.isAgg5
  z5 := Tryz.sizeOf5
  v5 := Tryz.zeroValue5
  t9 := Tryz.underlying9
  a9 := Tryz.isAgg9
  z9 := Tryz.sizeOf9
  v9 := Tryz.zeroValue9
  t46 := Tryz.underlying116
  a46 := Tryz.isAgg116
  z46 := Tryz.sizeOf116
  v46 := Tryz.zeroValue116
  t51 := Tryz.underlying180
  a51 := Tryz.isAgg180
  z51 := Tryz.sizeOf180
  v51 := Tryz.zeroValue180
  t146 := Tryz.underlying181
  a146 := Tryz.isAgg181
  z146 := Tryz.sizeOf181
  v146 := Tryz.zeroValue181
  g1 := by kernel_rfl }
open Go.RowKit Go.Lib in
/-- strings.Contains: "Contains reports whether substr is within s.": AT A substr OF ONE BYTE c: IT RETURNS 'decide (0 ≤ Lib.indexByte s c)'; the world is as it was. (LAID: no walk: one application.) -/
theorem Tryz.strings_Contains_one (s : ByteArray) (c : UInt8) (w : World) :
    Calls Tryz.prog 35 #[.string s, .string ⟨#[c]⟩] w fun e w' => e = .returned (.bool (decide (0 ≤ Lib.indexByte s.data.toList c))) ∧ w' = w := Any.strings_Contains_one Tryz.lays144 s c w
open Go.RowKit Go.Lib in
/-- strings.Contains: "Contains reports whether substr is within s.": IT RETURNS 'Lib.contains s substr'; the world is as it was. (LAID: no walk: one application.) -/
theorem Tryz.strings_Contains (s sub : ByteArray) (m : Int) (w : World) (hs : s.size < 4294967281) (hm : w.cell? ⟨0, 0, none⟩ = some (.int .i64 m)) :
    Calls Tryz.prog 35 #[.string s, .string sub] w fun e w' => e = .returned (.bool (Lib.contains s.data.toList sub.data.toList)) ∧ w' = w := Any.strings_Contains Tryz.lays144 s sub m w hs hm
def Tryz.lays145_ren : Go.Shelf.Ren := ⟨fun | 145 => 55 | 220 => 125 | 219 => 182 | 217 => 232 | 225 => 233 | 224 => 234 | 267 => 235 | 266 => 264 | 314 => 265 | n => n, fun | 9 => 9 | 4 => 4 | 59 => 74 | 3 => 3 | 5 => 5 | 46 => 116 | 146 => 181 | 51 => 180 | n => n, fun | 1 => 0 | n => n⟩
theorem Tryz.lays145 : Go.Proofs.Lays.n145 Tryz.prog Tryz.lays145_ren := {
  mixed := by kernel_rfl
  f145 := Tryz.func55.trans (congrArg some (by kernel_rfl))
  f217 := Tryz.func232.trans (congrArg some (by kernel_rfl))
  f219 := Tryz.func182.trans (congrArg some (by kernel_rfl))
  f220 := Tryz.func125.trans (congrArg some (by kernel_rfl))
  f224 := Tryz.func234.trans (congrArg some (by kernel_rfl))
  f225 := Tryz.func233.trans (congrArg some (by kernel_rfl))
  f266 := Tryz.func264.trans (congrArg some (by kernel_rfl))
  f267 := Tryz.func235.trans (congrArg some (by kernel_rfl))
  f314 := Tryz.func265.trans (congrArg some (by kernel_rfl))
  t3 := Tryz.underlying3
  a3 := Tryz.isAgg3
  z3 := Tryz.sizeOf3
  v3 := Tryz.zeroValue3
  t4 := Tryz.underlying4
  a4 := Tryz.isAgg4
  z4 := Tryz.sizeOf4
  v4 := Tryz.zeroValue4
  t5 := Tryz.underlying5
  a5 := Tryz.isAgg5
  z5 := Tryz.sizeOf5
  v5 := Tryz.zeroValue5
  t9 := Tryz.underlying9
  a9 := Tryz.isAgg9
  z9 := Tryz.sizeOf9
  v9 := Tryz.zeroValue9
  t46 := Tryz.underlying116
  a46 := Tryz.isAgg116
  z46 := Tryz.sizeOf116
  v46 := Tryz.zeroValue116
  t51 := Tryz.underlying180
  a51 := Tryz.isAgg180
  z51 := Tryz.sizeOf180
  v51 := Tryz.zeroValue180
  t59 := Tryz.underlying74
  a59 := Tryz.isAgg74
  z59 := Tryz.sizeOf74
  v59 := Tryz.zeroValue74
  t146 := Tryz.underlying181
  a146 := Tryz.isAgg181
  z146 := Tryz.sizeOf181
  v146 := Tryz.zeroValue181
  g1 := by kernel_rfl }
open Go.RowKit Go.Lib in
/-- strings.Cut: "Cut slices s around the first instance of sep, returning the text before and after sep. The found result reports whether sep appears in s. If sep does not appear in s, cut returns s, "", false.": IT RETURNS 'Lib.cut s sep'; the world is as it was but for the count of draws. (LAID: no walk: one application.) -/
theorem Tryz.strings_Cut (s sep : ByteArray) (m : Int) (w : World) (hs : s.size < 4294967281) (hm : w.cell? ⟨0, 0, none⟩ = some (.int .i64 m)) :
    Calls Tryz.prog 55 #[.string s, .string sep] w fun e w' => e = .returned (.tuple #[.string ⟨(Lib.cut s.data.toList sep.data.toList).1.toArray⟩, .string ⟨(Lib.cut s.data.toList sep.data.toList).2.1.toArray⟩, .bool (Lib.cut s.data.toList sep.data.toList).2.2]) ∧ ∃ n, w' = w.drewN n := Any.strings_Cut Tryz.lays145 s sep m w hs hm
def Tryz.lays99_ren : Go.Shelf.Ren := ⟨fun | 99 => 56 | 206 => 126 | n => n, fun | 9 => 9 | 4 => 4 | 3 => 3 | n => n, fun | n => n⟩
theorem Tryz.lays99 : Go.Proofs.Lays.n99 Tryz.prog Tryz.lays99_ren := {
  mixed := by kernel_rfl
  f99 := Tryz.func56.trans (congrArg some (by kernel_rfl))
  f206 := Tryz.func126.trans (congrArg some (by kernel_rfl))
  t3 := Tryz.underlying3
  a3 := Tryz.isAgg3
  z3 := Tryz.sizeOf3
  v3 := Tryz.zeroValue3
  t4 := Tryz.underlying4
  a4 := Tryz.isAgg4
  z4 := Tryz.sizeOf4
  v4 := Tryz.zeroValue4
  t9 := Tryz.underlying9
  a9 := Tryz.isAgg9
  z9 := Tryz.sizeOf9
  v9 := Tryz.zeroValue9 }
open Go.RowKit Go.Lib in
/-- strings.HasPrefix: "HasPrefix reports whether the string s begins with prefix.": IT RETURNS 'Lib.hasPrefix s prefix'; the world is as it was. (LAID: no walk: one application.) -/
theorem Tryz.strings_HasPrefix (s p : ByteArray) (w : World) :
    Calls Tryz.prog 56 #[.string s, .string p] w fun e w' => e = .returned (.bool (Lib.hasPrefix s.data.toList p.data.toList)) ∧ w' = w := Any.strings_HasPrefix Tryz.lays99 s p w
def Tryz.lays100_ren : Go.Shelf.Ren := ⟨fun | 100 => 57 | 207 => 127 | n => n, fun | 9 => 9 | 4 => 4 | 3 => 3 | n => n, fun | n => n⟩
theorem Tryz.lays100 : Go.Proofs.Lays.n100 Tryz.prog Tryz.lays100_ren := {
  mixed := by kernel_rfl
  f100 := Tryz.func57.trans (congrArg some (by kernel_rfl))
  f207 := Tryz.func127.trans (congrArg some (by kernel_rfl))
  t3 := Tryz.underlying3
  a3 := Tryz.isAgg3
  z3 := Tryz.sizeOf3
  v3 := Tryz.zeroValue3
  t4 := Tryz.underlying4
  a4 := Tryz.isAgg4
  z4 := Tryz.sizeOf4
  v4 := Tryz.zeroValue4
  t9 := Tryz.underlying9
  a9 := Tryz.isAgg9
  z9 := Tryz.sizeOf9
  v9 := Tryz.zeroValue9 }
open Go.RowKit Go.Lib in
/-- strings.HasSuffix: "HasSuffix reports whether the string s ends with suffix.": IT RETURNS 'Lib.hasSuffix s suffix'; the world is as it was. ('hs': no Go string is longer: a caller has it of every string that it was handed.) (LAID: no walk: one application.) -/
theorem Tryz.strings_HasSuffix (s p : ByteArray) (w : World) (hs : s.size ≤ 9223372036854775807) :
    Calls Tryz.prog 57 #[.string s, .string p] w fun e w' => e = .returned (.bool (Lib.hasSuffix s.data.toList p.data.toList)) ∧ w' = w := Any.strings_HasSuffix Tryz.lays100 s p w hs
def Tryz.lays101_ren : Go.Shelf.Ren := ⟨fun | 101 => 161 | 208 => 215 | 206 => 126 | n => n, fun | 9 => 9 | 4 => 4 | 3 => 3 | n => n, fun | n => n⟩
theorem Tryz.lays101 : Go.Proofs.Lays.n101 Tryz.prog Tryz.lays101_ren := {
  mixed := by kernel_rfl
  f101 := Tryz.func161.trans (congrArg some (by kernel_rfl))
  f206 := Tryz.func126.trans (congrArg some (by kernel_rfl))
  f208 := Tryz.func215.trans (congrArg some (by kernel_rfl))
  t3 := Tryz.underlying3
  a3 := Tryz.isAgg3
  z3 := Tryz.sizeOf3
  v3 := Tryz.zeroValue3
  t4 := Tryz.underlying4
  a4 := Tryz.isAgg4
  z4 := Tryz.sizeOf4
  v4 := Tryz.zeroValue4
  t9 := Tryz.underlying9
  a9 := Tryz.isAgg9
  z9 := Tryz.sizeOf9
  v9 := Tryz.zeroValue9 }
open Go.RowKit Go.Lib in
/-- strings.TrimPrefix: "TrimPrefix returns s without the provided leading prefix string. If s doesn't start with prefix, s is returned unchanged.": IT RETURNS 'Lib.trimPrefix s prefix'; the world is as it was. (LAID: no walk: one application.) -/
theorem Tryz.strings_TrimPrefix (s p : ByteArray) (w : World) :
    Calls Tryz.prog 161 #[.string s, .string p] w fun e w' => e = .returned (.string ⟨(Lib.trimPrefix s.data.toList p.data.toList).toArray⟩) ∧ w' = w := Any.strings_TrimPrefix Tryz.lays101 s p w
def Tryz.lays105_ren : Go.Shelf.Ren := ⟨fun | 105 => 34 | 212 => 97 | 99 => 56 | 165 => 98 | 166 => 99 | 170 => 100 | 169 => 101 | 263 => 178 | 264 => 179 | 206 => 126 | 240 => 180 | 241 => 181 | 276 => 230 | 277 => 231 | n => n, fun | 9 => 9 | 3 => 3 | 4 => 4 | 20 => 20 | 0 => 0 | 46 => 116 | 109 => 117 | 5 => 5 | 72 => 122 | 76 => 126 | 51 => 180 | 146 => 181 | 53 => 183 | 148 => 184 | 70 => 119 | 37 => 120 | 75 => 125 | 127 => 186 | 164 => 217 | 80 => 129 | n => n, fun | n => n⟩
theorem Tryz.lays105 : Go.Proofs.Lays.n105 Tryz.prog Tryz.lays105_ren := {
  mixed := by kernel_rfl
  f99 := Tryz.func56.trans (congrArg some (by kernel_rfl))
  f105 := Tryz.func34.trans (congrArg some (by kernel_rfl))
  f165 := Tryz.func98.trans (congrArg some (by kernel_rfl))
  f166 := Tryz.func99.trans (congrArg some (by kernel_rfl))
  f169 := Tryz.func101.trans (congrArg some (by kernel_rfl))
  f170 := Tryz.func100.trans (congrArg some (by kernel_rfl))
  f206 := Tryz.func126.trans (congrArg some (by kernel_rfl))
  f212 := Tryz.func97.trans (congrArg some (by kernel_rfl))
  f240 := Tryz.func180.trans (congrArg some (by kernel_rfl))
  f241 := Tryz.func181.trans (congrArg some (by kernel_rfl))
  f263 := Tryz.func178.trans (congrArg some (by kernel_rfl))
  f264 := Tryz.func179.trans (congrArg some (by kernel_rfl))
  f276 := Tryz.func230.trans (congrArg some (by kernel_rfl))
  f277 := Tryz.func231.trans (congrArg some (by kernel_rfl))
  t0 := Tryz.underlying0
  a0 := Tryz.isAgg0
  z0 := Tryz.sizeOf0
  v0 := Tryz.zeroValue0
  t3 := Tryz.underlying3
  a3 := Tryz.isAgg3
  z3 := Tryz.sizeOf3
  v3 := Tryz.zeroValue3
  t4 := Tryz.underlying4
  a4 := Tryz.isAgg4
  z4 := Tryz.sizeOf4
  v4 := Tryz.zeroValue4
  t5 := Tryz.underlying5
  a5 := Tryz.isAgg5
  z5 := Tryz.sizeOf5
  v5 := Tryz.zeroValue5
  t9 := Tryz.underlying9
  a9 := Tryz.isAgg9
  z9 := Tryz.sizeOf9
  v9 := Tryz.zeroValue9
  t20 := Tryz.underlying20
  a20 := Tryz.isAgg20
  z20 := Tryz.sizeOf20
  v20 := Tryz.zeroValue20
  t37 := Tryz.underlying120
  a37 := Tryz.isAgg120
  z37 := Tryz.sizeOf120
  v37 := Tryz.zeroValue120
  t46 := Tryz.underlying116
  a46 := Tryz.isAgg116
  z46 := Tryz.sizeOf116
  v46 := Tryz.zeroValue116
  t51 := Tryz.underlying180
  a51 := Tryz.isAgg180
  z51 := Tryz.sizeOf180
  v51 := Tryz.zeroValue180
  t53 := Tryz.underlying183
  a53 := Tryz.isAgg183
  z53 := Tryz.sizeOf183
  v53 := Tryz.zeroValue183
  t70 := Tryz.underlying119
  a70 := Tryz.isAgg119
  z70 := Tryz.sizeOf119
  v70 := Tryz.zeroValue119
  t72 := Tryz.underlying122
  a72 := Tryz.isAgg122
  z72 := Tryz.sizeOf122
  v72 := Tryz.zeroValue122
  t75 := Tryz.underlying125
  a75 := Tryz.isAgg125
  z75 := Tryz.sizeOf125
  v75 := Tryz.zeroValue125
  t76 := Tryz.underlying126
  a76 := Tryz.isAgg126
  z76 := Tryz.sizeOf126
  v76 := Tryz.zeroValue126
  t109 := Tryz.underlying117
  a109 := Tryz.isAgg117
  z109 := Tryz.sizeOf117
  v109 := Tryz.zeroValue117
  t127 := Tryz.underlying186
  a127 := Tryz.isAgg186
  z127 := Tryz.sizeOf186
  v127 := Tryz.zeroValue186
  t146 := Tryz.underlying181
  a146 := Tryz.isAgg181
  z146 := Tryz.sizeOf181
  v146 := Tryz.zeroValue181
  t148 := Tryz.underlying184
  a148 := Tryz.isAgg184
  z148 := Tryz.sizeOf184
  v148 := Tryz.zeroValue184
  t164 := Tryz.underlying217
  a164 := Tryz.isAgg217
  z164 := Tryz.sizeOf217
  v164 := Tryz.zeroValue217 }
theorem Tryz.Builder_Extra_105 : Builder.Extra Tryz.prog Tryz.lays105_ren := {
  sizeBuilder := by kernel_rfl
  liesBuilder := by kernel_rfl
  t5 := Tryz.underlying5
  a5 := Tryz.isAgg5
  z5 := Tryz.sizeOf5
  v5 := Tryz.zeroValue5
  infoByte := by kernel_rfl
  cellsByte := by kernel_rfl
  sizeByte := by kernel_rfl
  neB5 := by decide }
open Go.RowKit Go.Lib in
/-- **strings.Repeat: count ≥ 0, the result within one allocation: count copies of s.** (LAID: no walk: one application.) -/
theorem Tryz.strings_Repeat (s : ByteArray) (c : Nat) (w : World) (hc : c ≤ 9223372036854775807) (hlen : s.size * c ≤ 140737488355328) :
    Calls Tryz.prog 34 #[.string s, .int .i64 c] w fun e w' => e = .returned (.string ⟨(Lib.repeatL s.data.toList c).toArray⟩) ∧ Below w.heap.size w w' := Any.strings_Repeat Tryz.lays105 Tryz.Builder_Extra_105 s c w hc hlen
end Go.Proofs
namespace Go.Proofs.YtfgjpnoeibiaaaaGreatDoor
open Go.Shelf Go.RowKit

theorem lays240 : Lays.n240 Tryz.prog Tryz.lays105_ren := {
  mixed := Tryz.lays105.mixed
  f240 := Tryz.lays105.f240
  f276 := Tryz.lays105.f276
  t0 := Tryz.lays105.t0
  a0 := Tryz.lays105.a0
  z0 := Tryz.lays105.z0
  v0 := Tryz.lays105.v0
  t4 := Tryz.lays105.t4
  a4 := Tryz.lays105.a4
  z4 := Tryz.lays105.z4
  v4 := Tryz.lays105.v4
  t9 := Tryz.lays105.t9
  a9 := Tryz.lays105.a9
  z9 := Tryz.lays105.z9
  v9 := Tryz.lays105.v9
  t20 := Tryz.lays105.t20
  a20 := Tryz.lays105.a20
  z20 := Tryz.lays105.z20
  v20 := Tryz.lays105.v20
  t70 := Tryz.lays105.t70
  a70 := Tryz.lays105.a70
  z70 := Tryz.lays105.z70
  v70 := Tryz.lays105.v70
  t72 := Tryz.lays105.t72
  a72 := Tryz.lays105.a72
  z72 := Tryz.lays105.z72
  v72 := Tryz.lays105.v72
  t164 := Tryz.lays105.t164
  a164 := Tryz.lays105.a164
  z164 := Tryz.lays105.z164
  v164 := Tryz.lays105.v164
}
theorem lays166 : Lays.n166 Tryz.prog Tryz.lays105_ren := {
  mixed := Tryz.lays105.mixed
  f166 := Tryz.lays105.f166
  f240 := Tryz.lays105.f240
  f276 := Tryz.lays105.f276
  t0 := Tryz.lays105.t0
  a0 := Tryz.lays105.a0
  z0 := Tryz.lays105.z0
  v0 := Tryz.lays105.v0
  t3 := Tryz.lays105.t3
  a3 := Tryz.lays105.a3
  z3 := Tryz.lays105.z3
  v3 := Tryz.lays105.v3
  t4 := Tryz.lays105.t4
  a4 := Tryz.lays105.a4
  z4 := Tryz.lays105.z4
  v4 := Tryz.lays105.v4
  t9 := Tryz.lays105.t9
  a9 := Tryz.lays105.a9
  z9 := Tryz.lays105.z9
  v9 := Tryz.lays105.v9
  t20 := Tryz.lays105.t20
  a20 := Tryz.lays105.a20
  z20 := Tryz.lays105.z20
  v20 := Tryz.lays105.v20
  t37 := Tryz.lays105.t37
  a37 := Tryz.lays105.a37
  z37 := Tryz.lays105.z37
  v37 := Tryz.lays105.v37
  t70 := Tryz.lays105.t70
  a70 := Tryz.lays105.a70
  z70 := Tryz.lays105.z70
  v70 := Tryz.lays105.v70
  t72 := Tryz.lays105.t72
  a72 := Tryz.lays105.a72
  z72 := Tryz.lays105.z72
  v72 := Tryz.lays105.v72
  t75 := Tryz.lays105.t75
  a75 := Tryz.lays105.a75
  z75 := Tryz.lays105.z75
  v75 := Tryz.lays105.v75
  t164 := Tryz.lays105.t164
  a164 := Tryz.lays105.a164
  z164 := Tryz.lays105.z164
  v164 := Tryz.lays105.v164
}
def ren167 : Go.Shelf.Ren := ⟨fun | 167 => 137 | n => Tryz.lays105_ren.f n, Tryz.lays105_ren.t, Tryz.lays105_ren.g⟩
theorem lays167 : Lays.n167 Tryz.prog ren167 := {
  mixed := Tryz.lays105.mixed
  f167 := Tryz.func137.trans (congrArg some (by kernel_rfl))
  f240 := Tryz.lays105.f240
  f276 := Tryz.lays105.f276
  t0 := Tryz.lays105.t0
  a0 := Tryz.lays105.a0
  z0 := Tryz.lays105.z0
  v0 := Tryz.lays105.v0
  t4 := Tryz.lays105.t4
  a4 := Tryz.lays105.a4
  z4 := Tryz.lays105.z4
  v4 := Tryz.lays105.v4
  t5 := Tryz.lays105.t5
  a5 := Tryz.lays105.a5
  z5 := Tryz.lays105.z5
  v5 := Tryz.lays105.v5
  t9 := Tryz.lays105.t9
  a9 := Tryz.lays105.a9
  z9 := Tryz.lays105.z9
  v9 := Tryz.lays105.v9
  t20 := Tryz.lays105.t20
  a20 := Tryz.lays105.a20
  z20 := Tryz.lays105.z20
  v20 := Tryz.lays105.v20
  t37 := Tryz.lays105.t37
  a37 := Tryz.lays105.a37
  z37 := Tryz.lays105.z37
  v37 := Tryz.lays105.v37
  t70 := Tryz.lays105.t70
  a70 := Tryz.lays105.a70
  z70 := Tryz.lays105.z70
  v70 := Tryz.lays105.v70
  t72 := Tryz.lays105.t72
  a72 := Tryz.lays105.a72
  z72 := Tryz.lays105.z72
  v72 := Tryz.lays105.v72
  t75 := Tryz.lays105.t75
  a75 := Tryz.lays105.a75
  z75 := Tryz.lays105.z75
  v75 := Tryz.lays105.v75
  t164 := Tryz.lays105.t164
  a164 := Tryz.lays105.a164
  z164 := Tryz.lays105.z164
  v164 := Tryz.lays105.v164
}
set_option maxRecDepth 100000 in
theorem extra167 : Builder.Extra Tryz.prog ren167 := {
  sizeBuilder := Tryz.Builder_Extra_105.sizeBuilder
  liesBuilder := Tryz.Builder_Extra_105.liesBuilder
  t5 := Tryz.Builder_Extra_105.t5
  a5 := Tryz.Builder_Extra_105.a5
  z5 := Tryz.Builder_Extra_105.z5
  v5 := Tryz.Builder_Extra_105.v5
  infoByte := Tryz.Builder_Extra_105.infoByte
  cellsByte := Tryz.Builder_Extra_105.cellsByte
  sizeByte := Tryz.Builder_Extra_105.sizeByte
  neB5 := Tryz.Builder_Extra_105.neB5
}
theorem builder_writeByte (B b : Nat) (bs : List Value) (c : Int) (w : World) (h : Lib.IsBuilder 122 5 B b bs w) (hlen : bs.length + 1 ≤ 140737488355328) (hBw : B ≤ w.heap.size) :
    Calls Tryz.prog 137 #[.pointer (some ⟨b, 0, none⟩), .int .u8 c] w fun e w' => e = .returned .nilIface ∧ (Lib.BuilderAt 122 5 B b (.pointer (some ⟨b, 0, none⟩)) (bs ++ [.int .u8 c]) w' ∧ Below B w w') := Any.Builder_WriteByte lays167 extra167 B b bs c w h hlen hBw
theorem builder_writeString (B b : Nat) (bs : List Value) (s : ByteArray) (w : World) (h : Lib.IsBuilder 122 5 B b bs w) (hlen : bs.length + s.size ≤ 140737488355328) (hBw : B ≤ w.heap.size) :
    Calls Tryz.prog 99 #[.pointer (some ⟨b, 0, none⟩), .string s] w fun e w' => e = .returned (.tuple #[.int .i64 s.size, .nilIface]) ∧ (Lib.BuilderAt 122 5 B b (.pointer (some ⟨b, 0, none⟩)) (bs ++ Lib.strCells s) w' ∧ Below B w w') := Any.Builder_WriteString lays166 Tryz.Builder_Extra_105 B b bs s w h hlen hBw
end Go.Proofs.YtfgjpnoeibiaaaaGreatDoor
namespace Go.KP
open Go Go.RowKit

theorem hide {p : Prop} (h : p) : Hid p := h
theorem below_drewN {B : Nat} {a w : World} (h : Below B a w) (n : Nat) : Below B a (w.drewN n) := ⟨h.os, h.tape, h.output, h.size, h.block⟩
theorem bcell {W w1 : World} (hb : Below W.heap.size W w1) : (∀ b o, b < W.heap.size → w1.cell? ⟨b, o, none⟩ = W.cell? ⟨b, o, none⟩) ∧ (∀ b o, b < W.heap.size → w1.frozen? ⟨b, o, none⟩ = W.frozen? ⟨b, o, none⟩) :=
  ⟨fun b o h => hb.cell (p := ⟨b, o, none⟩) h, fun b o h => hb.frozen (p := ⟨b, o, none⟩) h⟩

/-- The slice value v has n elements of sz cells each, and reads as the cells xs; it lies below block B. -/
def SlAt (B : Nat) (w : World) (sz : Nat) (v : Value) (n : Nat) (xs : List Value) : Prop :=
  xs.length = n * sz ∧ ((∃ a c, v = .slice a 0 c ∧ n = 0) ∨ ∃ b o cap, v = .slice (some ⟨b, o, none⟩) n cap ∧ b < B ∧ ∀ i u, xs[i]? = some u → w.cell? ⟨b, o + i, none⟩ = some u)

theorem SlAt.below {B n0 : Nat} {w w2 : World} {sz : Nat} {v : Value} {n : Nat} {xs : List Value} (h : SlAt B w sz v n xs) (hb : Below n0 w w2) (hB : B ≤ n0) : SlAt B w2 sz v n xs := by
  refine ⟨h.1, h.2.imp id ?_⟩
  rintro ⟨b, o, cap, hv, hlt, hc⟩
  exact ⟨b, o, cap, hv, hlt, fun i u hu => (hb.cell (p := ⟨b, o + i, none⟩) (by simp; omega)).trans (hc i u hu)⟩
theorem SlAt.mono {B B2 : Nat} {w : World} {sz : Nat} {v : Value} {n : Nat} {xs : List Value} (h : SlAt B w sz v n xs) (hB : B ≤ B2) : SlAt B2 w sz v n xs := by
  refine ⟨h.1, h.2.imp id ?_⟩
  rintro ⟨b, o, cap, hv, hlt, hc⟩
  exact ⟨b, o, cap, hv, by omega, hc⟩
theorem SlAt.of_owns {w : World} {base : Nat} {e : TypeId} {sz : Nat} {v : Value} {n : Nat} {xs : List Value} (h : w.ownsRow base e sz v n xs) : SlAt w.heap.size w sz v n xs := by
  refine ⟨h.1, h.2.imp (fun ⟨h1, h2⟩ => ⟨none, 0, h1, h2⟩) ?_⟩
  rintro ⟨g, cap, cur, hv, hg, hh, _⟩
  refine ⟨g, 0, cap, hv, (Array.getElem?_eq_some_iff.1 hh).1, fun i u hu => ?_⟩
  have := h.cells (g := g) (by rw [hv]; rfl) i u hu
  rwa [Addr.add_lit] at this
theorem SlAt.moved {B : Nat} {w w2 : World} {sz : Nat} {v : Value} {n : Nat} {xs : List Value} (h : SlAt B w sz v n xs) (hb : ∀ i, i < B → i < w2.heap.size ∧ w2.heap[i]? = w.heap[i]?) : SlAt w2.heap.size w2 sz v n xs := by
  refine ⟨h.1, h.2.imp id ?_⟩
  rintro ⟨b, o, cap, hv, hlt, hc⟩
  exact ⟨b, o, cap, hv, (hb b hlt).1, fun i u hu => (World.cell?_of_block (hb b hlt).2).trans (hc i u hu)⟩
/-- It returns v; nothing that lay has turned. -/
def Ret (w : World) (v : Value) (e : Ending) (w2 : World) : Prop := e = .returned v ∧ Below w.heap.size w w2
/-- It returns something of which F speaks; nothing that lay has turned. -/
def RetEx (w : World) (F : Value → World → Prop) (e : Ending) (w2 : World) : Prop := ∃ v, e = .returned v ∧ Below w.heap.size w w2 ∧ F v w2
theorem below_two {w w1 : World} {o : Obj} (h : Below (w.alloc o).heap.size (w.alloc o) w1) (o2 : Obj) : Below w.heap.size w (w1.alloc o2) :=
  (((Below.refl _ w).alloc (Nat.le_refl _) o).trans (h.mono (by simp))).alloc (by have := h.size; simp at this; omega) o2
theorem below_one {w w1 : World} {o : Obj} (h : Below (w.alloc o).heap.size (w.alloc o) w1) : Below w.heap.size w w1 :=
  ((Below.refl _ w).alloc (Nat.le_refl _) o).trans (h.mono (by simp))
theorem owns_stay {w w2 : World} {base : Nat} {e : TypeId} {sz : Nat} {v : Value} {n : Nat} {xs : List Value} (h : w.ownsRow base e sz v n xs) (hb : ∀ r, v.ownBlock = some r → w2.heap[r]? = w.heap[r]?) : w2.ownsRow base e sz v n xs := by
  refine ⟨h.1, h.2.imp id ?_⟩
  rintro ⟨g, cap, cur, hv, hg, hh, r⟩
  exact ⟨g, cap, cur, hv, hg, (hb g (by rw [hv]; rfl)).trans hh, r⟩
/-- The one block that a slice value owns. -/
def OwnOf (v : Value) : Nat → Prop := fun b => v.ownBlock = some b
theorem owns_lt {w : World} {base : Nat} {e : TypeId} {size : Nat} {v : Value} {n : Nat} {xs : List Value} (h : w.ownsRow base e size v n xs) : ∀ b, OwnOf v b → b < w.heap.size := fun b hb => (h.lt b hb).2
theorem owns_mono {w : World} {base base2 : Nat} {e : TypeId} {sz : Nat} {v : Value} {n : Nat} {xs : List Value} (h : w.ownsRow base e sz v n xs) (hb : base2 ≤ base) : w.ownsRow base2 e sz v n xs := by
  refine ⟨h.1, h.2.imp id ?_⟩
  rintro ⟨g, cap, cur, hv, hg, r⟩
  exact ⟨g, cap, cur, hv, Nat.le_trans hb hg, r⟩
theorem owns_ne {w : World} {base : Nat} {e : TypeId} {size : Nat} {v : Value} {n : Nat} {xs : List Value} (h : w.ownsRow base e size v n xs) {b : Nat} (hb : b < base) : some b ≠ v.ownBlock := fun he => by have := (h.lt b he.symm).1; omega
theorem owns_ge {w : World} {base : Nat} {e : TypeId} {size : Nat} {v : Value} {n : Nat} {xs : List Value} (h : w.ownsRow base e size v n xs) {B : Nat} (hB : B ≤ base) : ∀ k, v.ownBlock = some k → B ≤ k := fun k hk => Nat.le_trans hB (h.lt k hk).1
/-- Over a draw ahead. -/
theorem below_ahead {B : Nat} {a w : World} (h : Below B a.drew w) : Below B a w := ⟨h.os, h.tape, h.output, h.size, h.block⟩
theorem SlAt.nil (B : Nat) (w : World) (sz : Nat) : SlAt B w sz (.slice none 0 0) 0 [] := ⟨by simp, .inl ⟨none, 0, rfl, rfl⟩⟩
/-- Not nil, or nil. -/
theorem SlAt.cases {B : Nat} {w : World} {sz : Nat} {v : Value} {n : Nat} {xs : List Value} (h : SlAt B w sz v n xs) :
    (∃ a c, v = .slice a 0 c ∧ n = 0 ∧ xs = []) ∨ ∃ b o cap, v = .slice (some ⟨b, o, none⟩) n cap ∧ b < B ∧ ∀ i u, xs[i]? = some u → w.cell? ⟨b, o + i, none⟩ = some u := by
  rcases h.2 with ⟨a, c, h1, h2⟩ | h2
  · exact .inl ⟨a, c, h1, h2, List.eq_nil_of_length_eq_zero (by rw [h.1, h2]; simp)⟩
  · exact .inr h2

/-- Pairs of ints as cells. -/
def pcells (gs : List (Int × Int)) : List Value := gs.flatMap fun g => [.int .i64 g.1, .int .i64 g.2]
theorem pcells_length (gs : List (Int × Int)) : (pcells gs).length = gs.length * 2 := by
  induction gs with
  | nil => rfl
  | cons g r ih => simp only [pcells, List.flatMap_cons, List.length_append, List.length_cons, List.length_nil] at ih ⊢; omega
theorem pcells_append (a b : List (Int × Int)) : pcells (a ++ b) = pcells a ++ pcells b := by simp [pcells]
def gF (gs : List (Int × Int)) (i : Nat) : Int := (gs[i]?.getD (0, 0)).1
def gT (gs : List (Int × Int)) (i : Nat) : Int := (gs[i]?.getD (0, 0)).2
theorem pcells_at : ∀ (gs : List (Int × Int)) (i : Nat), i < gs.length → (pcells gs)[i * 2]? = some (.int .i64 (gF gs i)) ∧ (pcells gs)[i * 2 + 1]? = some (.int .i64 (gT gs i)) := by
  intro gs
  induction gs with
  | nil => intro i h; simp at h
  | cons g r ih =>
    intro i h
    cases i with
    | zero => simp [pcells, gF, gT]
    | succ i =>
      have := ih i (by simpa using h)
      have e : pcells (g :: r) = .int .i64 g.1 :: .int .i64 g.2 :: pcells r := rfl
      rw [e, show (i + 1) * 2 = i * 2 + 2 by omega]
      simpa [gF, gT] using this
theorem pcells_one (u : Value) (gs : List (Int × Int)) (h : u ∈ pcells gs) : u.oneCell' = true := by
  simp only [pcells, List.mem_flatMap] at h
  obtain ⟨g, _, hu⟩ := h
  simp at hu
  rcases hu with rfl | rfl <;> rfl
/-- A slice of pairs: its cells by number. -/
theorem SlAt.pairs {B : Nat} {w : World} {v : Value} {gs : List (Int × Int)} (h : SlAt B w 2 v gs.length (pcells gs)) :
    (∃ a c, v = .slice a 0 c ∧ gs = []) ∨ ∃ b o cap, v = .slice (some ⟨b, o, none⟩) gs.length cap ∧ b < B ∧
      ∀ i, i < gs.length → w.cell? ⟨b, o + i * 2, none⟩ = some (.int .i64 (gF gs i)) ∧ w.cell? ⟨b, o + i * 2 + 1, none⟩ = some (.int .i64 (gT gs i)) := by
  rcases h.2 with ⟨a, c, h1, h2⟩ | ⟨b, o, cap, hv, hb, hc⟩
  · exact .inl ⟨a, c, h1, List.eq_nil_of_length_eq_zero h2⟩
  · refine .inr ⟨b, o, cap, hv, hb, fun i hi => ?_⟩
    obtain ⟨h1, h2⟩ := pcells_at gs i hi
    exact ⟨hc _ _ h1, hc _ _ h2⟩

/-- New blocks, one, two or three: where they lie. -/
theorem heap1 (w : World) (o1 : Obj) : (w.alloc o1).heap[w.heap.size]? = some o1 ∧ (w.alloc o1).heap.size = w.heap.size + 1 ∧ Below w.heap.size w (w.alloc o1) :=
  ⟨heap_alloc_new w o1, by simp, (Below.refl _ _).alloc (Nat.le_refl _) _⟩
theorem heap2 (w : World) (o1 o2 : Obj) : ((w.alloc o1).alloc o2).heap[w.heap.size]? = some o1 ∧ ((w.alloc o1).alloc o2).heap[w.heap.size + 1]? = some o2 ∧
    ((w.alloc o1).alloc o2).heap.size = w.heap.size + 2 ∧ Below w.heap.size w ((w.alloc o1).alloc o2) := by
  obtain ⟨a1, a2, a3⟩ := heap1 w o1
  obtain ⟨b1, b2, b3⟩ := heap1 (w.alloc o1) o2
  rw [a2] at b1
  exact ⟨(Below.heap_alloc _ _ _ (by omega)).trans a1, b1, by omega, a3.trans (b3.mono (by omega))⟩
theorem heap3 (w : World) (o1 o2 o3 : Obj) : (((w.alloc o1).alloc o2).alloc o3).heap[w.heap.size]? = some o1 ∧ (((w.alloc o1).alloc o2).alloc o3).heap[w.heap.size + 1]? = some o2 ∧
    (((w.alloc o1).alloc o2).alloc o3).heap[w.heap.size + 2]? = some o3 ∧ (((w.alloc o1).alloc o2).alloc o3).heap.size = w.heap.size + 3 ∧ Below w.heap.size w (((w.alloc o1).alloc o2).alloc o3) := by
  obtain ⟨a1, a2, a3, a4⟩ := heap2 w o1 o2
  obtain ⟨b1, b2, b3⟩ := heap1 ((w.alloc o1).alloc o2) o3
  rw [a3] at b1
  exact ⟨(Below.heap_alloc _ _ _ (by omega)).trans a1, (Below.heap_alloc _ _ _ (by omega)).trans a2, b1, by omega, a4.trans (b3.mono (by omega))⟩
/-- The cells of a block that is known whole. -/
theorem cell_blk {w : World} {b : Nat} {cs : Array Value} {t : TypeId} (h : w.heap[b]? = some (.cells cs t (0, 0))) (o : Nat) : w.cell? ⟨b, o, none⟩ = cs[o]? := by simp [World.cell?, h]
theorem froz_blk {w : World} {b : Nat} {cs : Array Value} {t : TypeId} (h : w.heap[b]? = some (.cells cs t (0, 0))) (o : Nat) : w.frozen? ⟨b, o, none⟩ = false := by simp [World.frozen?, h]
theorem lt_blk {w : World} {b : Nat} {o : Obj} (h : w.heap[b]? = some o) : b < w.heap.size := (Array.getElem?_eq_some_iff.1 h).1
theorem below_blk {B : Nat} {w w2 : World} (hb : Below B w w2) {b : Nat} {o : Obj} (h : w.heap[b]? = some o) (hl : b < B) : w2.heap[b]? = some o := (hb.block b hl).trans h
theorem below_left {n B : Nat} {w w1 w2 : World} (h : Below n w w1) (h2 : Below B w1 w2) (hn : n ≤ B) : Below n w w2 := h.trans (h2.mono hn)
end Go.KP
