/-
  Texts of the integers, laid together: ShelfA, ShelfB, Gen, Loop, Gen2.
-/
import Derived.Shelf.Strings.Builder1
import Derived.Shelf.Strings.Builder2
import Derived.Shelf.Strings.Trim
import Derived.Shelf.Small.Utf8
import Derived.Shelf.Small.Bits
import Derived.Shelf.Small.Strs
import Derived.Shelf.Small.Wraps
import Derived.Shelf.Strings.BuilderF
import Derived.Shelf.Strings.BuilderK
import Derived.Shelf.Strings.Builder2Cap
import Derived.Shelf.Strconv.Atoi
import Derived.Shelf.Strconv.Itoa0
import Derived.Shelf.Strconv.Itoa1
import Derived.Shelf.LaysM
import Derived.Shelf.Strconv.Itoa2
import Derived.Shelf.Strconv.Itoa3
import Derived.Shelf.Strconv.AtoiErrFast
import Derived.Shelf.Strconv.ParseIntEmpty
import Derived.Shelf.Strconv.AtoiFail
import Derived.Shelf.Strconv.Clone
import Derived.Shelf.Strconv.SyntaxError
import Derived.Shelf.LaysC
import Derived.Shelf.Strconv.ToError
import Derived.Shelf.Strconv.Lower
import Derived.Shelf.Strconv.ParseUint10
import Derived.Shelf.Strconv.ParseUint10Empty
import Derived.Shelf.Strconv.ParseUint10Any
import Derived.Shelf.Strconv.ParseInt10
import Derived.Shelf.Strconv.AtoiLong
import Derived.Shelf.Strconv.AtoiInnerAll
import Derived.Shelf.Strconv.RangeError
import Derived.Shelf.Strconv.ToErrorRange
import Derived.Shelf.Strconv.AtoiAll
import Derived.Shelf.Strconv.ErrVarAll
import Derived.Shelf.Strconv.ParseUintEmpty
import Derived.Shelf.Strconv.ParseUint10b64
import Derived.Shelf.Strconv.ParseUint10b32
import Derived.Shelf.Strconv.ParseUint10b16
import Derived.Shelf.Strconv.ParseUint10b8
import Derived.Shelf.Strings.Search1
import Derived.Shelf.Strings.Search2
import Derived.Shelf.Strings.Search3
import Derived.Shelf.Strings.Cut
import Derived.Shelf.Strings.Shaped
import Derived.Shelf.Strings.Prefix
import Derived.Shelf.Unicode.Decode
import Derived.Shelf.Strings.Runes
import Derived.Shelf.Strings.AsciiSet
import Derived.Shelf.Bits.Mul64
import Derived.Shelf.Strings.Repeat
import Derived.Shelf.Unicode.DecodeSlow
import Derived.Shelf.Unicode.DecodeAny
import Derived.Shelf.Unicode.DecodeLast
import Derived.Ground.Names2Prog
import Derived.Shelf.Slices.SearchI
import Derived.Test.YtbfojhneajedmaaGreatDoorProg
import Derived.WalkKit
import Derived.WalkSpells
import Derived.Deep.Draws
import Derived.RangeFuncNested
import Derived.RangeFuncBound
import Derived.RangeFuncCalls
import Derived.RangeFuncLeaves
import Derived.OwnWalkIn
import Derived.TacticsInMore
import Derived.LoopNIn
import Derived.LoopIn
import Derived.Deep.AppendLies
import Derived.Deep.QuietTactic
import Derived.BigQuiet
namespace Go.Proofs
open Go.Shelf
def Tryz.lays170_ren : Go.Shelf.Ren := ⟨fun | 170 => 282 | n => n, fun | 70 => 257 | 3 => 3 | 0 => 0 | 72 => 259 | 37 => 77 | 5 => 5 | n => n, fun | n => n⟩
theorem Tryz.lays170 : Go.Proofs.Lays.n170 Tryz.prog Tryz.lays170_ren := {
  mixed := by kernel_rfl
  f170 := Tryz.func282.trans (congrArg some (by kernel_rfl))
  t0 := Tryz.underlying0
  a0 := Tryz.isAgg0
  z0 := Tryz.sizeOf0
  v0 := Tryz.zeroValue0
  t3 := Tryz.underlying3
  a3 := Tryz.isAgg3
  z3 := Tryz.sizeOf3
  v3 := Tryz.zeroValue3
  t37 := Tryz.underlying77
  a37 := Tryz.isAgg77
  z37 := Tryz.sizeOf77
  v37 := Tryz.zeroValue77
  t70 := Tryz.underlying257
  a70 := Tryz.isAgg257
  z70 := Tryz.sizeOf257
  v70 := Tryz.zeroValue257
  t72 := Tryz.underlying259
  a72 := Tryz.isAgg259
  z72 := Tryz.sizeOf259
  v72 := Tryz.zeroValue259 }
open Go.RowKit in
/-- (*strings.Builder).Len: "Len returns the number of accumulated bytes; b.Len() == len(b.String()).": the world is as it was. (LAID: no walk: one application.) -/
theorem Tryz.Builder_Len (B b : Nat) (bs : List Value) (w : World) (h : Lib.IsBuilder 259 5 B b bs w) :
    Calls Tryz.prog 282 #[.pointer (some ⟨b, 0, none⟩)] w fun e w' => e = .returned (.int .i64 bs.length) ∧ w' = w := Any.Builder_Len Tryz.lays170 B b bs w h
def Tryz.lays169_ren : Go.Shelf.Ren := ⟨fun | 169 => 238 | n => n, fun | 70 => 257 | 9 => 9 | 0 => 0 | 72 => 259 | 37 => 77 | 127 => 296 | 3 => 3 | 5 => 5 | n => n, fun | n => n⟩
theorem Tryz.lays169 : Go.Proofs.Lays.n169 Tryz.prog Tryz.lays169_ren := {
  mixed := by kernel_rfl
  f169 := Tryz.func238.trans (congrArg some (by kernel_rfl))
  t0 := Tryz.underlying0
  a0 := Tryz.isAgg0
  z0 := Tryz.sizeOf0
  v0 := Tryz.zeroValue0
  t3 := Tryz.underlying3
  a3 := Tryz.isAgg3
  z3 := Tryz.sizeOf3
  v3 := Tryz.zeroValue3
  t9 := Tryz.underlying9
  a9 := Tryz.isAgg9
  z9 := Tryz.sizeOf9
  v9 := Tryz.zeroValue9
  t37 := Tryz.underlying77
  a37 := Tryz.isAgg77
  z37 := Tryz.sizeOf77
  v37 := Tryz.zeroValue77
  t70 := Tryz.underlying257
  a70 := Tryz.isAgg257
  z70 := Tryz.sizeOf257
  v70 := Tryz.zeroValue257
  t72 := Tryz.underlying259
  a72 := Tryz.isAgg259
  z72 := Tryz.sizeOf259
  v72 := Tryz.zeroValue259
  t127 := Tryz.underlying296
  a127 := Tryz.isAgg296
  z127 := Tryz.sizeOf296
  v127 := Tryz.zeroValue296 }
theorem Tryz.Builder_Extra_169 : Builder.Extra Tryz.prog Tryz.lays169_ren := {
  sizeBuilder := by kernel_rfl
  liesBuilder := by kernel_rfl
  t5 := Tryz.underlying5
  a5 := Tryz.isAgg5
  z5 := Tryz.sizeOf5
  v5 := Tryz.zeroValue5
  infoByte := by kernel_rfl
  cellsByte := by kernel_rfl
  sizeByte := by kernel_rfl
  neB5 := by decide }
open Go.RowKit in
/-- (*strings.Builder).String: "String returns the accumulated string.": WHATEVER THE BUILDER HOLDS. (LAID: no walk: one application.) -/
theorem Tryz.Builder_String_any (B b : Nat) (l : List UInt8) (w : World) (h : Lib.IsBuilder 259 5 B b (Lib.byteCells l) w) (hBw : B ≤ w.heap.size) :
    Calls Tryz.prog 238 #[.pointer (some ⟨b, 0, none⟩)] w fun e w' => e = .returned (.string ⟨l.toArray⟩) ∧ Below B w w' := Any.Builder_String_any Tryz.lays169 Tryz.Builder_Extra_169 B b l w h hBw
def Tryz.lays160_ren : Go.Shelf.Ren := ⟨fun | 160 => 230 | 232 => 263 | 231 => 262 | 227 => 264 | 234 => 266 | 233 => 265 | 236 => 268 | 235 => 267 | 228 => 286 | 271 => 289 | 151 => 288 | 197 => 287 | 120 => 307 | 152 => 306 | 260 => 305 | 137 => 315 | 119 => 316 | 224 => 303 | 225 => 302 | 217 => 301 | 266 => 313 | n => n, fun | 9 => 9 | 4 => 4 | 3 => 3 | 5 => 5 | 117 => 276 | 116 => 275 | 0 => 0 | 124 => 279 | 21 => 21 | 105 => 300 | 46 => 271 | 119 => 325 | 139 => 328 | 138 => 327 | n => n, fun | 3 => 5 | 4 => 6 | n => n⟩
theorem Tryz.lays160 : Go.Proofs.Lays.n160 Tryz.prog Tryz.lays160_ren := {
  mixed := by kernel_rfl
  f119 := Tryz.func316.trans (congrArg some (by kernel_rfl))
  f120 := Tryz.func307.trans (congrArg some (by kernel_rfl))
  f137 := Tryz.func315.trans (congrArg some (by kernel_rfl))
  f151 := Tryz.func288.trans (congrArg some (by kernel_rfl))
  f152 := Tryz.func306.trans (congrArg some (by kernel_rfl))
  f160 := Tryz.func230.trans (congrArg some (by kernel_rfl))
  f197 := Tryz.func287.trans (congrArg some (by kernel_rfl))
  f217 := Tryz.func301.trans (congrArg some (by kernel_rfl))
  f224 := Tryz.func303.trans (congrArg some (by kernel_rfl))
  f225 := Tryz.func302.trans (congrArg some (by kernel_rfl))
  f227 := Tryz.func264.trans (congrArg some (by kernel_rfl))
  f228 := Tryz.func286.trans (congrArg some (by kernel_rfl))
  f231 := Tryz.func262.trans (congrArg some (by kernel_rfl))
  f232 := Tryz.func263.trans (congrArg some (by kernel_rfl))
  f233 := Tryz.func265.trans (congrArg some (by kernel_rfl))
  f234 := Tryz.func266.trans (congrArg some (by kernel_rfl))
  f235 := Tryz.func267.trans (congrArg some (by kernel_rfl))
  f236 := Tryz.func268.trans (congrArg some (by kernel_rfl))
  f260 := Tryz.func305.trans (congrArg some (by kernel_rfl))
  f266 := Tryz.func313.trans (congrArg some (by kernel_rfl))
  f271 := Tryz.func289.trans (congrArg some (by kernel_rfl))
  t0 := Tryz.underlying0
  a0 := Tryz.isAgg0
  z0 := Tryz.sizeOf0
  v0 := Tryz.zeroValue0
  t3 := Tryz.underlying3
  a3 := Tryz.isAgg3
  z3 := Tryz.sizeOf3
  v3 := Tryz.zeroValue3
  t4 := Tryz.underlying4
  a4 := Tryz.isAgg4
  z4 := Tryz.sizeOf4
  v4 := Tryz.zeroValue4
  t5 := Tryz.underlying5
  a5 := Tryz.isAgg5
  z5 := Tryz.sizeOf5
  v5 := Tryz.zeroValue5
  t9 := Tryz.underlying9
  a9 := Tryz.isAgg9
  z9 := Tryz.sizeOf9
  v9 := Tryz.zeroValue9
  t21 := Tryz.underlying21
  a21 := Tryz.isAgg21
  z21 := Tryz.sizeOf21
  v21 := Tryz.zeroValue21
  t46 := Tryz.underlying271
  a46 := Tryz.isAgg271
  z46 := Tryz.sizeOf271
  v46 := Tryz.zeroValue271
  t105 := Tryz.underlying300
  a105 := Tryz.isAgg300
  z105 := Tryz.sizeOf300
  v105 := Tryz.zeroValue300
  t116 := Tryz.underlying275
  a116 := Tryz.isAgg275
  z116 := Tryz.sizeOf275
  t117 := Tryz.underlying276
  a117 := Tryz.isAgg276
  z117 := Tryz.sizeOf276
  v117 := Tryz.zeroValue276
  t119 := Tryz.underlying325
  a119 := Tryz.isAgg325
  z119 := Tryz.sizeOf325
  t124 := Tryz.underlying279
  a124 := Tryz.isAgg279
  z124 := Tryz.sizeOf279
  v124 := Tryz.zeroValue279
  t138 := Tryz.underlying327
  a138 := Tryz.isAgg327
  z138 := Tryz.sizeOf327
  v138 := Tryz.zeroValue327
  t139 := Tryz.underlying328
  a139 := Tryz.isAgg328
  z139 := Tryz.sizeOf328
  v139 := Tryz.zeroValue328
  g3 := by kernel_rfl
  g4 := by kernel_rfl }
open Go.RowKit in
/-- strings.Trim: "Trim returns a slice of the string s with all leading and trailing Unicode code points contained in cutset removed.": AT A cutset OF ONE ASCII BYTE. THE WORLD BEHIND IT: as it was, or (where s is not empty) with ONE DRAW MORE off the tape: the statement 'return trimLeftByte(trimRightByte(s, c), c)' draws its order of evaluation. (LAID: no walk: one application.) -/
theorem Tryz.strings_Trim_one (s : ByteArray) (c : UInt8) (hc : c.toNat < 128) (w : World) (hs : s.size ≤ 9223372036854775807) :
    Calls Tryz.prog 230 #[.string s, .string ⟨#[c]⟩] w fun e w' => e = .returned (.string ⟨(Lib.trimB s.data.toList c).toArray⟩) ∧ (w' = w ∨ w' = w.drew) := Any.strings_Trim_one Tryz.lays160 s c hc w hs
def Tryz.lays125_ren : Go.Shelf.Ren := ⟨fun | 125 => 245 | 128 => 283 | 129 => 284 | n => n, fun | 46 => 271 | 3 => 3 | 51 => 298 | 53 => 287 | 4 => 4 | 5 => 5 | 9 => 9 | n => n, fun | n => n⟩
theorem Tryz.lays125 : Go.Proofs.Lays.n125 Tryz.prog Tryz.lays125_ren := {
  mixed := by kernel_rfl
  f125 := Tryz.func245.trans (congrArg some (by kernel_rfl))
  f128 := Tryz.func283.trans (congrArg some (by kernel_rfl))
  f129 := Tryz.func284.trans (congrArg some (by kernel_rfl))
  t3 := Tryz.underlying3
  a3 := Tryz.isAgg3
  z3 := Tryz.sizeOf3
  v3 := Tryz.zeroValue3
  t4 := Tryz.underlying4
  a4 := Tryz.isAgg4
  z4 := Tryz.sizeOf4
  v4 := Tryz.zeroValue4
  t5 := Tryz.underlying5
  a5 := Tryz.isAgg5
  z5 := Tryz.sizeOf5
  v5 := Tryz.zeroValue5
  t9 := Tryz.underlying9
  a9 := Tryz.isAgg9
  z9 := Tryz.sizeOf9
  v9 := Tryz.zeroValue9
  t46 := Tryz.underlying271
  a46 := Tryz.isAgg271
  z46 := Tryz.sizeOf271
  v46 := Tryz.zeroValue271
  t51 := Tryz.underlying298
  a51 := Tryz.isAgg298
  z51 := Tryz.sizeOf298
  v51 := Tryz.zeroValue298
  t53 := Tryz.underlying287
  a53 := Tryz.isAgg287
  z53 := Tryz.sizeOf287
  v53 := Tryz.zeroValue287 }
/-- bits.Len: "Len returns the minimum number of bits required to represent x; the result is 0 for x == 0.": IT RETURNS 'Lib.bitLen x'; the world is as it was. (A uint has 64 bits in the model.) ITS CALLEE bits.Len64 IS MET BY ITS OWN CONTRACT OFF THE SHELF (lay that first). (LAID: no walk: one application.) -/
theorem Tryz.bits_Len (x : Int) (w : World) (h0 : 0 ≤ x) (h1 : x ≤ 18446744073709551615) :
    Calls Tryz.prog 245 #[.int .u64 x] w fun e w' => e = .returned (.int .i64 (Lib.bitLen x.toNat)) ∧ w' = w := Any.bits_Len Tryz.lays125 x w h0 h1
def Tryz.lays103_ren : Go.Shelf.Ren := ⟨fun | 103 => 194 | 210 => 239 | 206 => 198 | n => n, fun | 9 => 9 | 4 => 4 | 24 => 196 | 3 => 3 | n => n, fun | n => n⟩
theorem Tryz.lays103 : Go.Proofs.Lays.n103 Tryz.prog Tryz.lays103_ren := {
  mixed := by kernel_rfl
  f103 := Tryz.func194.trans (congrArg some (by kernel_rfl))
  f206 := Tryz.func198.trans (congrArg some (by kernel_rfl))
  f210 := Tryz.func239.trans (congrArg some (by kernel_rfl))
  t3 := Tryz.underlying3
  a3 := Tryz.isAgg3
  z3 := Tryz.sizeOf3
  v3 := Tryz.zeroValue3
  t4 := Tryz.underlying4
  a4 := Tryz.isAgg4
  z4 := Tryz.sizeOf4
  v4 := Tryz.zeroValue4
  t9 := Tryz.underlying9
  a9 := Tryz.isAgg9
  z9 := Tryz.sizeOf9
  v9 := Tryz.zeroValue9
  t24 := Tryz.underlying196
  a24 := Tryz.isAgg196
  z24 := Tryz.sizeOf196
  v24 := Tryz.zeroValue196 }
open Go.RowKit in
/-- strings.CutPrefix: "CutPrefix returns s without the provided leading prefix string and reports whether it found the prefix. If s doesn't start with prefix, CutPrefix returns s, false. If prefix is the empty string, CutPrefix returns s, true.": IT RETURNS '(Lib.trimPrefix s p, Lib.hasPrefix s p)'; the world is as it was. (LAID: no walk: one application.) -/
theorem Tryz.strings_CutPrefix (s p : ByteArray) (w : World) :
    Calls Tryz.prog 194 #[.string s, .string p] w fun e w' => e = .returned (.tuple #[.string ⟨(Lib.trimPrefix s.data.toList p.data.toList).toArray⟩, .bool (Lib.hasPrefix s.data.toList p.data.toList)]) ∧ w' = w := Any.strings_CutPrefix Tryz.lays103 s p w
def Tryz.lays122_ren : Go.Shelf.Ren := ⟨fun | 122 => 111 | 215 => 178 | n => n, fun | 3 => 3 | 4 => 4 | n => n, fun | n => n⟩
theorem Tryz.lays122 : Go.Proofs.Lays.n122 Tryz.prog Tryz.lays122_ren := {
  mixed := by kernel_rfl
  f122 := Tryz.func111.trans (congrArg some (by kernel_rfl))
  f215 := Tryz.func178.trans (congrArg some (by kernel_rfl))
  t3 := Tryz.underlying3
  a3 := Tryz.isAgg3
  z3 := Tryz.sizeOf3
  v3 := Tryz.zeroValue3
  t4 := Tryz.underlying4
  a4 := Tryz.isAgg4
  z4 := Tryz.sizeOf4
  v4 := Tryz.zeroValue4 }
open Go.RowKit in
/-- cmp.Compare at int: "Compare returns -1 if x is less than y, 0 if x equals y, +1 if x is greater than y.": IT RETURNS 'Lib.compareInt x y'; the world is as it was. (LAID: no walk: one application.) -/
theorem Tryz.cmp_Compare_int (x y : Int) (w : World) :
    Calls Tryz.prog 111 #[.int .i64 x, .int .i64 y] w fun e w' => e = .returned (.int .i64 (Lib.compareInt x y)) ∧ w' = w := Any.cmp_Compare_int Tryz.lays122 x y w
def Tryz.laysM171_ren : Go.Shelf.Ren := ⟨fun | 171 => 131 | 243 => 188 | 246 => 233 | 283 => 274 | 284 => 275 | 285 => 276 | 286 => 277 | 129 => 284 | 317 => 293 | 318 => 294 | 319 => 295 | 320 => 296 | 337 => 310 | 338 => 311 | n => n, fun | 3 => 3 | 9 => 9 | 2 => 2 | 4 => 4 | 171 => 286 | 0 => 0 | 53 => 287 | 37 => 77 | 5 => 5 | 173 => 290 | 212 => 309 | 51 => 298 | 20 => 20 | 213 => 310 | 46 => 271 | 232 => 330 | 233 => 331 | n => n, fun | 17 => 3 | 18 => 7 | 19 => 8 | n => n⟩
theorem Tryz.laysM171 : Go.Proofs.LaysM.n171 Tryz.prog Tryz.laysM171_ren := {
  mixed := by kernel_rfl
  f129 := Tryz.func284.trans (congrArg some (by kernel_rfl))
  f171 := Tryz.func131.trans (congrArg some (by kernel_rfl))
  f243 := Tryz.func188.trans (congrArg some (by kernel_rfl))
  f246 := Tryz.func233.trans (congrArg some (by kernel_rfl))
  f283 := Tryz.func274.trans (congrArg some (by kernel_rfl))
  f284 := Tryz.func275.trans (congrArg some (by kernel_rfl))
  f285 := Tryz.func276.trans (congrArg some (by kernel_rfl))
  f286 := Tryz.func277.trans (congrArg some (by kernel_rfl))
  f317 := Tryz.func293.trans (congrArg some (by kernel_rfl))
  f318 := Tryz.func294.trans (congrArg some (by kernel_rfl))
  f319 := Tryz.func295.trans (congrArg some (by kernel_rfl))
  f320 := Tryz.func296.trans (congrArg some (by kernel_rfl))
  f337 := Tryz.func310.trans (congrArg some (by kernel_rfl))
  f338 := Tryz.func311.trans (congrArg some (by kernel_rfl))
  t0 := Tryz.underlying0
  a0 := Tryz.isAgg0
  z0 := Tryz.sizeOf0
  v0 := Tryz.zeroValue0
  t2 := Tryz.underlying2
  a2 := Tryz.isAgg2
  z2 := Tryz.sizeOf2
  v2 := Tryz.zeroValue2
  t3 := Tryz.underlying3
  a3 := Tryz.isAgg3
  z3 := Tryz.sizeOf3
  v3 := Tryz.zeroValue3
  t4 := Tryz.underlying4
  a4 := Tryz.isAgg4
  z4 := Tryz.sizeOf4
  v4 := Tryz.zeroValue4
  t5 := Tryz.underlying5
  a5 := Tryz.isAgg5
  z5 := Tryz.sizeOf5
  v5 := Tryz.zeroValue5
  t9 := Tryz.underlying9
  a9 := Tryz.isAgg9
  z9 := Tryz.sizeOf9
  v9 := Tryz.zeroValue9
  t20 := Tryz.underlying20
  a20 := Tryz.isAgg20
  z20 := Tryz.sizeOf20
  v20 := Tryz.zeroValue20
  t37 := Tryz.underlying77
  a37 := Tryz.isAgg77
  z37 := Tryz.sizeOf77
  v37 := Tryz.zeroValue77
  t46 := Tryz.underlying271
  a46 := Tryz.isAgg271
  z46 := Tryz.sizeOf271
  v46 := Tryz.zeroValue271
  t51 := Tryz.underlying298
  a51 := Tryz.isAgg298
  z51 := Tryz.sizeOf298
  v51 := Tryz.zeroValue298
  t53 := Tryz.underlying287
  a53 := Tryz.isAgg287
  z53 := Tryz.sizeOf287
  v53 := Tryz.zeroValue287
  t171 := Tryz.underlying286
  a171 := Tryz.isAgg286
  z171 := Tryz.sizeOf286
  v171 := Tryz.zeroValue286
  t173 := Tryz.underlying290
  a173 := Tryz.isAgg290
  z173 := Tryz.sizeOf290
  v173 := Tryz.zeroValue290
  t212 := Tryz.underlying309
  a212 := Tryz.isAgg309
  z212 := Tryz.sizeOf309
  v212 := Tryz.zeroValue309
  t213 := Tryz.underlying310
  a213 := Tryz.isAgg310
  z213 := Tryz.sizeOf310
  t232 := Tryz.underlying330
  a232 := Tryz.isAgg330
  z232 := Tryz.sizeOf330
  v232 := Tryz.zeroValue330
  t233 := Tryz.underlying331
  a233 := Tryz.isAgg331
  z233 := Tryz.sizeOf331
  v233 := Tryz.zeroValue331
  g17 := by kernel_rfl
  g18 := by kernel_rfl
  g19 := by kernel_rfl
  i0 := by kernel_rfl
  i2 := by kernel_rfl
  i3 := by kernel_rfl
  i4 := by kernel_rfl
  i5 := by kernel_rfl
  i9 := by kernel_rfl
  i20 := by kernel_rfl
  i37 := by kernel_rfl
  i46 := by kernel_rfl
  i51 := by kernel_rfl
  i53 := by kernel_rfl
  i171 := by kernel_rfl
  i173 := by kernel_rfl
  i212 := by kernel_rfl
  i232 := by kernel_rfl
  i233 := by kernel_rfl
  m17 := by kernel_rfl
  m18 := by kernel_rfl
  m19 := by kernel_rfl }
open Go.RowKit Go.Sort Go.Lib in
/-- strconv.Itoa: "Itoa is equivalent to FormatInt(int64(i), 10).": i's DECIMAL NUMERAL ('Lib.itoa': a '-' where i is negative, then the digits), FOR EVERY int. The world behind the call: the world before it, new blocks behind the heap (the library's 'var a [24]byte'), draws. (LAID: no walk: one application.) -/
theorem Tryz.strconv_Itoa (n : Int) (h0 : -9223372036854775808 ≤ n) (h1 : n ≤ 9223372036854775807) (w : World) (htab : Lib.TabIs Tryz.prog w "internal/strconv.uint64pow10" .u64 Lib.pow10Tab) :
    Calls Tryz.prog 131 #[.int .i64 n] w fun e w' => e = .returned (.string ⟨(Lib.itoa n).toArray⟩) ∧ ∃ k os, w' = grow (w.drewN k) os := Any.strconv_Itoa Tryz.laysM171 n h0 h1 w htab
def Tryz.lays171_ren : Go.Shelf.Ren := ⟨fun | 171 => 131 | 243 => 188 | 246 => 233 | 283 => 274 | 284 => 275 | 285 => 276 | 286 => 277 | 129 => 284 | 317 => 293 | 318 => 294 | 319 => 295 | 320 => 296 | 337 => 310 | 338 => 311 | n => n, fun | 3 => 3 | 9 => 9 | 2 => 2 | 4 => 4 | 171 => 286 | 0 => 0 | 53 => 287 | 37 => 77 | 5 => 5 | 173 => 290 | 212 => 309 | 51 => 298 | 20 => 20 | 213 => 310 | 46 => 271 | 232 => 330 | 233 => 331 | n => n, fun | 17 => 3 | 18 => 7 | 19 => 8 | n => n⟩
theorem Tryz.lays171 : Go.Proofs.Lays.n171 Tryz.prog Tryz.lays171_ren := {
  mixed := by kernel_rfl
  f129 := Tryz.func284.trans (congrArg some (by kernel_rfl))
  f171 := Tryz.func131.trans (congrArg some (by kernel_rfl))
  f243 := Tryz.func188.trans (congrArg some (by kernel_rfl))
  f246 := Tryz.func233.trans (congrArg some (by kernel_rfl))
  f283 := Tryz.func274.trans (congrArg some (by kernel_rfl))
  f284 := Tryz.func275.trans (congrArg some (by kernel_rfl))
  f285 := Tryz.func276.trans (congrArg some (by kernel_rfl))
  f286 := Tryz.func277.trans (congrArg some (by kernel_rfl))
  f317 := Tryz.func293.trans (congrArg some (by kernel_rfl))
  f318 := Tryz.func294.trans (congrArg some (by kernel_rfl))
  f319 := Tryz.func295.trans (congrArg some (by kernel_rfl))
  f320 := Tryz.func296.trans (congrArg some (by kernel_rfl))
  f337 := Tryz.func310.trans (congrArg some (by kernel_rfl))
  f338 := Tryz.func311.trans (congrArg some (by kernel_rfl))
  t0 := Tryz.underlying0
  a0 := Tryz.isAgg0
  z0 := Tryz.sizeOf0
  v0 := Tryz.zeroValue0
  t2 := Tryz.underlying2
  a2 := Tryz.isAgg2
  z2 := Tryz.sizeOf2
  v2 := Tryz.zeroValue2
  t3 := Tryz.underlying3
  a3 := Tryz.isAgg3
  z3 := Tryz.sizeOf3
  v3 := Tryz.zeroValue3
  t4 := Tryz.underlying4
  a4 := Tryz.isAgg4
  z4 := Tryz.sizeOf4
  v4 := Tryz.zeroValue4
  t5 := Tryz.underlying5
  a5 := Tryz.isAgg5
  z5 := Tryz.sizeOf5
  v5 := Tryz.zeroValue5
  t9 := Tryz.underlying9
  a9 := Tryz.isAgg9
  z9 := Tryz.sizeOf9
  v9 := Tryz.zeroValue9
  t20 := Tryz.underlying20
  a20 := Tryz.isAgg20
  z20 := Tryz.sizeOf20
  v20 := Tryz.zeroValue20
  t37 := Tryz.underlying77
  a37 := Tryz.isAgg77
  z37 := Tryz.sizeOf77
  v37 := Tryz.zeroValue77
  t46 := Tryz.underlying271
  a46 := Tryz.isAgg271
  z46 := Tryz.sizeOf271
  v46 := Tryz.zeroValue271
  t51 := Tryz.underlying298
  a51 := Tryz.isAgg298
  z51 := Tryz.sizeOf298
  v51 := Tryz.zeroValue298
  t53 := Tryz.underlying287
  a53 := Tryz.isAgg287
  z53 := Tryz.sizeOf287
  v53 := Tryz.zeroValue287
  t171 := Tryz.underlying286
  a171 := Tryz.isAgg286
  z171 := Tryz.sizeOf286
  v171 := Tryz.zeroValue286
  t173 := Tryz.underlying290
  a173 := Tryz.isAgg290
  z173 := Tryz.sizeOf290
  v173 := Tryz.zeroValue290
  t212 := Tryz.underlying309
  a212 := Tryz.isAgg309
  z212 := Tryz.sizeOf309
  v212 := Tryz.zeroValue309
  t213 := Tryz.underlying310
  a213 := Tryz.isAgg310
  z213 := Tryz.sizeOf310
  t232 := Tryz.underlying330
  a232 := Tryz.isAgg330
  z232 := Tryz.sizeOf330
  v232 := Tryz.zeroValue330
  t233 := Tryz.underlying331
  a233 := Tryz.isAgg331
  z233 := Tryz.sizeOf331
  v233 := Tryz.zeroValue331
  g17 := by kernel_rfl
  g18 := by kernel_rfl
  g19 := by kernel_rfl }
open Go.RowKit Go.Sort Go.Lib in
/-- THE ROAD WITHOUT THE TABLE: 0 <= i < 100: NO PREMISE ON THE WORLD, AND THE WORLD IS AS IT WAS: a row that keeps its argument in that range need list no table ('laid = []'). (LAID: no walk: one application.) -/
theorem Tryz.strconv_Itoa_small (i : Nat) (hi : i < 100) (w : World) :
    Calls Tryz.prog 131 #[.int .i64 i] w fun e w' => e = .returned (.string ⟨(Lib.decDigits i).toArray⟩) ∧ w' = w := Any.strconv_Itoa_small Tryz.lays171 i hi w
def Tryz.laysC172_ren : Go.Shelf.Ren := ⟨fun | 172 => 187 | 244 => 231 | 245 => 232 | 247 => 269 | 279 => 270 | 280 => 271 | 281 => 272 | 282 => 273 | 287 => 290 | 316 => 291 | 171 => 131 | 205 => 292 | 321 => 308 | 322 => 309 | 243 => 188 | 246 => 233 | 283 => 274 | 284 => 275 | 285 => 276 | 286 => 277 | 129 => 284 | 317 => 293 | 318 => 294 | 319 => 295 | 320 => 296 | 337 => 310 | 338 => 311 | n => n, fun | 9 => 9 | 3 => 3 | 75 => 222 | 76 => 223 | 4 => 4 | 5 => 5 | 167 => 280 | 37 => 77 | 0 => 0 | 85 => 281 | 2 => 2 | 168 => 283 | 53 => 287 | 175 => 303 | 46 => 271 | 210 => 306 | 127 => 296 | 145 => 322 | 143 => 320 | 21 => 21 | 171 => 286 | 173 => 290 | 212 => 309 | 51 => 298 | 20 => 20 | 213 => 310 | 232 => 330 | 233 => 331 | 80 => 263 | n => n, fun | 15 => 1 | 16 => 2 | 17 => 3 | 18 => 7 | 19 => 8 | n => n⟩
theorem Tryz.laysC172 : Go.Proofs.LaysC.n172 Tryz.prog Tryz.laysC172_ren := {
  mixed := by kernel_rfl
  f129 := Tryz.func284.trans (congrArg some (by kernel_rfl))
  f171 := Tryz.func131.trans (congrArg some (by kernel_rfl))
  f172 := Tryz.func187.trans (congrArg some (by kernel_rfl))
  f205 := Tryz.func292.trans (congrArg some (by kernel_rfl))
  f243 := Tryz.func188.trans (congrArg some (by kernel_rfl))
  f244 := Tryz.func231.trans (congrArg some (by kernel_rfl))
  f245 := Tryz.func232.trans (congrArg some (by kernel_rfl))
  f246 := Tryz.func233.trans (congrArg some (by kernel_rfl))
  f247 := Tryz.func269.trans (congrArg some (by kernel_rfl))
  f279 := Tryz.func270.trans (congrArg some (by kernel_rfl))
  f280 := Tryz.func271.trans (congrArg some (by kernel_rfl))
  f281 := Tryz.func272.trans (congrArg some (by kernel_rfl))
  f282 := Tryz.func273.trans (congrArg some (by kernel_rfl))
  f283 := Tryz.func274.trans (congrArg some (by kernel_rfl))
  f284 := Tryz.func275.trans (congrArg some (by kernel_rfl))
  f285 := Tryz.func276.trans (congrArg some (by kernel_rfl))
  f286 := Tryz.func277.trans (congrArg some (by kernel_rfl))
  f287 := Tryz.func290.trans (congrArg some (by kernel_rfl))
  f316 := Tryz.func291.trans (congrArg some (by kernel_rfl))
  f317 := Tryz.func293.trans (congrArg some (by kernel_rfl))
  f318 := Tryz.func294.trans (congrArg some (by kernel_rfl))
  f319 := Tryz.func295.trans (congrArg some (by kernel_rfl))
  f320 := Tryz.func296.trans (congrArg some (by kernel_rfl))
  f321 := Tryz.func308.trans (congrArg some (by kernel_rfl))
  f322 := Tryz.func309.trans (congrArg some (by kernel_rfl))
  f337 := Tryz.func310.trans (congrArg some (by kernel_rfl))
  f338 := Tryz.func311.trans (congrArg some (by kernel_rfl))
  t0 := Tryz.underlying0
  a0 := Tryz.isAgg0
  z0 := Tryz.sizeOf0
  v0 := Tryz.zeroValue0
  t2 := Tryz.underlying2
  a2 := Tryz.isAgg2
  z2 := Tryz.sizeOf2
  v2 := Tryz.zeroValue2
  t3 := Tryz.underlying3
  a3 := Tryz.isAgg3
  z3 := Tryz.sizeOf3
  v3 := Tryz.zeroValue3
  t4 := Tryz.underlying4
  a4 := Tryz.isAgg4
  z4 := Tryz.sizeOf4
  v4 := Tryz.zeroValue4
  t5 := Tryz.underlying5
  a5 := Tryz.isAgg5
  z5 := Tryz.sizeOf5
  v5 := Tryz.zeroValue5
  t9 := Tryz.underlying9
  a9 := Tryz.isAgg9
  z9 := Tryz.sizeOf9
  v9 := Tryz.zeroValue9
  t20 := Tryz.underlying20
  a20 := Tryz.isAgg20
  z20 := Tryz.sizeOf20
  v20 := Tryz.zeroValue20
  t21 := Tryz.underlying21
  a21 := Tryz.isAgg21
  z21 := Tryz.sizeOf21
  v21 := Tryz.zeroValue21
  t37 := Tryz.underlying77
  a37 := Tryz.isAgg77
  z37 := Tryz.sizeOf77
  v37 := Tryz.zeroValue77
  t46 := Tryz.underlying271
  a46 := Tryz.isAgg271
  z46 := Tryz.sizeOf271
  v46 := Tryz.zeroValue271
  t51 := Tryz.underlying298
  a51 := Tryz.isAgg298
  z51 := Tryz.sizeOf298
  v51 := Tryz.zeroValue298
  t53 := Tryz.underlying287
  a53 := Tryz.isAgg287
  z53 := Tryz.sizeOf287
  v53 := Tryz.zeroValue287
  t75 := Tryz.underlying222
  a75 := Tryz.isAgg222
  z75 := Tryz.sizeOf222
  v75 := Tryz.zeroValue222
  t76 := Tryz.underlying223
  a76 := Tryz.isAgg223
  z76 := Tryz.sizeOf223
  v76 := Tryz.zeroValue223
  t85 := Tryz.underlying281
  a85 := Tryz.isAgg281
  z85 := Tryz.sizeOf281
  v85 := Tryz.zeroValue281
  t127 := Tryz.underlying296
  a127 := Tryz.isAgg296
  z127 := Tryz.sizeOf296
  v127 := Tryz.zeroValue296
  t143 := Tryz.underlying320
  a143 := Tryz.isAgg320
  z143 := Tryz.sizeOf320
  v143 := Tryz.zeroValue320
  t145 := Tryz.underlying322
  a145 := Tryz.isAgg322
  z145 := Tryz.sizeOf322
  v145 := Tryz.zeroValue322
  t167 := Tryz.underlying280
  a167 := Tryz.isAgg280
  z167 := Tryz.sizeOf280
  v167 := Tryz.zeroValue280
  t168 := Tryz.underlying283
  a168 := Tryz.isAgg283
  z168 := Tryz.sizeOf283
  v168 := Tryz.zeroValue283
  t171 := Tryz.underlying286
  a171 := Tryz.isAgg286
  z171 := Tryz.sizeOf286
  v171 := Tryz.zeroValue286
  t173 := Tryz.underlying290
  a173 := Tryz.isAgg290
  z173 := Tryz.sizeOf290
  v173 := Tryz.zeroValue290
  t175 := Tryz.underlying303
  a175 := Tryz.isAgg303
  z175 := Tryz.sizeOf303
  v175 := Tryz.zeroValue303
  t210 := Tryz.underlying306
  a210 := Tryz.isAgg306
  z210 := Tryz.sizeOf306
  v210 := Tryz.zeroValue306
  t212 := Tryz.underlying309
  a212 := Tryz.isAgg309
  z212 := Tryz.sizeOf309
  v212 := Tryz.zeroValue309
  t213 := Tryz.underlying310
  a213 := Tryz.isAgg310
  z213 := Tryz.sizeOf310
  t232 := Tryz.underlying330
  a232 := Tryz.isAgg330
  z232 := Tryz.sizeOf330
  v232 := Tryz.zeroValue330
  t233 := Tryz.underlying331
  a233 := Tryz.isAgg331
  z233 := Tryz.sizeOf331
  v233 := Tryz.zeroValue331
  g15 := by kernel_rfl
  g16 := by kernel_rfl
  g17 := by kernel_rfl
  g18 := by kernel_rfl
  g19 := by kernel_rfl
  t80 := Tryz.underlying263
  a80 := Tryz.isAgg263
  z80 := Tryz.sizeOf263
  v80 := Tryz.zeroValue263
  i0 := by kernel_rfl
  i2 := by kernel_rfl
  i3 := by kernel_rfl
  i4 := by kernel_rfl
  i5 := by kernel_rfl
  i9 := by kernel_rfl
  i20 := by kernel_rfl
  i21 := by kernel_rfl
  i37 := by kernel_rfl
  i46 := by kernel_rfl
  i51 := by kernel_rfl
  i53 := by kernel_rfl
  i75 := by kernel_rfl
  i76 := by kernel_rfl
  i80 := by kernel_rfl
  i85 := by kernel_rfl
  i127 := by kernel_rfl
  i143 := by kernel_rfl
  i145 := by kernel_rfl
  i167 := by kernel_rfl
  i168 := by kernel_rfl
  i171 := by kernel_rfl
  i173 := by kernel_rfl
  i175 := by kernel_rfl
  i210 := by kernel_rfl
  i212 := by kernel_rfl
  i232 := by kernel_rfl
  i233 := by kernel_rfl
  m15 := by kernel_rfl
  m16 := by kernel_rfl
  m17 := by kernel_rfl
  m18 := by kernel_rfl
  m19 := by kernel_rfl
  c0 := by kernel_rfl
  c2 := by kernel_rfl
  c3 := by kernel_rfl
  c4 := by kernel_rfl
  c5 := by kernel_rfl
  c9 := by kernel_rfl
  c20 := by kernel_rfl
  c21 := by kernel_rfl
  c37 := by kernel_rfl
  c46 := by kernel_rfl
  c51 := by kernel_rfl
  c53 := by kernel_rfl
  c75 := by kernel_rfl
  c76 := by kernel_rfl
  c80 := by kernel_rfl
  c85 := by kernel_rfl
  c127 := by kernel_rfl
  c143 := by kernel_rfl
  c145 := by kernel_rfl
  c167 := by kernel_rfl
  c168 := by kernel_rfl
  c171 := by kernel_rfl
  c173 := by kernel_rfl
  c175 := by kernel_rfl
  c210 := by kernel_rfl
  c212 := by kernel_rfl
  c213 := by kernel_rfl
  c232 := by kernel_rfl
  c233 := by kernel_rfl }
open Go.RowKit in
/-- strconv.Atoi, AT EVERY STRING THAT SPELLS AN int ('Lib.atoiAll .. = .ok v'; of whatever length: leading zeros count): v, AND NO ERROR. The world: as it was, or with the one new row that '[]byte(..)' lays. (LAID: no walk: one application.) -/
theorem Tryz.strconv_Atoi_ok (s : ByteArray) (hmax : s.size ≤ 9223372036854775806) (v : Int) (h : Lib.atoiAll s.data.toList = .ok v) (w : World) :
    Calls Tryz.prog 187 #[.string s] w fun e w' => e = .returned (.tuple #[.int .i64 v, .nilIface]) ∧ (w' = w ∨ ∃ t, w' = Lib.bytesWorld w 5 t) := Any.strconv_Atoi_ok Tryz.laysC172 s hmax v h w
def Tryz.lays144_ren : Go.Shelf.Ren := ⟨fun | 144 => 208 | 143 => 250 | 219 => 285 | 217 => 301 | 225 => 302 | 224 => 303 | 267 => 304 | 266 => 313 | 314 => 314 | n => n, fun | 9 => 9 | 4 => 4 | 3 => 3 | 5 => 5 | 46 => 271 | 146 => 313 | 51 => 298 | n => n, fun | 1 => 4 | n => n⟩
theorem Tryz.lays144 : Go.Proofs.Lays.n144 Tryz.prog Tryz.lays144_ren := {
  mixed := by kernel_rfl
  f143 := Tryz.func250.trans (congrArg some (by kernel_rfl))
  f144 := Tryz.func208.trans (congrArg some (by kernel_rfl))
  f217 := Tryz.func301.trans (congrArg some (by kernel_rfl))
  f219 := Tryz.func285.trans (congrArg some (by kernel_rfl))
  f224 := Tryz.func303.trans (congrArg some (by kernel_rfl))
  f225 := Tryz.func302.trans (congrArg some (by kernel_rfl))
  f266 := Tryz.func313.trans (congrArg some (by kernel_rfl))
  f267 := Tryz.func304.trans (congrArg some (by kernel_rfl))
  f314 := Tryz.func314.trans (congrArg some (by kernel_rfl))
  t3 := Tryz.underlying3
  a3 := Tryz.isAgg3
  z3 := Tryz.sizeOf3
  v3 := Tryz.zeroValue3
  t4 := Tryz.underlying4
  a4 := Tryz.isAgg4
  z4 := Tryz.sizeOf4
  v4 := Tryz.zeroValue4
  t5 := Tryz.underlying5
  a5 := Tryz.isAgg5
  z5 := Tryz.sizeOf5
  v5 := Tryz.zeroValue5
  t9 := Tryz.underlying9
  a9 := Tryz.isAgg9
  z9 := Tryz.sizeOf9
  v9 := Tryz.zeroValue9
  t46 := Tryz.underlying271
  a46 := Tryz.isAgg271
  z46 := Tryz.sizeOf271
  v46 := Tryz.zeroValue271
  t51 := Tryz.underlying298
  a51 := Tryz.isAgg298
  z51 := Tryz.sizeOf298
  v51 := Tryz.zeroValue298
  t146 := Tryz.underlying313
  a146 := Tryz.isAgg313
  z146 := Tryz.sizeOf313
  v146 := Tryz.zeroValue313
  g1 := by kernel_rfl }
open Go.RowKit Go.Lib in
/-- strings.Contains: "Contains reports whether substr is within s.": AT A substr OF ONE BYTE c: IT RETURNS 'decide (0 ≤ Lib.indexByte s c)'; the world is as it was. (LAID: no walk: one application.) -/
theorem Tryz.strings_Contains_one (s : ByteArray) (c : UInt8) (w : World) :
    Calls Tryz.prog 208 #[.string s, .string ⟨#[c]⟩] w fun e w' => e = .returned (.bool (decide (0 ≤ Lib.indexByte s.data.toList c))) ∧ w' = w := Any.strings_Contains_one Tryz.lays144 s c w
def Tryz.lays145_ren : Go.Shelf.Ren := ⟨fun | 145 => 225 | 220 => 261 | 219 => 285 | 217 => 301 | 225 => 302 | 224 => 303 | 267 => 304 | 266 => 313 | 314 => 314 | n => n, fun | 9 => 9 | 4 => 4 | 59 => 250 | 3 => 3 | 5 => 5 | 46 => 271 | 146 => 313 | 51 => 298 | n => n, fun | 1 => 4 | n => n⟩
theorem Tryz.lays145 : Go.Proofs.Lays.n145 Tryz.prog Tryz.lays145_ren := {
  mixed := by kernel_rfl
  f145 := Tryz.func225.trans (congrArg some (by kernel_rfl))
  f217 := Tryz.func301.trans (congrArg some (by kernel_rfl))
  f219 := Tryz.func285.trans (congrArg some (by kernel_rfl))
  f220 := Tryz.func261.trans (congrArg some (by kernel_rfl))
  f224 := Tryz.func303.trans (congrArg some (by kernel_rfl))
  f225 := Tryz.func302.trans (congrArg some (by kernel_rfl))
  f266 := Tryz.func313.trans (congrArg some (by kernel_rfl))
  f267 := Tryz.func304.trans (congrArg some (by kernel_rfl))
  f314 := Tryz.func314.trans (congrArg some (by kernel_rfl))
  t3 := Tryz.underlying3
  a3 := Tryz.isAgg3
  z3 := Tryz.sizeOf3
  v3 := Tryz.zeroValue3
  t4 := Tryz.underlying4
  a4 := Tryz.isAgg4
  z4 := Tryz.sizeOf4
  v4 := Tryz.zeroValue4
  t5 := Tryz.underlying5
  a5 := Tryz.isAgg5
  z5 := Tryz.sizeOf5
  v5 := Tryz.zeroValue5
  t9 := Tryz.underlying9
  a9 := Tryz.isAgg9
  z9 := Tryz.sizeOf9
  v9 := Tryz.zeroValue9
  t46 := Tryz.underlying271
  a46 := Tryz.isAgg271
  z46 := Tryz.sizeOf271
  v46 := Tryz.zeroValue271
  t51 := Tryz.underlying298
  a51 := Tryz.isAgg298
  z51 := Tryz.sizeOf298
  v51 := Tryz.zeroValue298
  t59 := Tryz.underlying250
  a59 := Tryz.isAgg250
  z59 := Tryz.sizeOf250
  v59 := Tryz.zeroValue250
  t146 := Tryz.underlying313
  a146 := Tryz.isAgg313
  z146 := Tryz.sizeOf313
  v146 := Tryz.zeroValue313
  g1 := by kernel_rfl }
open Go.RowKit Go.Lib in
/-- strings.Cut: "Cut slices s around the first instance of sep, returning the text before and after sep. The found result reports whether sep appears in s. If sep does not appear in s, cut returns s, "", false.": IT RETURNS 'Lib.cut s sep'; the world is as it was but for the count of draws. (LAID: no walk: one application.) -/
theorem Tryz.strings_Cut (s sep : ByteArray) (m : Int) (w : World) (hs : s.size < 4294967281) (hm : w.cell? ⟨4, 0, none⟩ = some (.int .i64 m)) :
    Calls Tryz.prog 225 #[.string s, .string sep] w fun e w' => e = .returned (.tuple #[.string ⟨(Lib.cut s.data.toList sep.data.toList).1.toArray⟩, .string ⟨(Lib.cut s.data.toList sep.data.toList).2.1.toArray⟩, .bool (Lib.cut s.data.toList sep.data.toList).2.2]) ∧ ∃ n, w' = w.drewN n := Any.strings_Cut Tryz.lays145 s sep m w hs hm
def Tryz.lays99_ren : Go.Shelf.Ren := ⟨fun | 99 => 141 | 206 => 198 | n => n, fun | 9 => 9 | 4 => 4 | 3 => 3 | n => n, fun | n => n⟩
theorem Tryz.lays99 : Go.Proofs.Lays.n99 Tryz.prog Tryz.lays99_ren := {
  mixed := by kernel_rfl
  f99 := Tryz.func141.trans (congrArg some (by kernel_rfl))
  f206 := Tryz.func198.trans (congrArg some (by kernel_rfl))
  t3 := Tryz.underlying3
  a3 := Tryz.isAgg3
  z3 := Tryz.sizeOf3
  v3 := Tryz.zeroValue3
  t4 := Tryz.underlying4
  a4 := Tryz.isAgg4
  z4 := Tryz.sizeOf4
  v4 := Tryz.zeroValue4
  t9 := Tryz.underlying9
  a9 := Tryz.isAgg9
  z9 := Tryz.sizeOf9
  v9 := Tryz.zeroValue9 }
open Go.RowKit Go.Lib in
/-- strings.HasPrefix: "HasPrefix reports whether the string s begins with prefix.": IT RETURNS 'Lib.hasPrefix s prefix'; the world is as it was. (LAID: no walk: one application.) -/
theorem Tryz.strings_HasPrefix (s p : ByteArray) (w : World) :
    Calls Tryz.prog 141 #[.string s, .string p] w fun e w' => e = .returned (.bool (Lib.hasPrefix s.data.toList p.data.toList)) ∧ w' = w := Any.strings_HasPrefix Tryz.lays99 s p w
def Tryz.lays101_ren : Go.Shelf.Ren := ⟨fun | 101 => 123 | 208 => 184 | 206 => 198 | n => n, fun | 9 => 9 | 4 => 4 | 3 => 3 | n => n, fun | n => n⟩
theorem Tryz.lays101 : Go.Proofs.Lays.n101 Tryz.prog Tryz.lays101_ren := {
  mixed := by kernel_rfl
  f101 := Tryz.func123.trans (congrArg some (by kernel_rfl))
  f206 := Tryz.func198.trans (congrArg some (by kernel_rfl))
  f208 := Tryz.func184.trans (congrArg some (by kernel_rfl))
  t3 := Tryz.underlying3
  a3 := Tryz.isAgg3
  z3 := Tryz.sizeOf3
  v3 := Tryz.zeroValue3
  t4 := Tryz.underlying4
  a4 := Tryz.isAgg4
  z4 := Tryz.sizeOf4
  v4 := Tryz.zeroValue4
  t9 := Tryz.underlying9
  a9 := Tryz.isAgg9
  z9 := Tryz.sizeOf9
  v9 := Tryz.zeroValue9 }
open Go.RowKit Go.Lib in
/-- strings.TrimPrefix: "TrimPrefix returns s without the provided leading prefix string. If s doesn't start with prefix, s is returned unchanged.": IT RETURNS 'Lib.trimPrefix s prefix'; the world is as it was. (LAID: no walk: one application.) -/
theorem Tryz.strings_TrimPrefix (s p : ByteArray) (w : World) :
    Calls Tryz.prog 123 #[.string s, .string p] w fun e w' => e = .returned (.string ⟨(Lib.trimPrefix s.data.toList p.data.toList).toArray⟩) ∧ w' = w := Any.strings_TrimPrefix Tryz.lays101 s p w
def Tryz.lays105_ren : Go.Shelf.Ren := ⟨fun | 105 => 237 | 212 => 280 | 99 => 141 | 165 => 281 | 166 => 236 | 170 => 282 | 169 => 238 | 263 => 298 | 264 => 299 | 206 => 198 | 240 => 278 | 241 => 300 | 276 => 297 | 277 => 312 | n => n, fun | 9 => 9 | 3 => 3 | 4 => 4 | 20 => 20 | 0 => 0 | 46 => 271 | 109 => 292 | 5 => 5 | 72 => 259 | 76 => 223 | 51 => 298 | 146 => 313 | 53 => 287 | 148 => 315 | 70 => 257 | 37 => 77 | 75 => 222 | 127 => 296 | 164 => 311 | 80 => 263 | n => n, fun | n => n⟩
theorem Tryz.lays105 : Go.Proofs.Lays.n105 Tryz.prog Tryz.lays105_ren := {
  mixed := by kernel_rfl
  f99 := Tryz.func141.trans (congrArg some (by kernel_rfl))
  f105 := Tryz.func237.trans (congrArg some (by kernel_rfl))
  f165 := Tryz.func281.trans (congrArg some (by kernel_rfl))
  f166 := Tryz.func236.trans (congrArg some (by kernel_rfl))
  f169 := Tryz.func238.trans (congrArg some (by kernel_rfl))
  f170 := Tryz.func282.trans (congrArg some (by kernel_rfl))
  f206 := Tryz.func198.trans (congrArg some (by kernel_rfl))
  f212 := Tryz.func280.trans (congrArg some (by kernel_rfl))
  f240 := Tryz.func278.trans (congrArg some (by kernel_rfl))
  f241 := Tryz.func300.trans (congrArg some (by kernel_rfl))
  f263 := Tryz.func298.trans (congrArg some (by kernel_rfl))
  f264 := Tryz.func299.trans (congrArg some (by kernel_rfl))
  f276 := Tryz.func297.trans (congrArg some (by kernel_rfl))
  f277 := Tryz.func312.trans (congrArg some (by kernel_rfl))
  t0 := Tryz.underlying0
  a0 := Tryz.isAgg0
  z0 := Tryz.sizeOf0
  v0 := Tryz.zeroValue0
  t3 := Tryz.underlying3
  a3 := Tryz.isAgg3
  z3 := Tryz.sizeOf3
  v3 := Tryz.zeroValue3
  t4 := Tryz.underlying4
  a4 := Tryz.isAgg4
  z4 := Tryz.sizeOf4
  v4 := Tryz.zeroValue4
  t5 := Tryz.underlying5
  a5 := Tryz.isAgg5
  z5 := Tryz.sizeOf5
  v5 := Tryz.zeroValue5
  t9 := Tryz.underlying9
  a9 := Tryz.isAgg9
  z9 := Tryz.sizeOf9
  v9 := Tryz.zeroValue9
  t20 := Tryz.underlying20
  a20 := Tryz.isAgg20
  z20 := Tryz.sizeOf20
  v20 := Tryz.zeroValue20
  t37 := Tryz.underlying77
  a37 := Tryz.isAgg77
  z37 := Tryz.sizeOf77
  v37 := Tryz.zeroValue77
  t46 := Tryz.underlying271
  a46 := Tryz.isAgg271
  z46 := Tryz.sizeOf271
  v46 := Tryz.zeroValue271
  t51 := Tryz.underlying298
  a51 := Tryz.isAgg298
  z51 := Tryz.sizeOf298
  v51 := Tryz.zeroValue298
  t53 := Tryz.underlying287
  a53 := Tryz.isAgg287
  z53 := Tryz.sizeOf287
  v53 := Tryz.zeroValue287
  t70 := Tryz.underlying257
  a70 := Tryz.isAgg257
  z70 := Tryz.sizeOf257
  v70 := Tryz.zeroValue257
  t72 := Tryz.underlying259
  a72 := Tryz.isAgg259
  z72 := Tryz.sizeOf259
  v72 := Tryz.zeroValue259
  t75 := Tryz.underlying222
  a75 := Tryz.isAgg222
  z75 := Tryz.sizeOf222
  v75 := Tryz.zeroValue222
  t76 := Tryz.underlying223
  a76 := Tryz.isAgg223
  z76 := Tryz.sizeOf223
  v76 := Tryz.zeroValue223
  t109 := Tryz.underlying292
  a109 := Tryz.isAgg292
  z109 := Tryz.sizeOf292
  v109 := Tryz.zeroValue292
  t127 := Tryz.underlying296
  a127 := Tryz.isAgg296
  z127 := Tryz.sizeOf296
  v127 := Tryz.zeroValue296
  t146 := Tryz.underlying313
  a146 := Tryz.isAgg313
  z146 := Tryz.sizeOf313
  v146 := Tryz.zeroValue313
  t148 := Tryz.underlying315
  a148 := Tryz.isAgg315
  z148 := Tryz.sizeOf315
  v148 := Tryz.zeroValue315
  t164 := Tryz.underlying311
  a164 := Tryz.isAgg311
  z164 := Tryz.sizeOf311
  v164 := Tryz.zeroValue311 }
theorem Tryz.Builder_Extra_105 : Builder.Extra Tryz.prog Tryz.lays105_ren := {
  sizeBuilder := by kernel_rfl
  liesBuilder := by kernel_rfl
  t5 := Tryz.underlying5
  a5 := Tryz.isAgg5
  z5 := Tryz.sizeOf5
  v5 := Tryz.zeroValue5
  infoByte := by kernel_rfl
  cellsByte := by kernel_rfl
  sizeByte := by kernel_rfl
  neB5 := by decide }
open Go.RowKit Go.Lib in
/-- **strings.Repeat: count ≥ 0, the result within one allocation: count copies of s.** (LAID: no walk: one application.) -/
theorem Tryz.strings_Repeat (s : ByteArray) (c : Nat) (w : World) (hc : c ≤ 9223372036854775807) (hlen : s.size * c ≤ 140737488355328) :
    Calls Tryz.prog 237 #[.string s, .int .i64 c] w fun e w' => e = .returned (.string ⟨(Lib.repeatL s.data.toList c).toArray⟩) ∧ Below w.heap.size w w' := Any.strings_Repeat Tryz.lays105 Tryz.Builder_Extra_105 s c w hc hlen
end Go.Proofs
namespace Go.Proofs.YtbfojhneajedmaaGreatDoor
open Go.Shelf Go.RowKit

theorem lays240 : Lays.n240 Tryz.prog Tryz.lays105_ren := {
  mixed := Tryz.lays105.mixed
  f240 := Tryz.lays105.f240
  f276 := Tryz.lays105.f276
  t0 := Tryz.lays105.t0
  a0 := Tryz.lays105.a0
  z0 := Tryz.lays105.z0
  v0 := Tryz.lays105.v0
  t4 := Tryz.lays105.t4
  a4 := Tryz.lays105.a4
  z4 := Tryz.lays105.z4
  v4 := Tryz.lays105.v4
  t9 := Tryz.lays105.t9
  a9 := Tryz.lays105.a9
  z9 := Tryz.lays105.z9
  v9 := Tryz.lays105.v9
  t20 := Tryz.lays105.t20
  a20 := Tryz.lays105.a20
  z20 := Tryz.lays105.z20
  v20 := Tryz.lays105.v20
  t70 := Tryz.lays105.t70
  a70 := Tryz.lays105.a70
  z70 := Tryz.lays105.z70
  v70 := Tryz.lays105.v70
  t72 := Tryz.lays105.t72
  a72 := Tryz.lays105.a72
  z72 := Tryz.lays105.z72
  v72 := Tryz.lays105.v72
  t164 := Tryz.lays105.t164
  a164 := Tryz.lays105.a164
  z164 := Tryz.lays105.z164
  v164 := Tryz.lays105.v164
}
theorem lays166 : Lays.n166 Tryz.prog Tryz.lays105_ren := {
  mixed := Tryz.lays105.mixed
  f166 := Tryz.lays105.f166
  f240 := Tryz.lays105.f240
  f276 := Tryz.lays105.f276
  t0 := Tryz.lays105.t0
  a0 := Tryz.lays105.a0
  z0 := Tryz.lays105.z0
  v0 := Tryz.lays105.v0
  t3 := Tryz.lays105.t3
  a3 := Tryz.lays105.a3
  z3 := Tryz.lays105.z3
  v3 := Tryz.lays105.v3
  t4 := Tryz.lays105.t4
  a4 := Tryz.lays105.a4
  z4 := Tryz.lays105.z4
  v4 := Tryz.lays105.v4
  t9 := Tryz.lays105.t9
  a9 := Tryz.lays105.a9
  z9 := Tryz.lays105.z9
  v9 := Tryz.lays105.v9
  t20 := Tryz.lays105.t20
  a20 := Tryz.lays105.a20
  z20 := Tryz.lays105.z20
  v20 := Tryz.lays105.v20
  t37 := Tryz.lays105.t37
  a37 := Tryz.lays105.a37
  z37 := Tryz.lays105.z37
  v37 := Tryz.lays105.v37
  t70 := Tryz.lays105.t70
  a70 := Tryz.lays105.a70
  z70 := Tryz.lays105.z70
  v70 := Tryz.lays105.v70
  t72 := Tryz.lays105.t72
  a72 := Tryz.lays105.a72
  z72 := Tryz.lays105.z72
  v72 := Tryz.lays105.v72
  t75 := Tryz.lays105.t75
  a75 := Tryz.lays105.a75
  z75 := Tryz.lays105.z75
  v75 := Tryz.lays105.v75
  t164 := Tryz.lays105.t164
  a164 := Tryz.lays105.a164
  z164 := Tryz.lays105.z164
  v164 := Tryz.lays105.v164
}
def ren167 : Go.Shelf.Ren := ⟨fun | 167 => 234 | n => Tryz.lays105_ren.f n, Tryz.lays105_ren.t, Tryz.lays105_ren.g⟩
theorem lays167 : Lays.n167 Tryz.prog ren167 := {
  mixed := Tryz.lays105.mixed
  f167 := Tryz.func234.trans (congrArg some (by kernel_rfl))
  f240 := Tryz.lays105.f240
  f276 := Tryz.lays105.f276
  t0 := Tryz.lays105.t0
  a0 := Tryz.lays105.a0
  z0 := Tryz.lays105.z0
  v0 := Tryz.lays105.v0
  t4 := Tryz.lays105.t4
  a4 := Tryz.lays105.a4
  z4 := Tryz.lays105.z4
  v4 := Tryz.lays105.v4
  t5 := Tryz.lays105.t5
  a5 := Tryz.lays105.a5
  z5 := Tryz.lays105.z5
  v5 := Tryz.lays105.v5
  t9 := Tryz.lays105.t9
  a9 := Tryz.lays105.a9
  z9 := Tryz.lays105.z9
  v9 := Tryz.lays105.v9
  t20 := Tryz.lays105.t20
  a20 := Tryz.lays105.a20
  z20 := Tryz.lays105.z20
  v20 := Tryz.lays105.v20
  t37 := Tryz.lays105.t37
  a37 := Tryz.lays105.a37
  z37 := Tryz.lays105.z37
  v37 := Tryz.lays105.v37
  t70 := Tryz.lays105.t70
  a70 := Tryz.lays105.a70
  z70 := Tryz.lays105.z70
  v70 := Tryz.lays105.v70
  t72 := Tryz.lays105.t72
  a72 := Tryz.lays105.a72
  z72 := Tryz.lays105.z72
  v72 := Tryz.lays105.v72
  t75 := Tryz.lays105.t75
  a75 := Tryz.lays105.a75
  z75 := Tryz.lays105.z75
  v75 := Tryz.lays105.v75
  t164 := Tryz.lays105.t164
  a164 := Tryz.lays105.a164
  z164 := Tryz.lays105.z164
  v164 := Tryz.lays105.v164
}
set_option maxRecDepth 100000 in
theorem extra167 : Builder.Extra Tryz.prog ren167 := {
  sizeBuilder := Tryz.Builder_Extra_105.sizeBuilder
  liesBuilder := Tryz.Builder_Extra_105.liesBuilder
  t5 := Tryz.Builder_Extra_105.t5
  a5 := Tryz.Builder_Extra_105.a5
  z5 := Tryz.Builder_Extra_105.z5
  v5 := Tryz.Builder_Extra_105.v5
  infoByte := Tryz.Builder_Extra_105.infoByte
  cellsByte := Tryz.Builder_Extra_105.cellsByte
  sizeByte := Tryz.Builder_Extra_105.sizeByte
  neB5 := Tryz.Builder_Extra_105.neB5
}
theorem builder_writeByte (B b : Nat) (bs : List Value) (c : Int) (w : World) (h : Lib.IsBuilder 259 5 B b bs w) (hlen : bs.length + 1 ≤ 140737488355328) (hBw : B ≤ w.heap.size) :
    Calls Tryz.prog 234 #[.pointer (some ⟨b, 0, none⟩), .int .u8 c] w fun e w' => e = .returned .nilIface ∧ (Lib.BuilderAt 259 5 B b (.pointer (some ⟨b, 0, none⟩)) (bs ++ [.int .u8 c]) w' ∧ Below B w w') := Any.Builder_WriteByte lays167 extra167 B b bs c w h hlen hBw
theorem builder_writeString (B b : Nat) (bs : List Value) (s : ByteArray) (w : World) (h : Lib.IsBuilder 259 5 B b bs w) (hlen : bs.length + s.size ≤ 140737488355328) (hBw : B ≤ w.heap.size) :
    Calls Tryz.prog 236 #[.pointer (some ⟨b, 0, none⟩), .string s] w fun e w' => e = .returned (.tuple #[.int .i64 s.size, .nilIface]) ∧ (Lib.BuilderAt 259 5 B b (.pointer (some ⟨b, 0, none⟩)) (bs ++ Lib.strCells s) w' ∧ Below B w w') := Any.Builder_WriteString lays166 Tryz.Builder_Extra_105 B b bs s w h hlen hBw
end Go.Proofs.YtbfojhneajedmaaGreatDoor
namespace Go.KP
open Go Go.RowKit

theorem hide {p : Prop} (h : p) : Hid p := h
theorem below_drewN {B : Nat} {a w : World} (h : Below B a w) (n : Nat) : Below B a (w.drewN n) := ⟨h.os, h.tape, h.output, h.size, h.block⟩
theorem bcell {W w1 : World} (hb : Below W.heap.size W w1) : (∀ b o, b < W.heap.size → w1.cell? ⟨b, o, none⟩ = W.cell? ⟨b, o, none⟩) ∧ (∀ b o, b < W.heap.size → w1.frozen? ⟨b, o, none⟩ = W.frozen? ⟨b, o, none⟩) :=
  ⟨fun b o h => hb.cell (p := ⟨b, o, none⟩) h, fun b o h => hb.frozen (p := ⟨b, o, none⟩) h⟩

/-- The slice value v has n elements of sz cells each, and reads as the cells xs; it lies below block B. -/
def SlAt (B : Nat) (w : World) (sz : Nat) (v : Value) (n : Nat) (xs : List Value) : Prop :=
  xs.length = n * sz ∧ ((∃ a c, v = .slice a 0 c ∧ n = 0) ∨ ∃ b o cap, v = .slice (some ⟨b, o, none⟩) n cap ∧ b < B ∧ ∀ i u, xs[i]? = some u → w.cell? ⟨b, o + i, none⟩ = some u)

theorem SlAt.below {B n0 : Nat} {w w2 : World} {sz : Nat} {v : Value} {n : Nat} {xs : List Value} (h : SlAt B w sz v n xs) (hb : Below n0 w w2) (hB : B ≤ n0) : SlAt B w2 sz v n xs := by
  refine ⟨h.1, h.2.imp id ?_⟩
  rintro ⟨b, o, cap, hv, hlt, hc⟩
  exact ⟨b, o, cap, hv, hlt, fun i u hu => (hb.cell (p := ⟨b, o + i, none⟩) (by simp; omega)).trans (hc i u hu)⟩
theorem SlAt.mono {B B2 : Nat} {w : World} {sz : Nat} {v : Value} {n : Nat} {xs : List Value} (h : SlAt B w sz v n xs) (hB : B ≤ B2) : SlAt B2 w sz v n xs := by
  refine ⟨h.1, h.2.imp id ?_⟩
  rintro ⟨b, o, cap, hv, hlt, hc⟩
  exact ⟨b, o, cap, hv, by omega, hc⟩
theorem SlAt.of_owns {w : World} {base : Nat} {e : TypeId} {sz : Nat} {v : Value} {n : Nat} {xs : List Value} (h : w.ownsRow base e sz v n xs) : SlAt w.heap.size w sz v n xs := by
  refine ⟨h.1, h.2.imp (fun ⟨h1, h2⟩ => ⟨none, 0, h1, h2⟩) ?_⟩
  rintro ⟨g, cap, cur, hv, hg, hh, _⟩
  refine ⟨g, 0, cap, hv, (Array.getElem?_eq_some_iff.1 hh).1, fun i u hu => ?_⟩
  have := h.cells (g := g) (by rw [hv]; rfl) i u hu
  rwa [Addr.add_lit] at this
theorem SlAt.moved {B : Nat} {w w2 : World} {sz : Nat} {v : Value} {n : Nat} {xs : List Value} (h : SlAt B w sz v n xs) (hb : ∀ i, i < B → i < w2.heap.size ∧ w2.heap[i]? = w.heap[i]?) : SlAt w2.heap.size w2 sz v n xs := by
  refine ⟨h.1, h.2.imp id ?_⟩
  rintro ⟨b, o, cap, hv, hlt, hc⟩
  exact ⟨b, o, cap, hv, (hb b hlt).1, fun i u hu => (World.cell?_of_block (hb b hlt).2).trans (hc i u hu)⟩
/-- It returns v; nothing that lay has turned. -/
def Ret (w : World) (v : Value) (e : Ending) (w2 : World) : Prop := e = .returned v ∧ Below w.heap.size w w2
/-- It returns something of which F speaks; nothing that lay has turned. -/
def RetEx (w : World) (F : Value → World → Prop) (e : Ending) (w2 : World) : Prop := ∃ v, e = .returned v ∧ Below w.heap.size w w2 ∧ F v w2
theorem below_two {w w1 : World} {o : Obj} (h : Below (w.alloc o).heap.size (w.alloc o) w1) (o2 : Obj) : Below w.heap.size w (w1.alloc o2) :=
  (((Below.refl _ w).alloc (Nat.le_refl _) o).trans (h.mono (by simp))).alloc (by have := h.size; simp at this; omega) o2
theorem below_one {w w1 : World} {o : Obj} (h : Below (w.alloc o).heap.size (w.alloc o) w1) : Below w.heap.size w w1 :=
  ((Below.refl _ w).alloc (Nat.le_refl _) o).trans (h.mono (by simp))
theorem owns_stay {w w2 : World} {base : Nat} {e : TypeId} {sz : Nat} {v : Value} {n : Nat} {xs : List Value} (h : w.ownsRow base e sz v n xs) (hb : ∀ r, v.ownBlock = some r → w2.heap[r]? = w.heap[r]?) : w2.ownsRow base e sz v n xs := by
  refine ⟨h.1, h.2.imp id ?_⟩
  rintro ⟨g, cap, cur, hv, hg, hh, r⟩
  exact ⟨g, cap, cur, hv, hg, (hb g (by rw [hv]; rfl)).trans hh, r⟩
/-- The one block that a slice value owns. -/
def OwnOf (v : Value) : Nat → Prop := fun b => v.ownBlock = some b
theorem owns_lt {w : World} {base : Nat} {e : TypeId} {size : Nat} {v : Value} {n : Nat} {xs : List Value} (h : w.ownsRow base e size v n xs) : ∀ b, OwnOf v b → b < w.heap.size := fun b hb => (h.lt b hb).2
theorem owns_mono {w : World} {base base2 : Nat} {e : TypeId} {sz : Nat} {v : Value} {n : Nat} {xs : List Value} (h : w.ownsRow base e sz v n xs) (hb : base2 ≤ base) : w.ownsRow base2 e sz v n xs := by
  refine ⟨h.1, h.2.imp id ?_⟩
  rintro ⟨g, cap, cur, hv, hg, r⟩
  exact ⟨g, cap, cur, hv, Nat.le_trans hb hg, r⟩
theorem owns_ne {w : World} {base : Nat} {e : TypeId} {size : Nat} {v : Value} {n : Nat} {xs : List Value} (h : w.ownsRow base e size v n xs) {b : Nat} (hb : b < base) : some b ≠ v.ownBlock := fun he => by have := (h.lt b he.symm).1; omega
theorem owns_ge {w : World} {base : Nat} {e : TypeId} {size : Nat} {v : Value} {n : Nat} {xs : List Value} (h : w.ownsRow base e size v n xs) {B : Nat} (hB : B ≤ base) : ∀ k, v.ownBlock = some k → B ≤ k := fun k hk => Nat.le_trans hB (h.lt k hk).1
/-- Over a draw ahead. -/
theorem below_ahead {B : Nat} {a w : World} (h : Below B a.drew w) : Below B a w := ⟨h.os, h.tape, h.output, h.size, h.block⟩
theorem SlAt.nil (B : Nat) (w : World) (sz : Nat) : SlAt B w sz (.slice none 0 0) 0 [] := ⟨by simp, .inl ⟨none, 0, rfl, rfl⟩⟩
/-- Not nil, or nil. -/
theorem SlAt.cases {B : Nat} {w : World} {sz : Nat} {v : Value} {n : Nat} {xs : List Value} (h : SlAt B w sz v n xs) :
    (∃ a c, v = .slice a 0 c ∧ n = 0 ∧ xs = []) ∨ ∃ b o cap, v = .slice (some ⟨b, o, none⟩) n cap ∧ b < B ∧ ∀ i u, xs[i]? = some u → w.cell? ⟨b, o + i, none⟩ = some u := by
  rcases h.2 with ⟨a, c, h1, h2⟩ | h2
  · exact .inl ⟨a, c, h1, h2, List.eq_nil_of_length_eq_zero (by rw [h.1, h2]; simp)⟩
  · exact .inr h2

/-- Pairs of ints as cells. -/
def pcells (gs : List (Int × Int)) : List Value := gs.flatMap fun g => [.int .i64 g.1, .int .i64 g.2]
theorem pcells_length (gs : List (Int × Int)) : (pcells gs).length = gs.length * 2 := by
  induction gs with
  | nil => rfl
  | cons g r ih => simp only [pcells, List.flatMap_cons, List.length_append, List.length_cons, List.length_nil] at ih ⊢; omega
theorem pcells_append (a b : List (Int × Int)) : pcells (a ++ b) = pcells a ++ pcells b := by simp [pcells]
def gF (gs : List (Int × Int)) (i : Nat) : Int := (gs[i]?.getD (0, 0)).1
def gT (gs : List (Int × Int)) (i : Nat) : Int := (gs[i]?.getD (0, 0)).2
theorem pcells_at : ∀ (gs : List (Int × Int)) (i : Nat), i < gs.length → (pcells gs)[i * 2]? = some (.int .i64 (gF gs i)) ∧ (pcells gs)[i * 2 + 1]? = some (.int .i64 (gT gs i)) := by
  intro gs
  induction gs with
  | nil => intro i h; simp at h
  | cons g r ih =>
    intro i h
    cases i with
    | zero => simp [pcells, gF, gT]
    | succ i =>
      have := ih i (by simpa using h)
      have e : pcells (g :: r) = .int .i64 g.1 :: .int .i64 g.2 :: pcells r := rfl
      rw [e, show (i + 1) * 2 = i * 2 + 2 by omega]
      simpa [gF, gT] using this
theorem pcells_one (u : Value) (gs : List (Int × Int)) (h : u ∈ pcells gs) : u.oneCell' = true := by
  simp only [pcells, List.mem_flatMap] at h
  obtain ⟨g, _, hu⟩ := h
  simp at hu
  rcases hu with rfl | rfl <;> rfl
/-- A slice of pairs: its cells by number. -/
theorem SlAt.pairs {B : Nat} {w : World} {v : Value} {gs : List (Int × Int)} (h : SlAt B w 2 v gs.length (pcells gs)) :
    (∃ a c, v = .slice a 0 c ∧ gs = []) ∨ ∃ b o cap, v = .slice (some ⟨b, o, none⟩) gs.length cap ∧ b < B ∧
      ∀ i, i < gs.length → w.cell? ⟨b, o + i * 2, none⟩ = some (.int .i64 (gF gs i)) ∧ w.cell? ⟨b, o + i * 2 + 1, none⟩ = some (.int .i64 (gT gs i)) := by
  rcases h.2 with ⟨a, c, h1, h2⟩ | ⟨b, o, cap, hv, hb, hc⟩
  · exact .inl ⟨a, c, h1, List.eq_nil_of_length_eq_zero h2⟩
  · refine .inr ⟨b, o, cap, hv, hb, fun i hi => ?_⟩
    obtain ⟨h1, h2⟩ := pcells_at gs i hi
    exact ⟨hc _ _ h1, hc _ _ h2⟩

/-- New blocks, one, two or three: where they lie. -/
theorem heap1 (w : World) (o1 : Obj) : (w.alloc o1).heap[w.heap.size]? = some o1 ∧ (w.alloc o1).heap.size = w.heap.size + 1 ∧ Below w.heap.size w (w.alloc o1) :=
  ⟨heap_alloc_new w o1, by simp, (Below.refl _ _).alloc (Nat.le_refl _) _⟩
theorem heap2 (w : World) (o1 o2 : Obj) : ((w.alloc o1).alloc o2).heap[w.heap.size]? = some o1 ∧ ((w.alloc o1).alloc o2).heap[w.heap.size + 1]? = some o2 ∧
    ((w.alloc o1).alloc o2).heap.size = w.heap.size + 2 ∧ Below w.heap.size w ((w.alloc o1).alloc o2) := by
  obtain ⟨a1, a2, a3⟩ := heap1 w o1
  obtain ⟨b1, b2, b3⟩ := heap1 (w.alloc o1) o2
  rw [a2] at b1
  exact ⟨(Below.heap_alloc _ _ _ (by omega)).trans a1, b1, by omega, a3.trans (b3.mono (by omega))⟩
theorem heap3 (w : World) (o1 o2 o3 : Obj) : (((w.alloc o1).alloc o2).alloc o3).heap[w.heap.size]? = some o1 ∧ (((w.alloc o1).alloc o2).alloc o3).heap[w.heap.size + 1]? = some o2 ∧
    (((w.alloc o1).alloc o2).alloc o3).heap[w.heap.size + 2]? = some o3 ∧ (((w.alloc o1).alloc o2).alloc o3).heap.size = w.heap.size + 3 ∧ Below w.heap.size w (((w.alloc o1).alloc o2).alloc o3) := by
  obtain ⟨a1, a2, a3, a4⟩ := heap2 w o1 o2
  obtain ⟨b1, b2, b3⟩ := heap1 ((w.alloc o1).alloc o2) o3
  rw [a3] at b1
  exact ⟨(Below.heap_alloc _ _ _ (by omega)).trans a1, (Below.heap_alloc _ _ _ (by omega)).trans a2, b1, by omega, a4.trans (b3.mono (by omega))⟩
/-- The cells of a block that is known whole. -/
theorem cell_blk {w : World} {b : Nat} {cs : Array Value} {t : TypeId} (h : w.heap[b]? = some (.cells cs t (0, 0))) (o : Nat) : w.cell? ⟨b, o, none⟩ = cs[o]? := by simp [World.cell?, h]
theorem froz_blk {w : World} {b : Nat} {cs : Array Value} {t : TypeId} (h : w.heap[b]? = some (.cells cs t (0, 0))) (o : Nat) : w.frozen? ⟨b, o, none⟩ = false := by simp [World.frozen?, h]
theorem lt_blk {w : World} {b : Nat} {o : Obj} (h : w.heap[b]? = some o) : b < w.heap.size := (Array.getElem?_eq_some_iff.1 h).1
theorem below_blk {B : Nat} {w w2 : World} (hb : Below B w w2) {b : Nat} {o : Obj} (h : w.heap[b]? = some o) (hl : b < B) : w2.heap[b]? = some o := (hb.block b hl).trans h
theorem below_left {n B : Nat} {w w1 w2 : World} (h : Below n w w1) (h2 : Below B w1 w2) (hn : n ≤ B) : Below n w w2 := h.trans (h2.mono hn)
end Go.KP
namespace Go.KP
open Go Go.RowKit

/-- From W to W2 nothing of S, and nothing below B, has turned. -/
structure Quiet (B : Nat) (S : Nat → Prop) (W W2 : World) : Prop where
  os : W2.os = W.os
  tape : W2.tape = W.tape
  output : W2.output = W.output
  size : W.heap.size ≤ W2.heap.size
  block : ∀ b, (b < B ∨ S b) → b < W.heap.size → W2.heap[b]? = W.heap[b]?

theorem Quiet.refl (B : Nat) (S : Nat → Prop) (W : World) : Quiet B S W W := ⟨rfl, rfl, rfl, Nat.le_refl _, fun _ _ _ => rfl⟩
theorem Quiet.trans {B : Nat} {S : Nat → Prop} {a b c : World} (h : Quiet B S a b) (k : Quiet B S b c) : Quiet B S a c :=
  ⟨k.os.trans h.os, k.tape.trans h.tape, k.output.trans h.output, Nat.le_trans h.size k.size, fun i hi hl => (k.block i hi (Nat.lt_of_lt_of_le hl h.size)).trans (h.block i hi hl)⟩
theorem Quiet.alloc {B : Nat} {S : Nat → Prop} {a w : World} (h : Quiet B S a w) (o : Obj) : Quiet B S a (w.alloc o) :=
  h.trans ⟨rfl, rfl, rfl, by simp, fun b _ hl => Below.heap_alloc _ _ _ hl⟩
theorem Quiet.drew {B : Nat} {S : Nat → Prop} {a w : World} (h : Quiet B S a w) : Quiet B S a w.drew := ⟨h.os, h.tape, h.output, h.size, h.block⟩
theorem Quiet.drewN {B : Nat} {S : Nat → Prop} {a w : World} (h : Quiet B S a w) (n : Nat) : Quiet B S a (w.drewN n) := ⟨h.os, h.tape, h.output, h.size, h.block⟩
theorem Quiet.of_below {B n : Nat} {S : Nat → Prop} {a w w2 : World} (h : Quiet B S a w) (hb : Below n w w2) (hn : w.heap.size ≤ n) : Quiet B S a w2 :=
  h.trans ⟨hb.os, hb.tape, hb.output, hb.size, fun b _ hl => hb.block b (by omega)⟩

theorem Quiet.below {B n : Nat} {S : Nat → Prop} {a w w2 : World} (h : Below n a w) (hq : Quiet B S w w2) (hB : n ≤ B) (hn : n ≤ w.heap.size) : Below n a w2 :=
  h.trans ⟨hq.os, hq.tape, hq.output, hq.size, fun b hb => hq.block b (.inl (by omega)) (by omega)⟩
theorem Quiet.at_ {B : Nat} {S : Nat → Prop} {w w2 : World} (hq : Quiet B S w w2) {b : Nat} {o : Obj} (h : w.heap[b]? = some o) (hb : b < B ∨ S b) : w2.heap[b]? = some o :=
  (hq.block b hb (Array.getElem?_eq_some_iff.1 h).1).trans h
/-- A caller's invariant that an iterator's own steps leave standing. -/
def Stays (B : Nat) (J : (Nat → Prop) → World → Prop) : Prop := ∀ S W W2, J S W → Quiet B S W W2 → J S W2

/-- What one round does to blocks from B on: those that are not the body's own lie as they lay. -/
structure Upd (B : Nat) (S S' : Nat → Prop) (W W2 : World) : Prop where
  size : W.heap.size ≤ W2.heap.size
  block : ∀ b, B ≤ b → b < W.heap.size → ¬ S b → W2.heap[b]? = W.heap[b]? ∧ ¬ S' b

theorem Upd.refl (B : Nat) (S : Nat → Prop) (W : World) : Upd B S S W W := ⟨Nat.le_refl _, fun _ _ _ hs => ⟨rfl, hs⟩⟩
theorem Upd.trans {B : Nat} {S S' S'' : Nat → Prop} {a b c : World} (h : Upd B S S' a b) (k : Upd B S' S'' b c) : Upd B S S'' a c :=
  ⟨Nat.le_trans h.size k.size, fun i hB hl hs => by
    obtain ⟨h1, h2⟩ := h.block i hB hl hs
    obtain ⟨k1, k2⟩ := k.block i hB (Nat.lt_of_lt_of_le hl h.size) h2
    exact ⟨k1.trans h1, k2⟩⟩
theorem Upd.alloc {B : Nat} {S S' : Nat → Prop} {a w : World} (h : Upd B S S' a w) (o : Obj) : Upd B S S' a (w.alloc o) :=
  h.trans ⟨by simp, fun b _ hl hs => ⟨Below.heap_alloc _ _ _ hl, hs⟩⟩
theorem Upd.drew {B : Nat} {S S' : Nat → Prop} {a w : World} (h : Upd B S S' a w) : Upd B S S' a w.drew := ⟨h.size, h.block⟩
theorem Upd.drewN {B : Nat} {S S' : Nat → Prop} {a w : World} (h : Upd B S S' a w) (n : Nat) : Upd B S S' a (w.drewN n) := ⟨h.size, h.block⟩
theorem Upd.setBox {B : Nat} {S S' : Nat → Prop} {a w : World} (h : Upd B S S' a w) {p : Addr} (hp : p.block < B) (u : Value) : Upd B S S' a (w.setCell p u) :=
  h.trans ⟨by simp [World.setCell], fun b hB _ hs => ⟨Below.heap_setCell _ _ _ _ (by omega), hs⟩⟩
theorem Upd.setOwn {B : Nat} {S S' : Nat → Prop} {a w : World} (h : Upd B S S' a w) {p : Addr} (hp : S' p.block) (u : Value) : Upd B S S' a (w.setCell p u) :=
  h.trans ⟨by simp [World.setCell], fun b _ _ hs => ⟨Below.heap_setCell _ _ _ _ (fun e => hs (by rw [e]; exact hp)), hs⟩⟩
theorem Upd.setNew {B : Nat} {S S' : Nat → Prop} {a w : World} (h : Upd B S S' a w) {p : Addr} (hp : a.heap.size ≤ p.block) (u : Value) : Upd B S S' a (w.setCell p u) :=
  ⟨by simpa [World.setCell] using h.size, fun b hB hl hs => by
    obtain ⟨h1, h2⟩ := h.block b hB hl hs
    exact ⟨(Below.heap_setCell _ _ _ _ (by omega)).trans h1, h2⟩⟩
theorem Upd.of_below {B n : Nat} {S S' : Nat → Prop} {a w w2 : World} (h : Upd B S S' a w) (hb : Below n w w2) (hn : w.heap.size ≤ n) : Upd B S S' a w2 :=
  h.trans ⟨hb.size, fun b _ hl hs => ⟨hb.block b (by omega), hs⟩⟩
theorem Upd.grown {B : Nat} {S S' : Nat → Prop} {a w w2 : World} {row : Option Nat} (h : Upd B S S' a w) (hg : w.grownBy w2 row) (hr : ∀ r, row = some r → S' r) : Upd B S S' a w2 :=
  h.trans ⟨hg.size, fun b _ hl hs => ⟨hg.block b hl (fun e => hs (hr b e.symm)), hs⟩⟩

variable {P : Program}

/-- **An iterator's contract, by numbered rounds**: round k is handed 'encs k', k < N; it has its say after N rounds, or when a round has answered false. 'Prot': blocks that the rounds must leave as they lay in w. -/
def IterAt (P : Program) (gf : Nat) (lb : Array Value) (encs : Nat → Array Value) (N : Nat) (Prot : Nat → Prop) (w : World) : Prop :=
  ∀ (l : Nat) (J : Nat → (Nat → Prop) → World → Prop) (Jx : (Nat → Prop) → World → Prop) (W : World),
    (∀ b, Prot b → b < W.heap.size ∧ W.heap[b]? = w.heap[b]?) → (∀ k, Stays W.heap.size (J k)) → Stays W.heap.size Jx → (∀ k S W1, J k S W1 → ∀ b, S b → b < W1.heap.size) →
    (∀ k S W1, k < N → J k S W1 → W.heap.size ≤ W1.heap.size → (∀ b, Prot b → W1.heap[b]? = w.heap[b]?) →
      YieldAt Fence.wide 0 P l (encs k) W1 fun e W2 => ∃ S', Upd W.heap.size S S' W1 W2 ∧ (∀ b, Prot b → W2.heap[b]? = w.heap[b]?) ∧
        ((e = .returned (.bool true) ∧ J (k + 1) S' W2) ∨ (e = .returned (.bool false) ∧ Jx S' W2))) →
    J 0 (fun _ => False) W →
    CallsIn Fence.wide 0 P gf (#[.func (.yield l) #[] #[]] ++ lb) W fun e W2 => (∃ v, e = .returned v) ∧ ∃ S, J N S W2 ∨ Jx S W2

/-- How the body of a round may be left. -/
def bodyEnd (B : Nat) (Prot : Nat → Prop) (w0 : World) (I : (Nat → Prop) → World → Prop) (Ix : Code → (Nat → Prop) → World → Prop) (S : Nat → Prop) (W : World) : Exit → Act → World → Prop
  | .normal, _, W2 => ∃ S', Upd B S S' W W2 ∧ (∀ b, Prot b → W2.heap[b]? = w0.heap[b]?) ∧ I S' W2
  | .ret, _, W2 => ∃ S', Upd B S S' W W2 ∧ (∀ b, Prot b → W2.heap[b]? = w0.heap[b]?) ∧ Ix .ret S' W2
  | .exit id, _, W2 => ∃ S', Upd B S S' W W2 ∧ (∀ b, Prot b → W2.heap[b]? = w0.heap[b]?) ∧ Ix (.exit id) S' W2
  | .goto t, _, W2 => ∃ S', Upd B S S' W W2 ∧ (∀ b, Prot b → W2.heap[b]? = w0.heap[b]?) ∧ Ix (.goto t) S' W2
  | .panic _, _, _ => False
  | .outgrown, _, _ => False

theorem putObj_quiet {B : Nat} {S : Nat → Prop} (W : World) (l : Nat) (o : Obj) (hB : B ≤ l) (hS : ¬ S l) : Quiet B S W (W.putObj l o) :=
  ⟨rfl, rfl, rfl, by simp, fun b hb _ => World.putObj_heap_other (fun e => by subst e; rcases hb with hb | hb; omega; exact hS hb)⟩
theorem putObj_upd {B : Nat} {S : Nat → Prop} (W : World) (l : Nat) (o : Obj) : ∀ b, B ≤ b → b < W.heap.size → b ≠ l → ¬ S b → (W.putObj l o).heap[b]? = W.heap[b]? ∧ ¬ S b :=
  fun _ _ _ hne hs => ⟨World.putObj_heap_other hne, hs⟩

/-- **The loop.** I k: what holds between two rounds, k of them over; Ix c: a round has left by the jump c. -/
theorem wp_iter {g : Operand} {ps : Array Tmp} {assign body : Code} {Q : Exit → Act → World → Prop} {a : Act} {w : World}
    {gf : Nat} {lb : Array Value} (hg : a.eval g = .func (.func gf) #[] lb) (eg : ∀ args w, (callFunc gf args).run P w = .ok (.enter gf args) w)
    {encs : Nat → Array Value} {N : Nat} {Prot : Nat → Prop} {w0 : World} (hseq : IterAt P gf lb encs N Prot w0)
    (hprot : ∀ b, Prot b → b < w.heap.size ∧ w.heap[b]? = w0.heap[b]?) (hps : ∀ k, (encs k).size = ps.size)
    (I : Nat → (Nat → Prop) → World → Prop) (Ix : Code → (Nat → Prop) → World → Prop) (hI : ∀ k, Stays w.heap.size (I k)) (hIx : ∀ c, Stays w.heap.size (Ix c)) (h0 : I 0 (fun _ => False) w)
    (Ax : Nat → (Nat → Prop) → Act → World → Prop)
    (hAx : ∀ k S a1 W l r r2, Ax k S a1 W → W.heap[l]? = some (.loop r) → Ax k S a1 (W.putObj l (.loop r2)))
    (hassign : ∀ (l k : Nat) (S : Nat → Prop) (W : World) (K : Act → World → Prop), w.heap.size ≤ W.heap.size → (∀ b, S b → b < W.heap.size) → (∀ a1 W1, Quiet w.heap.size S W W1 → Upd w.heap.size S S W W1 → Ax k S a1 W1 → K a1 W1) →
      assign.wpIn (Fence.wide.inRound l) 0 P (Exit.then K (fun _ _ _ => False)) { tmps := (ps.zip (encs k)).foldl (fun t (p, v) => t.setIfInBounds p v) a.tmps, defers := [] } W)
    (hS : ∀ k S W, I k S W → ∀ b, S b → b < W.heap.size)
    (hbody : ∀ (l k : Nat) (S : Nat → Prop) (a1 : Act) (W : World), k < N → I k S W → (∀ b, Prot b → W.heap[b]? = w0.heap[b]?) → Ax k S a1 W → w.heap.size ≤ W.heap.size →
      body.wpIn (Fence.wide.inRound l) 0 P (bodyEnd w.heap.size Prot w0 (I (k + 1)) Ix S W) a1 W)
    (hdone : ∀ (D : Nat) (S : Nat → Prop) (W : World), w.heap.size ≤ D → I N S W → W.heap[D]? = some (.deferred (some [])) → Q .normal { a with defers := { target := .collected D, args := #[] } :: a.defers } W)
    (hstop : ∀ (D : Nat) (c : Code) (S : Nat → Prop) (W : World), w.heap.size ≤ D → Ix c S W → W.heap[D]? = some (.deferred (some [])) → c.wpIn Fence.wide 0 P Q { a with defers := { target := .collected D, args := #[] } :: a.defers } W) :
    (Code.rangeFunc g ps assign body).wpIn Fence.wide 0 P Q a w := by
  refine wpIn_rangeFunc ?_
  intro fn _
  obtain ⟨rec, hrec⟩ : ∃ rec : LoopState → Option Code → Loop, rec = fun st pe => { state := st, pending := pe, fn, tmps := a.tmps, params := ps, assign, body, defers := w.heap.size } := ⟨_, rfl⟩
  obtain ⟨W1, hW1⟩ : ∃ W1, (w.alloc (.deferred (some []))).alloc (.loop (rec .ready none)) = W1 := ⟨_, rfl⟩
  have hL1 : W1.heap[w.heap.size + 1]? = some (.loop (rec .ready none)) := by
    rw [← hW1]; have h := World.alloc_heap_new (w.alloc (.deferred (some []))) (.loop (rec .ready none)); rwa [World.size_alloc] at h
  have hK1 : W1.heap[w.heap.size]? = some (.deferred (some [])) := by
    rw [← hW1]; exact (Below.heap_alloc _ _ _ (by simp)).trans (World.alloc_heap_new w _)
  have hq1 : Quiet w.heap.size (fun _ => False) w W1 := by rw [← hW1]; exact ((Quiet.refl _ _ w).alloc _).alloc _
  have hs1 : W1.heap.size = w.heap.size + 2 := by rw [← hW1]; simp
  have hp1 : ∀ b, Prot b → b < W1.heap.size ∧ W1.heap[b]? = w0.heap[b]? := fun b hb => by
    obtain ⟨h1, h2⟩ := hprot b hb
    exact ⟨by omega, (hq1.block b (.inl h1) h1).trans h2⟩
  have inner : ∀ (i : Nat) (S S' : Nat → Prop) (W W2 : World), w.heap.size ≤ i → i < w.heap.size + 2 → i < W.heap.size → ¬ S i → Upd w.heap.size S S' W W2 → W2.heap[i]? = W.heap[i]? ∧ ¬ S' i := fun i S S' W W2 h1 _ h3 h4 hu => hu.block i h1 h3 h4
  refine ⟨w.heap.size + 1, [{ target := .collected w.heap.size, args := #[] }], W1, { target := .fn (.func gf) lb, args := #[.func (.yield (w.heap.size + 1)) #[] #[]] }, W1, gf,
    #[.func (.yield (w.heap.size + 1)) #[] #[]] ++ lb, W1, ?_, ?_, ?_, ?_, fun h => by simp [Fence.wide] at h, ?_⟩
  · rw [← hW1, hrec]; exact run_enterLoop_outer _ _ _ _ _
  · simp only [resolve, hg]
    simp [go_sem]
  · exact fun _ _ => trivial
  · simp [invoke, go_sem, eg]
  · refine (hseq (w.heap.size + 1)
      (fun k S W => I k S W ∧ ¬ S w.heap.size ∧ ¬ S (w.heap.size + 1) ∧ W1.heap.size ≤ W.heap.size ∧ W.heap[w.heap.size + 1]? = some (.loop (rec .ready none)) ∧ W.heap[w.heap.size]? = some (.deferred (some [])))
      (fun S W => ∃ c, Ix c S W ∧ ¬ S w.heap.size ∧ ¬ S (w.heap.size + 1) ∧ W1.heap.size ≤ W.heap.size ∧ W.heap[w.heap.size + 1]? = some (.loop (rec .done (some c))) ∧ W.heap[w.heap.size]? = some (.deferred (some [])))
      W1 hp1 ?_ ?_ (fun k S W1 h => hS k S W1 h.1) ?_ ⟨hI 0 _ _ _ h0 hq1, fun h => h, fun h => h, Nat.le_refl _, hL1, hK1⟩).mono ?_
    · rintro k S W W2 ⟨hi, n1, n2, hsz, hl, hk⟩ hq
      have hw : w.heap.size + 1 < W.heap.size := (Array.getElem?_eq_some_iff.1 hl).1
      exact ⟨hI k _ _ _ hi ⟨hq.os, hq.tape, hq.output, hq.size, fun b hb hlt => hq.block b (hb.imp (fun h => by omega) id) hlt⟩, n1, n2, Nat.le_trans hsz hq.size,
        (hq.block _ (.inl (by omega)) hw).trans hl, (hq.block _ (.inl (by omega)) (by omega)).trans hk⟩
    · rintro S W W2 ⟨c, hi, n1, n2, hsz, hl, hk⟩ hq
      have hw : w.heap.size + 1 < W.heap.size := (Array.getElem?_eq_some_iff.1 hl).1
      exact ⟨c, hIx c _ _ _ hi ⟨hq.os, hq.tape, hq.output, hq.size, fun b hb hlt => hq.block b (hb.imp (fun h => by omega) id) hlt⟩, n1, n2, Nat.le_trans hsz hq.size,
        (hq.block _ (.inl (by omega)) hw).trans hl, (hq.block _ (.inl (by omega)) (by omega)).trans hk⟩
    · rintro k S W hkN ⟨hi, n1, n2, hsz, hl, hk⟩ _ hpr
      have hlt : w.heap.size + 1 < W.heap.size := (Array.getElem?_eq_some_iff.1 hl).1
      have hy := run_yield (P := P) (args := encs k) hl (by rw [hrec]; exact hps k)
      rw [hrec] at hy
      refine ⟨fn, _, assign, body, hy, roundIn_of_wpIn trivial (hassign _ k S W _ (by omega) (hS k S W hi) ?_)⟩
      intro a1 Wa hqa hua hax
      have hla := (inner (w.heap.size + 1) _ _ _ _ (by omega) (by omega) hlt n2 hua).1.trans hl
      have hka := (inner w.heap.size _ _ _ _ (by omega) (by omega) (by omega) n1 hua).1.trans hk
      have hsa := hua.size
      refine ⟨_, run_beginRound hla (by rw [hrec]), ?_⟩
      have hlt2 : w.heap.size + 1 < Wa.heap.size := by omega
      have hia := hI k _ _ _ hi hqa
      obtain ⟨W2, hW2⟩ : ∃ W2, Wa.putObj (w.heap.size + 1) (.loop { rec .ready none with state := .busy }) = W2 := ⟨_, rfl⟩
      have hq2 : Quiet w.heap.size S Wa W2 := by rw [← hW2]; exact putObj_quiet _ _ _ (by omega) n2
      have hax2 : Ax k S a1 W2 := by rw [← hW2]; exact hAx _ _ _ _ _ _ _ hax hla
      have hl2 : W2.heap[w.heap.size + 1]? = some (.loop { rec .ready none with state := .busy }) := by rw [← hW2]; exact World.putObj_heap_same hlt2
      have hk2 : W2.heap[w.heap.size]? = some (.deferred (some [])) := by rw [← hW2]; exact (World.putObj_heap_other (by omega)).trans hka
      have hs2 : W2.heap.size = Wa.heap.size := by rw [← hW2]; simp
      have hpa : ∀ b, Prot b → W2.heap[b]? = w0.heap[b]? := fun b hb => by
        obtain ⟨h1, h2⟩ := hprot b hb
        rw [← hpr b hb, ← hqa.block b (.inl h1) (by omega)]
        exact hq2.block b (.inl h1) (by omega)
      rw [hW2]
      refine wpIn_mono (hbody _ k S a1 W2 hkN (hI k _ _ _ hia hq2) hpa hax2 (by omega)) ?_
      have fin : ∀ (jump : Option Code) (S' : Nat → Prop) (W3 : World), Upd w.heap.size S S' W2 W3 → (∀ b, Prot b → W3.heap[b]? = w0.heap[b]?) →
          ∃ W4, (Instr.endRound (w.heap.size + 1) jump).run P W3 = .ok (.bool jump.isNone) W4 ∧ Upd W1.heap.size S S' W W4 ∧ (∀ b, Prot b → W4.heap[b]? = w0.heap[b]?) ∧ Quiet w.heap.size S' W3 W4 ∧
            ¬ S' w.heap.size ∧ ¬ S' (w.heap.size + 1) ∧ W1.heap.size ≤ W4.heap.size ∧
            W4.heap[w.heap.size + 1]? = some (.loop (rec (if jump.isNone then .ready else .done) jump)) ∧ W4.heap[w.heap.size]? = some (.deferred (some [])) := fun jump S' W3 hu hp3 => by
        have hl3 := (inner (w.heap.size + 1) _ _ _ _ (by omega) (by omega) (by omega) n2 hu)
        have hk3 := (inner w.heap.size _ _ _ _ (by omega) (by omega) (by omega) n1 hu)
        have hl4 := hl3.1.trans hl2
        have hs3 := hu.size
        have hr := run_endRound (P := P) jump hl4
        have e : ({ rec .ready none with state := if jump.isNone then LoopState.ready else LoopState.done, pending := jump } : Loop) = rec (if jump.isNone then .ready else .done) jump := by rw [hrec]
        simp only at hr
        rw [e] at hr
        have hq4 : Quiet w.heap.size S' W3 (W3.putObj (w.heap.size + 1) (.loop (rec (if jump.isNone then .ready else .done) jump))) := putObj_quiet _ _ _ (by omega) hl3.2
        refine ⟨_, hr, ⟨by simp; omega, fun b hB hlt' hs' => ?_⟩, fun b hb => ?_, hq4, hk3.2, hl3.2, by simp; omega, World.putObj_heap_same (by omega), (World.putObj_heap_other (by omega)).trans (hk3.1.trans hk2)⟩
        · obtain ⟨g1, g2⟩ := hua.block b (by omega) hlt' hs'
          obtain ⟨g3, g4⟩ := hu.block b (by omega) (by omega) g2
          refine ⟨(World.putObj_heap_other (by omega)).trans (g3.trans ?_), g4⟩
          rw [← hW2, World.putObj_heap_other (by omega)]
          exact g1
        · obtain ⟨h1, h2⟩ := hprot b hb
          exact (hq4.block b (.inl h1) (by omega)).trans (hp3 b hb)
      rintro e a3 W3 hp
      cases e with
      | normal =>
        obtain ⟨S', hu, hp3, hi3⟩ := hp
        obtain ⟨W4, hr, hu4, hp4, hq4, m1, m2, m3, hl4, hk4⟩ := fin none S' W3 hu hp3
        exact ⟨_, _, hr, S', hu4, hp4, .inl ⟨rfl, hI _ _ _ _ hi3 hq4, m1, m2, m3, hl4, hk4⟩⟩
      | ret =>
        obtain ⟨S', hu, hp3, hi3⟩ := hp
        obtain ⟨W4, hr, hu4, hp4, hq4, m1, m2, m3, hl4, hk4⟩ := fin (some .ret) S' W3 hu hp3
        exact ⟨_, _, hr, S', hu4, hp4, .inr ⟨rfl, .ret, hIx _ _ _ _ hi3 hq4, m1, m2, m3, hl4, hk4⟩⟩
      | exit id =>
        obtain ⟨S', hu, hp3, hi3⟩ := hp
        obtain ⟨W4, hr, hu4, hp4, hq4, m1, m2, m3, hl4, hk4⟩ := fin (some (.exit id)) S' W3 hu hp3
        exact ⟨_, _, hr, S', hu4, hp4, .inr ⟨rfl, .exit id, hIx _ _ _ _ hi3 hq4, m1, m2, m3, hl4, hk4⟩⟩
      | goto t =>
        obtain ⟨S', hu, hp3, hi3⟩ := hp
        obtain ⟨W4, hr, hu4, hp4, hq4, m1, m2, m3, hl4, hk4⟩ := fin (some (.goto t)) S' W3 hu hp3
        exact ⟨_, _, hr, S', hu4, hp4, .inr ⟨rfl, .goto t, hIx _ _ _ _ hi3 hq4, m1, m2, m3, hl4, hk4⟩⟩
      | panic ch => exact hp.elim
      | outgrown => exact hp.elim
    · rintro e W2 ⟨⟨v, rfl⟩, S, (⟨hi, n1, n2, hsz, hl, hk⟩ | ⟨c, hi, n1, n2, hsz, hl, hk⟩)⟩
      · refine ⟨none, _, by have h := run_endLoop (P := P) hl (by rw [hrec]; simp); rw [hrec] at h; exact h, ?_⟩
        exact hdone _ S _ (Nat.le_refl _) (hI _ _ _ _ hi (putObj_quiet _ _ _ (by omega) n2)) ((World.putObj_heap_other (by omega)).trans hk)
      · refine ⟨some c, _, by have h := run_endLoop (P := P) hl (by rw [hrec]; simp); rw [hrec] at h; exact h, ?_⟩
        exact hstop _ c S _ (Nat.le_refl _) (hIx _ _ _ _ hi (putObj_quiet _ _ _ (by omega) n2)) ((World.putObj_heap_other (by omega)).trans hk)

/-- append in a fence, the new value written out: the old row, or the block that is made now. -/
theorem in_append {F : Fence} {n : Nat} (w : World) {ops : Array Oper} {rest : List Oper} {o : Oper} {a : Act} {Q : Exit → Act → World → Prop}
    (hg : o.guard = none) (s x : Operand) (t : TypeId) (hop : o.op = Op.call { callee := Callee.builtin Builtin.append, args := #[s, x], argTypes := #[t, t] })
    (base : Nat) (e : TypeId) (i : TypeInfo) (z : Value) (size bytes : Nat) (h1 : P.underlying t = some (.slice e)) (h2 : P.info? e = some i) (h3 : i.zero = some z) (h4 : i.size = size) (h5 : i.bytes = bytes) (h6 : z.cells.size = size) (h7 : 0 < size)
    (v : Value) (k : Nat) (xs : List Value) (hs : a.eval s = v) (hown : w.ownsRow base e size v k xs) (ad : Addr) (m c : Nat) (news : List Value) (hx : a.eval x = .slice (some ad) m c) (hn : news.length = m * size)
    (hc : ∀ j u, news[j]? = some u → w.cell? (ad.add j) = some u) (h1c : ∀ u ∈ news, u.oneCell' = true) (hm : 0 < m) (b1 : k + m ≤ maxLen) (b2 : (k + m) * bytes ≤ 140737488355328) (b3 : base ≤ w.heap.size)
    (hK : ∀ g cap w', w'.ownsRow base e size (.slice (some ⟨g, 0, none⟩) (k + m) cap) (k + m) (xs ++ news) → w.grownBy w' v.ownBlock → (v.ownBlock = some g ∨ w.heap.size ≤ g) → g < w'.heap.size → wpListIn F n P ops Q rest (a.put o.dst (.slice (some ⟨g, 0, none⟩) (k + m) cap)) w') :
    wpListIn F n P ops Q (o :: rest) a w := by
  refine wpListIn_plain hg fun K hK' => ?_
  obtain ⟨g, cap, w', hrun, r1, r2, r3, r4⟩ := run_append_lies (P := P) w t o.type base e i z size bytes h1 h2 h3 h4 h5 h6 h7 v k xs hown ad m c news hn hc h1c hm b1 b2 b3 w.heap.size rfl
  unfold Oper.wpIn
  refine ⟨?_, ?_⟩
  · simp [Oper.about, hop, resolve, Target.leads, Sem.run_pure]
  · rw [Oper.semAt_plain F _ _ (by rw [hop]; intro c hc'; cases hc')]
    simp [execOp, hop, resolve, invoke, builtin, hs, hx, hrun, Result.andThen]
    exact hK' _ _ (hK g cap w' r1 r2 (r3.imp id (fun h => by omega)) r4)

/-- A round that appends to its own slice value, kept in the box b: the blocks' account. -/
theorem upd_append {B : Nat} {v : Value} {g k cap : Nat} {W w1 w2 : World} {b : Nat} {u : Value} (hb : b < B) (h1 : Upd B (OwnOf v) (OwnOf v) W w1) (hg : w1.grownBy w2 v.ownBlock) (hat : v.ownBlock = some g ∨ w1.heap.size ≤ g) :
    Upd B (OwnOf v) (OwnOf (.slice (some ⟨g, 0, none⟩) k cap)) W (w2.setCell ⟨b, 0, none⟩ u) := by
  have h2 : Upd B (OwnOf v) (OwnOf (.slice (some ⟨g, 0, none⟩) k cap)) W w2 := by
    refine ⟨Nat.le_trans h1.size hg.size, fun i hB hl hs => ?_⟩
    obtain ⟨g1, g2⟩ := h1.block i hB hl hs
    refine ⟨(hg.block i (Nat.lt_of_lt_of_le hl h1.size) (fun e => hs e.symm)).trans g1, fun e => ?_⟩
    have e' : g = i := by simpa [OwnOf, Value.ownBlock] using e
    subst e'
    rcases hat with h | h
    · exact hs h
    · have := h1.size
      omega
  exact h2.setBox hb u
end Go.KP
namespace Go.KP
open Go Go.RowKit

def lenAt (w : World) (b : Nat) : Nat := match w.cell? ⟨b, 0, none⟩ with | some (.slice _ m _) => m | _ => 0
theorem owns_form {w : World} {base : Nat} {e : TypeId} {sz : Nat} {v : Value} {n : Nat} {xs : List Value} (h : w.ownsRow base e sz v n xs) : ∃ a c, v = .slice a n c := by
  rcases h.2 with ⟨h1, h2⟩ | ⟨g, cap, cur, hv, _⟩
  · exact ⟨none, 0, by rw [h1, h2]⟩
  · exact ⟨_, _, hv⟩
theorem lenAt_eq {w : World} {b : Nat} {a : Option Addr} {n c : Nat} {t : TypeId} (h : w.heap[b]? = some (.cells #[.slice a n c] t (0, 0))) : lenAt w b = n := by simp [lenAt, World.cell?, h]

variable {P : Program}
theorem rows_in {row : String} {args : Array Value} {w : World} {R : Value → World → Prop} {r : Nat} (h : Rows P row args w R) : RowsIn (Fence.wide.inRound r) 0 P row args w R :=
  fun c cs _ => let ⟨v, w2, hr, hs⟩ := h c cs; ⟨v, w2, hr, (stepsIn_wide (P := P)).2 hs⟩

/-- **A region of a round, walked as anywhere**: none of its operations defers, its post says nothing of running out of room. -/
theorem opsIn_of_ops {ops : Array Oper} {Q : Exit → Act → World → Prop} {r : Nat} (hQ : ∀ a w, ¬ Q .outgrown a w) (hd : ∀ (i : Nat) (o : Oper), ops[i]? = some o → ∀ c, o.op ≠ .defer c) :
    ∀ (l : List Nat) (a : Act) (w : World), wpOps P ops Q l a w → wpOpsIn (Fence.wide.inRound r) 0 P ops Q l a w := by
  intro l
  induction l with
  | nil => exact fun a w h => h
  | cons i rest ih =>
    intro a w h
    simp only [wpOps] at h
    simp only [wpOpsIn]
    cases ho : ops[i]? with
    | none => simp only [ho] at h ⊢; exact ih a w h
    | some o =>
      simp only [ho] at h ⊢
      split at h
      · rename_i hw
        rw [if_pos hw]
        rcases h with h | ⟨_, a2, w2, h⟩
        · refine ⟨fun _ _ => trivial, ?_⟩
          rw [Oper.semAt_eq _ _ _ (hd i o ho)]
          unfold Oper.wp at h
          generalize (execOp a.eval o).run P w = res at h
          cases res with
          | ok x w2 =>
            cases x with
            | value v => exact ih _ _ h
            | skip => exact ih _ _ h
            | defer d => exact ih _ _ h
            | enter f args =>
              refine ⟨fun hx => by simp [Fence.wide, Fence.inRound] at hx, ?_⟩
              refine (CallsIn.inRound r (callsIn_wide.2 (show Calls P f args w2 _ from h))).mono ?_
              intro e w3 he
              cases e with
              | returned v => exact ih _ _ he
              | panicked ch => exact he
              | outgrown => exact he
            | row row args => exact ⟨fun hx => by simp [Fence.wide, Fence.inRound] at hx, RowsIn.mono (rows_in h) (fun v w3 hv => ih _ _ hv)⟩
            | round l f tmps asg body => exact h.elim
            | _ => exact h.elim
          | halt x w2 =>
            cases x <;> first | exact h | exact h.elim
        · exact (hQ a2 w2 h).elim
      · rename_i hw
        rw [if_neg hw]
        exact ⟨fun _ _ => trivial, ih _ _ h⟩

def noDefer (ops : Array Oper) : Bool := ops.all fun o => match o.op with | .defer _ => false | _ => true
theorem noDefer_spec {ops : Array Oper} (h : noDefer ops = true) (i : Nat) (o : Oper) (ho : ops[i]? = some o) (c : Call) : o.op ≠ .defer c := by
  intro e
  obtain ⟨hlt, he⟩ := Array.getElem?_eq_some_iff.1 ho
  have h2 := (Array.all_eq_true.1 h) i hlt
  rw [he, e] at h2
  cases h2

/-- A region of a round that draws its order, whose operations only read. -/
theorem round_quiet {id : Nat} {Q : Exit → Act → World → Prop} {a : Act} {w : World} {l : List Oper} {r : Nat} (hm : P.follows .mixedOrders = true) (hB : Region.lexB .any l.toArray = true) (hn : noDefer l.toArray = true)
    (h : wpQuiet P l.toArray (fun w' => ∃ n, w' = w.drewN n) (fun a' => ∀ w', (∃ n, w' = w.drewN n) → Q .normal a' w') l a) : (Code.region id l.toArray true).wpIn (Fence.wide.inRound r) 0 P Q a w := by
  refine wpIn_mono (Q := fun e a2 w2 => e = .normal ∧ Q .normal a2 w2) (wpIn_region_draw fun t => ?_) (fun e a2 w2 ⟨he, hq⟩ => by rw [he]; exact hq)
  refine opsIn_of_ops (fun _ _ hx => by cases hx.1) (noDefer_spec hn) _ _ _ ?_
  simp only [Region.lexB, Bool.and_eq_true] at hB
  simp only [Region.schedule, hm, Bool.true_or, if_true]
  refine wpAny_sound l.toArray.size t _ a _ (wpAny_of_quiet (C := fun w' => ∃ n, w' = w.drewN n) (Q := fun a' => ∀ w', (∃ n, w' = w.drewN n) → Q .normal a' w') (fun _ w' hw' h => ⟨rfl, h w' hw'⟩) _ _ _ _ ⟨1, rfl⟩ ?_)
  have h2 := wpAnyQ_lex (C := fun w' => ∃ n, w' = w.drewN n) (md := .any) hB.1 l 0 (Array.replicate l.toArray.size false) a (by simp) (by simpa using hB.2) h
  simpa using h2

/-- Where a region may be left to be walked outside the round: at a class of worlds. -/
theorem round_class {id : Nat} {Q : Exit → Act → World → Prop} {a : Act} {w : World} {l : List Oper} {r : Nat} (C : World → Prop) (hm : P.follows .mixedOrders = true) (hB : Region.lexB .any l.toArray = true) (hn : noDefer l.toArray = true) (hC : C { w with drawn := w.drawn + 1 })
    (h : wpQuiet P l.toArray C (fun a' => ∀ w', C w' → Q .normal a' w') l a) : (Code.region id l.toArray true).wpIn (Fence.wide.inRound r) 0 P Q a w := by
  refine wpIn_mono (Q := fun e a2 w2 => e = .normal ∧ Q .normal a2 w2) (wpIn_region_draw fun t => ?_) (fun e a2 w2 ⟨he, hq⟩ => by rw [he]; exact hq)
  refine opsIn_of_ops (fun _ _ hx => by cases hx.1) (noDefer_spec hn) _ _ _ ?_
  simp only [Region.lexB, Bool.and_eq_true] at hB
  simp only [Region.schedule, hm, Bool.true_or, if_true]
  refine wpAny_sound l.toArray.size t _ a _ (wpAny_of_quiet (C := C) (Q := fun a' => ∀ w', C w' → Q .normal a' w') (fun _ w' hw' h => ⟨rfl, h w' hw'⟩) _ _ _ _ hC ?_)
  have h2 := wpAnyQ_lex (C := C) (md := .any) hB.1 l 0 (Array.replicate l.toArray.size false) a (by simp) (by simpa using hB.2) h
  simpa using h2
end Go.KP
