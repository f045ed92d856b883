/-
  Texts laid together.
-/
import Derived.Test.YtfcjaljaomknjaaGreatDoorMF14
import Derived.Test.YtfcjaljaomknjaaGreatDoorMF15
import Derived.Test.YtfcjaljaomknjaaGreatDoorMF4
import Derived.Test.YtfcjaljaomknjaaGreatDoorMF5
import Derived.Test.YtfcjaljaomknjaaGreatDoorMF1
import Derived.Ground.GgwProg
import Derived.Ground.SlgfProg
import Derived.Shelf.Bits.Mul64
import Derived.Shelf.GgClosure.StringsIndexFunc
import Derived.Shelf.GgClosure.StringsIndexFuncTop
import Derived.Shelf.LaysC
import Derived.Shelf.LaysM
import Derived.Shelf.SlicesE.IndexFunc
import Derived.Shelf.Small.Strs
import Derived.Shelf.Small.Utf8
import Derived.Shelf.Small.Wraps
import Derived.Shelf.Strconv.Atoi
import Derived.Shelf.Strconv.AtoiAll
import Derived.Shelf.Strconv.AtoiErrFast
import Derived.Shelf.Strconv.AtoiFail
import Derived.Shelf.Strconv.AtoiInnerAll
import Derived.Shelf.Strconv.AtoiLong
import Derived.Shelf.Strconv.Clone
import Derived.Shelf.Strconv.ErrVarAll
import Derived.Shelf.Strconv.Itoa0
import Derived.Shelf.Strconv.Itoa1
import Derived.Shelf.Strconv.Itoa2
import Derived.Shelf.Strconv.Itoa3
import Derived.Shelf.Strconv.Lower
import Derived.Shelf.Strconv.ParseInt10
import Derived.Shelf.Strconv.ParseIntEmpty
import Derived.Shelf.Strconv.ParseUint10
import Derived.Shelf.Strconv.ParseUint10Any
import Derived.Shelf.Strconv.ParseUint10Empty
import Derived.Shelf.Strconv.ParseUint10b16
import Derived.Shelf.Strconv.ParseUint10b32
import Derived.Shelf.Strconv.ParseUint10b64
import Derived.Shelf.Strconv.ParseUint10b8
import Derived.Shelf.Strconv.ParseUintEmpty
import Derived.Shelf.Strconv.RangeError
import Derived.Shelf.Strconv.SyntaxError
import Derived.Shelf.Strconv.ToError
import Derived.Shelf.Strconv.ToErrorRange
import Derived.Shelf.Strings.AsciiSet
import Derived.Shelf.Strings.Builder1
import Derived.Shelf.Strings.Builder2
import Derived.Shelf.Strings.Builder2Cap
import Derived.Shelf.Strings.BuilderF
import Derived.Shelf.Strings.BuilderK
import Derived.Shelf.Strings.Cut
import Derived.Shelf.Strings.OnBuilder
import Derived.Shelf.Strings.Prefix
import Derived.Shelf.Strings.Repeat
import Derived.Shelf.Strings.Runes
import Derived.Shelf.Strings.Search1
import Derived.Shelf.Strings.Search2
import Derived.Shelf.Strings.Search3
import Derived.Shelf.Strings.Shaped
import Derived.Shelf.Strings.Trim
import Derived.Shelf.Unicode.CaseConvert
import Derived.Shelf.Unicode.CaseLaid
import Derived.Shelf.Unicode.CaseLookup
import Derived.Shelf.Unicode.CaseTo
import Derived.Shelf.Unicode.Decode
import Derived.Shelf.Unicode.DecodeAny
import Derived.Shelf.Unicode.DecodeSlow
import Derived.Shelf.Unicode.Latin
import Derived.Test.YtfcjaljaomknjaaGreatDoorProg
set_option maxRecDepth 100000
set_option maxHeartbeats 8000000
namespace Go.KI
open Go
theorem dec_pow (p : Nat) : Lib.decDigits (10 ^ p) = 49 :: List.replicate p 48 := by
  induction p with
  | zero => rw [Nat.pow_zero, one_dec]; rfl
  | succ p ih =>
    have h : 10 ≤ 10 ^ (p + 1) := by
      have := Nat.pow_le_pow_right (n := 10) (by omega) (show 1 ≤ p + 1 by omega)
      simpa using this
    rw [Lib.decDigits, dif_neg (by omega), show 10 ^ (p + 1) / 10 = 10 ^ p by rw [Nat.pow_succ]; omega, show 10 ^ (p + 1) % 10 = 0 by rw [Nat.pow_succ]; omega, ih, List.replicate_succ']
    rfl
def chkM (l : List UInt8) : Int := if chkQ l ≠ 0 then chkQ l else if 90 < max (Lib.decDigits (valQ l).num.natAbs).length (Lib.decDigits (valQ l).den).length then 4 else 0
end Go.KI
namespace Go.Proofs.YtfcjaljaomknjaaGreatDoor
open Go.RowKit Go.KP Go.KI Go.Shelf
attribute [local go_sem] Oper.semAt_some

theorem mmul_to {s t : ByteArray} {x y : Int} (h1 : s.data.toList = Lib.itoa x) (h2 : t.data.toList = Lib.itoa y) (f1 : fits x) (f2 : fits y) (f3 : fits (x * y)) (B : Nat) (w : World) (hB : B ≤ w.heap.size) (hT : P10 B w) :
    Calls Tryz.prog 38 #[.string s, .string t] w (Ret w (.string (strB (Lib.itoa (x * y))))) := by
  have HM := hide (mul_yes h1 h2 f1 f2 f3 B w hB hT)
  obtain ⟨X, hX⟩ : ∃ X, X = strB (Lib.itoa (x * y)) := ⟨_, rfl⟩
  rw [← hX] at HM ⊢
  clear h1 h2 f1 f2 f3 hX hT
  go_enter Tryz.func38, Tryz.ntmps38
  go_wp2_with fail
  refine HM.out.mono ?_
  rintro e w1 ⟨rfl, hb1⟩
  have HB1 := hide hb1
  clear hb1
  go_wp2_with fail
  go_ret
  exact ⟨rfl, HB1.out⟩
theorem mdivide_to {s t : ByteArray} {x y : Int} (h1 : s.data.toList = Lib.itoa x) (h2 : t.data.toList = Lib.itoa y) (f1 : fits x) (f2 : fits y) (hy : y ≠ 0) (B : Nat) (w : World) (hB : B ≤ w.heap.size) (hT : P10 B w) :
    Calls Tryz.prog 44 #[.string s, .string t] w (Ret w (.tuple #[.string (strB (Lib.itoa (x.fdiv y))), .string (strB (Lib.itoa (x.fmod y)))])) := by
  have HM := hide (Divide_to (q := strB (Lib.itoa (x.fdiv y))) (r := strB (Lib.itoa (x.fmod y))) h1 h2 (strB_list _) (strB_list _) f1 f2 hy B w hB hT)
  obtain ⟨X, hX⟩ : ∃ X, X = strB (Lib.itoa (x.fdiv y)) := ⟨_, rfl⟩
  obtain ⟨Y, hY⟩ : ∃ X, X = strB (Lib.itoa (x.fmod y)) := ⟨_, rfl⟩
  rw [← hX, ← hY] at HM ⊢
  clear h1 h2 f1 f2 hX hY hT hy
  go_enter Tryz.func44, Tryz.ntmps44
  go_wp2_with fail
  refine HM.out.mono ?_
  rintro e w1 ⟨rfl, hb1⟩
  have HB1 := hide hb1
  clear hb1
  go_wp2_with fail
  refine bodyPost_ret (results_tmp2 rfl _ _ _) rfl ?_
  exact ⟨rfl, HB1.out⟩
theorem itoa_two : (⟨#[50]⟩ : ByteArray).data.toList = Lib.itoa 2 := by
  rw [show (2 : Int) = ((2 : Nat) : Int) from rfl, Lib.itoa_nonneg, Lib.decDigits_one (by omega)]
  rfl
theorem fits_two : fits 2 := fits_small (n := 1) (by rw [most_eq]; omega) (by decide)
theorem mnearest_to {s t : ByteArray} {n d : Int} (h1 : s.data.toList = Lib.itoa n) (h2 : t.data.toList = Lib.itoa d) (f1 : fits n) (f2 : fits d) (f3 : fits (n * 2)) (f4 : fits (n * 2 + d)) (f5 : fits (d * 2)) (hd : 0 < d) (B : Nat) (w : World) (hB : B ≤ w.heap.size) (hT : P10 B w) :
    Calls Tryz.prog 37 #[.string s, .string t] w (Ret w (.string (strB (Lib.itoa (near2 n d))))) := by
  have HT := hide hT
  have H1 := hide (fun w hB hT => mmul_to h1 itoa_two f1 fits_two f3 B w hB hT)
  have H2 := hide (fun w hB hT => Add_good (s := strB (Lib.itoa (n * 2))) (t := t) (strB_list _) h2 f3 f2 f4 B w hB hT)
  have H3 := hide (fun w hB hT => mmul_to h2 itoa_two f2 fits_two f5 B w hB hT)
  have H4 := hide (fun w hB hT => mdivide_to (s := strB (Lib.itoa (n * 2 + d))) (t := strB (Lib.itoa (d * 2))) (strB_list _) (strB_list _) f4 f5 (by omega) B w hB hT)
  have e : (n * 2 + d).fdiv (d * 2) = near2 n d := by unfold near2; rw [Int.mul_comm n, Int.mul_comm d]
  rw [e] at H4
  obtain ⟨A, hA⟩ : ∃ X, X = strB (Lib.itoa (n * 2)) := ⟨_, rfl⟩
  obtain ⟨C, hC⟩ : ∃ X, X = strB (Lib.itoa (n * 2 + d)) := ⟨_, rfl⟩
  obtain ⟨D, hD⟩ : ∃ X, X = strB (Lib.itoa (d * 2)) := ⟨_, rfl⟩
  obtain ⟨Q, hQ⟩ : ∃ X, X = strB (Lib.itoa (near2 n d)) := ⟨_, rfl⟩
  obtain ⟨R, hR⟩ : ∃ X, X = strB (Lib.itoa ((n * 2 + d).fmod (d * 2))) := ⟨_, rfl⟩
  have H2 : Hid (∀ w, B ≤ w.heap.size → P10 B w → Calls Tryz.prog 59 #[.string A, .string t] w (Ret w (.tuple #[.string C, .int .i64 0]))) := hide (by rw [hA, hC]; exact H2.out)
  rw [← hA] at H1
  rw [← hD] at H3
  rw [← hC, ← hD, ← hQ, ← hR] at H4
  rw [← hQ]
  clear h1 h2 f1 f2 f3 f4 f5 hA hC hD hQ hR e hd hT
  go_enter Tryz.func37, Tryz.ntmps37
  go_wp2_with fail
  refine (H1.out _ hB HT.out).mono ?_
  rintro e w1 ⟨rfl, hb1⟩
  have HB1 := hide hb1
  clear hb1
  go_wp2_with fail
  refine (H2.out _ (Nat.le_trans hB HB1.out.size) (HT.out.on HB1.out hB)).mono ?_
  rintro e w2 ⟨rfl, hb2⟩
  have HB2 := hide (HB1.out.trans (hb2.mono HB1.out.size))
  clear hb2
  go_wp2_with fail
  refine (H3.out _ (Nat.le_trans hB HB2.out.size) (HT.out.on HB2.out hB)).mono ?_
  rintro e w3 ⟨rfl, hb3⟩
  have HB3 := hide (HB2.out.trans (hb3.mono HB2.out.size))
  clear hb3
  go_wp2_with fail
  refine (H4.out _ (Nat.le_trans hB HB3.out.size) (HT.out.on HB3.out hB)).mono ?_
  rintro e w4 ⟨rfl, hb4⟩
  have HB4 := hide (HB3.out.trans (hb4.mono HB3.out.size))
  clear hb4
  go_wp2_with fail
  go_ret
  exact ⟨rfl, HB4.out⟩
abbrev powT (p : Nat) : List UInt8 := Lib.itoa ((10 ^ p : Nat) : Int)
theorem mpower_to (p : Nat) (hp : p ≤ 100000) (w : World) :
    Calls Tryz.prog 39 #[.int .i64 p] w (Ret w (.string (strB (powT p)))) := by
  have HR := hide (repeat_any ⟨#[48]⟩ p w (by omega) (by decide))
  have hl : Lib.repeatL (⟨#[48]⟩ : ByteArray).data.toList p = List.replicate p 48 := by
    exact repeat48 p
  rw [hl] at HR
  have HX := hide (show strB (powT p) = ⟨#[49]⟩ ++ strB (List.replicate p 48) by
    apply bytes_eq
    rw [strB_list]
    show Lib.itoa ((10 ^ p : Nat) : Int) = _
    rw [Lib.itoa_nonneg, dec_pow, ByteArray.data_append, Array.toList_append, strB_list]
    rfl)
  have hs : (strB (List.replicate p 48)).size ≤ 100000 := by rw [strB_size, List.length_replicate]; exact hp
  obtain ⟨Z, hZ⟩ : ∃ Z, Z = strB (List.replicate p 48) := ⟨_, rfl⟩
  obtain ⟨X, hX⟩ : ∃ Z, Z = strB (powT p) := ⟨_, rfl⟩
  rw [← hZ] at HR HX hs
  rw [← hX] at HX ⊢
  have v : (9223372036854775807 < 1 + Z.size) = False := eq_false (by omega)
  clear hl hZ hX hp
  go_enter Tryz.func39, Tryz.ntmps39
  go_wp2_with fail
  refine HR.out.mono ?_
  rintro e w1 ⟨rfl, hb1⟩
  have HB1 := hide hb1
  clear hb1
  go_wp2_with fail
  go_ret
  rw [HX.out]
  exact ⟨rfl, HB1.out⟩
def sgnT (neg : Bool) : List UInt8 := if neg then [45] else []
theorem msigned_any (s : ByteArray) (w : World) :
    Calls Tryz.prog 36 #[.string s] w (Ret w (.tuple #[.string (strB (sgnT (isNeg s.data.toList))), .string (strB (digs s.data.toList))])) := by
  have HP := hide (cutPrefix_any s w)
  rw [show decide (s.data.toList.head? = some 45) = isNeg s.data.toList from rfl] at HP
  have hway : (isNeg s.data.toList = true ∧ strB (sgnT (isNeg s.data.toList)) = ⟨#[45]⟩) ∨ (isNeg s.data.toList = false ∧ strB (sgnT (isNeg s.data.toList)) = ⟨#[]⟩ ∧ strB (digs s.data.toList) = s) := by
    cases h : isNeg s.data.toList with
    | true => exact .inl ⟨rfl, rfl⟩
    | false =>
      refine .inr ⟨rfl, rfl, ?_⟩
      have h1 : s.data.toList.head? ≠ some 45 := by simpa [isNeg] using h
      apply bytes_eq
      rw [strB_list]
      cases hl : s.data.toList with
      | nil => rfl
      | cons c r =>
        rw [hl] at h1
        have : c ≠ 45 := by simpa using h1
        simp [digs, this]
  obtain ⟨D, hD⟩ : ∃ Z, Z = strB (digs s.data.toList) := ⟨_, rfl⟩
  rw [← hD] at HP hway ⊢
  clear hD
  rcases hway with ⟨h1, h2⟩ | ⟨h1, h2, h3⟩
  · rw [h1] at HP h2
    rw [h1, h2]
    clear h1 h2
    go_enter Tryz.func36, Tryz.ntmps36
    go_wp2_with fail
    refine HP.out.mono ?_
    rintro e w1 ⟨rfl, rfl⟩
    go_wp2_with fail
    refine bodyPost_ret (results_tmp2 rfl _ _ _) rfl ?_
    exact ⟨rfl, Below.refl _ _⟩
  · rw [h1] at HP h2
    rw [h1, h2]
    have HE := hide h3
    clear h1 h2 h3
    go_enter Tryz.func36, Tryz.ntmps36
    go_wp2_with fail
    refine HP.out.mono ?_
    rintro e w1 ⟨rfl, rfl⟩
    go_wp2_with fail
    refine bodyPost_ret (results_tmp2 rfl _ _ _) rfl ?_
    rw [HE.out]
    exact ⟨rfl, Below.refl _ _⟩
def partsM (l : List UInt8) : Value := if chkM l = 0 then tripV (Lib.itoa (valQ l).num) (Lib.itoa ((valQ l).den : Int)) 0 else tripV [] [] (chkM l)
theorem tripV_err (z : Int) : tripV [] [] z = .tuple #[.string ⟨#[]⟩, .string ⟨#[]⟩, .int .i64 z] := rfl
theorem mparts_any (s : ByteArray) (hs : s.size ≤ 1000000) (B : Nat) (w : World) (hB : B ≤ w.heap.size) (hT : PQ B w) :
    Calls Tryz.prog 54 #[.string s] w (Ret w (partsM s.data.toList)) := by
  have HT := hide hT
  have HC := hide (qCheck_any s hs B w hB hT)
  by_cases hc : chkQ s.data.toList = 0
  · have HP := hide (fun w hB hT => qParts_any s hs B w hB hT)
    rw [hc] at HC
    rw [show partsR s.data.toList = tripV (Lib.itoa (valQ s.data.toList).num) (Lib.itoa ((valQ s.data.toList).den : Int)) 0 from if_pos hc] at HP
    have hM : chkM s.data.toList = if 90 < max (Lib.decDigits (valQ s.data.toList).num.natAbs).length (Lib.decDigits (valQ s.data.toList).den).length then 4 else 0 := by unfold chkM; rw [if_neg (by simp [hc])]
    obtain ⟨N, hN⟩ : ∃ Z, Z = strB (Lib.itoa (valQ s.data.toList).num) := ⟨_, rfl⟩
    obtain ⟨D, hD⟩ : ∃ Z, Z = strB (Lib.itoa ((valQ s.data.toList).den : Int)) := ⟨_, rfl⟩
    have HTP := hide (fun w => trimPrefix_any N w)
    rw [show N.data.toList = Lib.itoa (valQ s.data.toList).num by rw [hN, strB_list], digs_itoa] at HTP
    have hDs : D.size = (Lib.decDigits (valQ s.data.toList).den).length := by rw [hD, strB_size, Lib.itoa_nonneg]
    obtain ⟨O, hO⟩ : ∃ Z, Z = strB (Lib.decDigits (valQ s.data.toList).num.natAbs) := ⟨_, rfl⟩
    have hOs : O.size = (Lib.decDigits (valQ s.data.toList).num.natAbs).length := by rw [hO, strB_size]
    rw [← hDs, ← hOs] at hM
    rw [← hO] at HTP
    rw [show tripV (Lib.itoa (valQ s.data.toList).num) (Lib.itoa ((valQ s.data.toList).den : Int)) 0 = .tuple #[.string N, .string D, .int .i64 0] by rw [hN, hD]] at HP
    by_cases h90 : 90 < max O.size D.size
    · have hm : (90 : Int) < max (O.size : Int) (D.size : Int) := by omega
      rw [if_pos h90] at hM
      rw [show partsM s.data.toList = tripV [] [] 4 by unfold partsM; rw [hM, if_neg (by decide)], tripV_err]
      clear hc hM hN hD hDs hO hOs h90 hT
      go_enter Tryz.func54, Tryz.ntmps54
      go_wp2_with fail
      refine HC.out.mono ?_
      rintro e w1 ⟨rfl, hb1⟩
      have HB1 := hide hb1
      clear hb1
      go_wp2_with fail
      refine (HP.out _ (Nat.le_trans hB HB1.out.size) (HT.out.on HB1.out hB)).mono ?_
      rintro e w2 ⟨rfl, hb2⟩
      have HB2 := hide (HB1.out.trans (hb2.mono HB1.out.size))
      clear hb2
      go_wp2_with fail
      refine (HTP.out _).mono ?_
      rintro e w3 ⟨rfl, rfl⟩
      go_wp2_with fail
      go_ret3
      exact ⟨rfl, HB2.out⟩
    · have hm : ((90 : Int) < max (O.size : Int) (D.size : Int)) = False := eq_false (by omega)
      rw [if_neg h90] at hM
      rw [show partsM s.data.toList = .tuple #[.string N, .string D, .int .i64 0] by unfold partsM; rw [if_pos hM, hN, hD]]
      clear hc hM hN hD hDs hO hOs h90 hT
      go_enter Tryz.func54, Tryz.ntmps54
      go_wp2_with fail
      refine HC.out.mono ?_
      rintro e w1 ⟨rfl, hb1⟩
      have HB1 := hide hb1
      clear hb1
      go_wp2_with fail
      refine (HP.out _ (Nat.le_trans hB HB1.out.size) (HT.out.on HB1.out hB)).mono ?_
      rintro e w2 ⟨rfl, hb2⟩
      have HB2 := hide (HB1.out.trans (hb2.mono HB1.out.size))
      clear hb2
      go_wp2_with fail
      refine (HTP.out _).mono ?_
      rintro e w3 ⟨rfl, rfl⟩
      go_wp2_with fail
      go_ret3
      exact ⟨rfl, HB2.out⟩
  · have hM : chkM s.data.toList = chkQ s.data.toList := if_pos hc
    rw [show partsM s.data.toList = tripV [] [] (chkQ s.data.toList) by unfold partsM; rw [hM, if_neg hc], tripV_err]
    have hne : (chkQ s.data.toList != 0) = true := by simpa using hc
    obtain ⟨E, hE⟩ : ∃ E, E = chkQ s.data.toList := ⟨_, rfl⟩
    rw [← hE] at HC hne ⊢
    clear hE hc hM hT
    go_enter Tryz.func54, Tryz.ntmps54
    go_wp2_with fail
    refine HC.out.mono ?_
    rintro e w1 ⟨rfl, hb1⟩
    have HB1 := hide hb1
    clear hb1
    go_wp2_with fail
    go_ret3
    exact ⟨rfl, HB1.out⟩
def chkP (l : List UInt8) (p : Int) : Int := if chkM l ≠ 0 then chkM l else if p < 0 ∨ 100 < p then 2 else 0
def checkM (l : List UInt8) (p : Int) : Value := if chkP l p = 0 then tripV (Lib.itoa (valQ l).num) (Lib.itoa ((valQ l).den : Int)) 0 else tripV [] [] (chkP l p)
theorem mcheck_any (s : ByteArray) (hs : s.size ≤ 1000000) (p : Int) (B : Nat) (w : World) (hB : B ≤ w.heap.size) (hT : PQ B w) :
    Calls Tryz.prog 35 #[.string s, .int .i64 p] w (Ret w (checkM s.data.toList p)) := by
  have HM := hide (mparts_any s hs B w hB hT)
  by_cases hc : chkM s.data.toList = 0
  · rw [show partsM s.data.toList = tripV (Lib.itoa (valQ s.data.toList).num) (Lib.itoa ((valQ s.data.toList).den : Int)) 0 from if_pos hc] at HM
    have hP : chkP s.data.toList p = if p < 0 ∨ 100 < p then 2 else 0 := by unfold chkP; rw [if_neg (by simp [hc])]
    obtain ⟨N, hN⟩ : ∃ Z, Z = strB (Lib.itoa (valQ s.data.toList).num) := ⟨_, rfl⟩
    obtain ⟨D, hD⟩ : ∃ Z, Z = strB (Lib.itoa ((valQ s.data.toList).den : Int)) := ⟨_, rfl⟩
    rw [show tripV (Lib.itoa (valQ s.data.toList).num) (Lib.itoa ((valQ s.data.toList).den : Int)) 0 = .tuple #[.string N, .string D, .int .i64 0] by rw [hN, hD]] at HM
    have hway : (p < 0 ∧ checkM s.data.toList p = .tuple #[.string ⟨#[]⟩, .string ⟨#[]⟩, .int .i64 2]) ∨ ((p < 0) = False ∧ 100 < p ∧ checkM s.data.toList p = .tuple #[.string ⟨#[]⟩, .string ⟨#[]⟩, .int .i64 2]) ∨
        ((p < 0) = False ∧ (100 < p) = False ∧ checkM s.data.toList p = .tuple #[.string N, .string D, .int .i64 0]) := by
      by_cases h1 : p < 0
      · have e : chkP s.data.toList p = 2 := by rw [hP, if_pos (.inl h1)]
        exact .inl ⟨h1, by unfold checkM; rw [e, if_neg (by decide)]; rfl⟩
      · by_cases h2 : 100 < p
        · have e : chkP s.data.toList p = 2 := by rw [hP, if_pos (.inr h2)]
          exact .inr (.inl ⟨eq_false h1, h2, by unfold checkM; rw [e, if_neg (by decide)]; rfl⟩)
        · have e : chkP s.data.toList p = 0 := by rw [hP, if_neg (fun h => by rcases h with h | h <;> contradiction)]
          exact .inr (.inr ⟨eq_false h1, eq_false h2, by unfold checkM; rw [if_pos e, hN, hD]⟩)
    clear hc hP hN hD hT
    rcases hway with ⟨h1, h2⟩ | ⟨h1, h3, h2⟩ | ⟨h1, h3, h2⟩
    all_goals
      rw [h2]
      clear h2
      go_enter Tryz.func35, Tryz.ntmps35
      go_wp2_with fail
      refine HM.out.mono ?_
      rintro e w1 ⟨rfl, hb1⟩
      have HB1 := hide hb1
      clear hb1
      go_wp2_with fail
      go_ret3
      exact ⟨rfl, HB1.out⟩
  · have hP : chkP s.data.toList p = chkM s.data.toList := if_pos hc
    rw [show partsM s.data.toList = tripV [] [] (chkM s.data.toList) from if_neg hc] at HM
    rw [show checkM s.data.toList p = tripV [] [] (chkM s.data.toList) by unfold checkM; rw [hP, if_neg hc]]
    rw [tripV_err] at HM ⊢
    have hne : (chkM s.data.toList == 0) = false := by simpa using hc
    obtain ⟨E, hE⟩ : ∃ E, E = chkM s.data.toList := ⟨_, rfl⟩
    rw [← hE] at HM hne ⊢
    clear hE hc hP hT
    go_enter Tryz.func35, Tryz.ntmps35
    go_wp2_with fail
    refine HM.out.mono ?_
    rintro e w1 ⟨rfl, hb1⟩
    have HB1 := hide hb1
    clear hb1
    go_wp2_with fail
    go_ret3
    exact ⟨rfl, HB1.out⟩
open Go.RowKit Go.KP Go.KI Go.Shelf
attribute [local go_sem] Oper.semAt_some

def unitsP (q : Rat) (p : Nat) : Int := near2 (q.num * ((10 ^ p : Nat) : Int)) (q.den : Int)
theorem chkM_ok {l : List UInt8} (h : chkM l = 0) : chkQ l = 0 ∧ (valQ l).num.natAbs < 10 ^ 90 ∧ (valQ l).den < 10 ^ 90 := by
  unfold chkM at h
  by_cases h1 : chkQ l = 0
  · rw [if_neg (by simp [h1])] at h
    by_cases h2 : 90 < max (Lib.decDigits (valQ l).num.natAbs).length (Lib.decDigits (valQ l).den).length
    · rw [if_pos h2] at h
      cases h
    · exact ⟨h1, (dec_len_le (by omega)).1 (by omega), (dec_len_le (by omega)).1 (by omega)⟩
  · rw [if_pos h1] at h
    exact absurd h h1
theorem chkP_ok {l : List UInt8} {p : Int} (h : chkP l p = 0) : chkM l = 0 ∧ 0 ≤ p ∧ p ≤ 100 := by
  unfold chkP at h
  by_cases h1 : chkM l = 0
  · rw [if_neg (by simp [h1])] at h
    by_cases h2 : p < 0 ∨ 100 < p
    · rw [if_pos h2] at h
      cases h
    · exact ⟨h1, by omega, by omega⟩
  · rw [if_pos h1] at h
    exact absurd h h1
theorem pow_le_i {p q : Nat} (h : p ≤ q) : (10 : Nat) ^ p ≤ 10 ^ q := Nat.pow_le_pow_right (by omega) h
theorem fits_le_pow {z : Int} {k : Nat} (hk : k ≤ 300) (h : z.natAbs < 10 ^ k) : fits z := fits_small (by rw [most_eq]; exact hk) h
theorem print_fits {n : Int} {d p : Nat} (hn : n.natAbs < 10 ^ 90) (hd : d < 10 ^ 90) (hp : p ≤ 100) :
    fits n ∧ fits (d : Int) ∧ fits ((10 ^ p : Nat) : Int) ∧ fits (n * ((10 ^ p : Nat) : Int)) ∧ fits (n * ((10 ^ p : Nat) : Int) * 2) ∧ fits (n * ((10 ^ p : Nat) : Int) * 2 + (d : Int)) ∧ fits ((d : Int) * 2) := by
  have hpp := pow_le_i hp
  have h1 : (n * ((10 ^ p : Nat) : Int)).natAbs < 10 ^ (90 + 101) := by
    rw [Int.natAbs_mul, Int.natAbs_natCast]
    exact mul_pow_lt hn (Nat.lt_of_le_of_lt hpp (Nat.pow_lt_pow_right (by omega) (by omega)))
  have h2 : (n * ((10 ^ p : Nat) : Int) * 2).natAbs < 10 ^ 192 := by
    have := add_pow_lt h1 h1
    rw [Int.natAbs_mul, show (2 : Int).natAbs = 2 from rfl]
    omega
  have h3 : d < 10 ^ 192 := Nat.lt_of_lt_of_le hd (pow_le_i (by omega))
  have h4 := add_pow_lt h2 h3
  have h5 := add_pow_lt hd hd
  refine ⟨fits_le_pow (k := 90) (by omega) hn, fits_le_pow (k := 90) (by omega) (by rw [Int.natAbs_natCast]; exact hd), fits_le_pow (k := 101) (by omega) (by rw [Int.natAbs_natCast]; exact Nat.lt_of_le_of_lt hpp (Nat.pow_lt_pow_right (by omega) (by omega))), fits_le_pow (k := 90 + 101) (by omega) h1, fits_le_pow (k := 192) (by omega) h2, fits_le_pow (k := 193) (by omega) (by omega), fits_le_pow (k := 91) (by omega) (by omega)⟩
open Go.RowKit Go.KP Go.KI Go.Shelf
attribute [local go_sem] Oper.semAt_some

theorem isNeg_itoa (m : Int) : isNeg (Lib.itoa m) = decide (m < 0) := by
  unfold isNeg
  exact decide_eq_decide.2 (itoa_head m)
def printS (l : List UInt8) (p : Int) : List UInt8 := if chkP l p = 0 then decT (unitsP (valQ l) p.toNat) p.toNat else []
theorem near2_abs {n d : Int} (hd : 0 < d) : (near2 n d).natAbs ≤ n.natAbs + 1 := by
  obtain ⟨h1, h2⟩ := near2_spec (n := n) hd
  obtain ⟨z, hz⟩ : ∃ z, z = near2 n d := ⟨_, rfl⟩
  rw [← hz] at h1 h2 ⊢
  rcases Int.lt_or_le z 0 with h | h
  · obtain ⟨k, hk⟩ : ∃ k : Nat, z = -(k : Int) := ⟨z.natAbs, by omega⟩
    subst hk
    have h3 : 2 * d * -(k : Int) = -(2 * (d * k)) := by rw [Int.mul_neg, Int.mul_assoc]
    rw [h3] at h1 h2
    have h4 : (k : Int) ≤ d * k := by
      have : 1 * (k : Int) ≤ d * k := Int.mul_le_mul_of_nonneg_right (by omega) (by omega)
      omega
    have h5 : d * (k : Int) - d ≥ (k : Int) - 1 := by
      have h6 : d * (k : Int) - d = d * ((k : Int) - 1) := by rw [Int.mul_sub, Int.mul_one]
      have h7 : 1 * ((k : Int) - 1) ≤ d * ((k : Int) - 1) := Int.mul_le_mul_of_nonneg_right (by omega) (by omega)
      omega
    omega
  · obtain ⟨k, hk⟩ : ∃ k : Nat, z = (k : Int) := ⟨z.natAbs, by omega⟩
    subst hk
    rw [Int.mul_assoc] at h1 h2
    rcases Nat.eq_zero_or_pos k with h0 | h0
    · omega
    · have h5 : d * (k : Int) - d ≥ (k : Int) - 1 := by
        have h6 : d * (k : Int) - d = d * ((k : Int) - 1) := by rw [Int.mul_sub, Int.mul_one]
        have h7 : 1 * ((k : Int) - 1) ≤ d * ((k : Int) - 1) := Int.mul_le_mul_of_nonneg_right (by omega) (by omega)
        omega
      omega
theorem units_len {q : Rat} {p : Nat} (hn : q.num.natAbs < 10 ^ 90) (hp : p ≤ 100) : (Lib.decDigits (unitsP q p).natAbs).length ≤ 192 := by
  refine (dec_len_le (by omega)).2 ?_
  have dp := q.den_pos
  have h1 := near2_abs (n := q.num * ((10 ^ p : Nat) : Int)) (d := (q.den : Int)) (by omega)
  have h2 : (q.num * ((10 ^ p : Nat) : Int)).natAbs < 10 ^ (90 + 101) := by
    rw [Int.natAbs_mul, Int.natAbs_natCast]
    exact mul_pow_lt hn (Nat.lt_of_le_of_lt (pow_le_i hp) (Nat.pow_lt_pow_right (by omega) (by omega)))
  unfold unitsP
  have h3 := add_pow_lt h2 (show 1 < 10 ^ (90 + 101) by omega)
  exact Nat.lt_of_le_of_lt h1 h3
theorem mPrint_any (s : ByteArray) (hs : s.size ≤ 1000000) (p : Int) (B : Nat) (w : World) (hB : B ≤ w.heap.size) (hT : PQ B w) :
    Calls Tryz.prog 9 #[.string s, .int .i64 p] w (Ret w (pairV (printS s.data.toList p) (chkP s.data.toList p))) := by
  have HT := hide hT
  have HC := hide (mcheck_any s hs p B w hB hT)
  by_cases hc : chkP s.data.toList p = 0
  · obtain ⟨hM, p0, p1⟩ := chkP_ok hc
    obtain ⟨_, n1, d1⟩ := chkM_ok hM
    obtain ⟨P, hP⟩ : ∃ P : Nat, (P : Int) = p := ⟨p.toNat, by omega⟩
    rw [show checkM s.data.toList p = tripV (Lib.itoa (valQ s.data.toList).num) (Lib.itoa ((valQ s.data.toList).den : Int)) 0 from if_pos hc] at HC
    rw [show printS s.data.toList p = decT (unitsP (valQ s.data.toList) p.toNat) p.toNat from if_pos hc]
    subst hP
    have dp := (valQ s.data.toList).den_pos
    obtain ⟨f1, f2, f3, f4, f5, f6, f7⟩ := print_fits n1 d1 (show P ≤ 100 by omega)
    rw [hc, Int.toNat_natCast]
    have hul := units_len n1 (show P ≤ 100 by omega)
    have HPW := hide (fun w => mpower_to P (by omega) w)
    have HMU := hide (fun w hB hT => mmul_to (s := strB (Lib.itoa (valQ s.data.toList).num)) (t := strB (powT P)) (strB_list _) (strB_list _) f1 f3 f4 B w hB hT)
    have HNE := hide (fun w hB hT => mnearest_to (s := strB (Lib.itoa ((valQ s.data.toList).num * ((10 ^ P : Nat) : Int)))) (t := strB (Lib.itoa ((valQ s.data.toList).den : Int))) (strB_list _) (strB_list _) f4 f2 f5 f6 f7 (by omega) B w hB hT)
    obtain ⟨m, hm⟩ : ∃ m, m = unitsP (valQ s.data.toList) P := ⟨_, rfl⟩
    rw [show near2 ((valQ s.data.toList).num * ((10 ^ P : Nat) : Int)) ((valQ s.data.toList).den : Int) = m from hm.symm] at HNE
    rw [← hm] at hul ⊢
    have HSI := hide (fun w => msigned_any (strB (Lib.itoa m)) w)
    rw [strB_list, isNeg_itoa, digs_itoa] at HSI
    obtain ⟨N, hN⟩ : ∃ X, X = strB (Lib.itoa (valQ s.data.toList).num) := ⟨_, rfl⟩
    obtain ⟨D, hD⟩ : ∃ X, X = strB (Lib.itoa ((valQ s.data.toList).den : Int)) := ⟨_, rfl⟩
    obtain ⟨W, hW⟩ : ∃ X, X = strB (powT P) := ⟨_, rfl⟩
    obtain ⟨M, hM2⟩ : ∃ X, X = strB (Lib.itoa ((valQ s.data.toList).num * ((10 ^ P : Nat) : Int))) := ⟨_, rfl⟩
    obtain ⟨Q, hQ⟩ : ∃ X, X = strB (Lib.itoa m) := ⟨_, rfl⟩
    obtain ⟨S, hS⟩ : ∃ X, X = strB (sgnT (decide (m < 0))) := ⟨_, rfl⟩
    obtain ⟨O, hO⟩ : ∃ X, X = strB (Lib.decDigits m.natAbs) := ⟨_, rfl⟩
    have HC : Hid (Calls Tryz.prog 35 #[.string s, .int .i64 P] w (Ret w (.tuple #[.string N, .string D, .int .i64 0]))) := hide (by rw [hN, hD]; exact HC.out)
    rw [← hW] at HPW
    rw [← hN, ← hW, ← hM2] at HMU
    rw [← hD, ← hM2, ← hQ] at HNE
    rw [← hQ, ← hS, ← hO] at HSI
    have hOs : O.size = (Lib.decDigits m.natAbs).length := by rw [hO, strB_size]
    have hSs : S.size ≤ 1 := by rw [hS, strB_size]; unfold sgnT; split <;> simp
    have hO1 : 1 ≤ O.size := by rw [hOs]; exact dec_len_pos _
    have hOl : O.size ≤ 192 := by omega
    obtain ⟨X, hX⟩ : ∃ X, X = strB (decT m P) := ⟨_, rfl⟩
    rw [show pairV (decT m P) 0 = .tuple #[.string X, .int .i64 0] by rw [hX]]
    have hdt : decT m P = sgnT (decide (m < 0)) ++ (if P = 0 then Lib.decDigits m.natAbs else (own m P).take ((own m P).length - P) ++ 46 :: (own m P).drop ((own m P).length - P)) := by
      unfold decT sgnT
      by_cases h : m < 0 <;> simp [h]
    by_cases hP0 : P = 0
    · have z : ((P : Int) == 0) = true := by rw [hP0]; rfl
      have v : (9223372036854775807 < S.size + O.size) = False := eq_false (by omega)
      have HX := hide (show X = S ++ O by
        rw [hX, hdt, if_pos hP0, hS, hO]
        apply bytes_eq
        simp [strB])
      clear hc hM p0 p1 n1 d1 dp f1 f2 f3 f4 f5 f6 f7 hm hN hD hW hM2 hQ hS hO hT hOs hX hdt hP0 hul hSs hO1 hOl
      go_enter Tryz.func9, Tryz.ntmps9
      go_wp2_with fail
      refine HC.out.mono ?_
      rintro e w1 ⟨rfl, hb1⟩
      have HB1 := hide hb1
      clear hb1
      go_wp2_with fail
      refine (HPW.out _).mono ?_
      rintro e w2 ⟨rfl, hb2⟩
      have HB2 := hide (HB1.out.trans (hb2.mono HB1.out.size))
      clear hb2
      go_wp2_with fail
      refine (HMU.out _ (Nat.le_trans hB HB2.out.size) (HT.out.p10.on HB2.out hB)).mono ?_
      rintro e w3 ⟨rfl, hb3⟩
      have HB3 := hide (HB2.out.trans (hb3.mono HB2.out.size))
      clear hb3
      go_wp2_with fail
      refine (HNE.out _ (Nat.le_trans hB HB3.out.size) (HT.out.p10.on HB3.out hB)).mono ?_
      rintro e w4 ⟨rfl, hb4⟩
      have HB4 := hide (HB3.out.trans (hb4.mono HB3.out.size))
      clear hb4
      go_wp2_with fail
      refine (HSI.out _).mono ?_
      rintro e w5 ⟨rfl, hb5⟩
      have HB5 := hide (HB4.out.trans (hb5.mono HB4.out.size))
      clear hb5
      go_wp2_with fail
      refine bodyPost_ret (results_tmp2 rfl _ _ _) rfl ?_
      rw [HX.out]
      exact ⟨rfl, HB5.out⟩
    · have z : ((P : Int) == 0) = false := by simpa using hP0
      obtain ⟨F, hF⟩ : ∃ F, F = strB (own m P) := ⟨_, rfl⟩
      obtain ⟨k, hk⟩ : ∃ k, k = F.size - P := ⟨_, rfl⟩
      have hFs : F.size = (own m P).length := by rw [hF, strB_size]
      have hol := own_len m P
      have hol2 : (own m P).length ≤ 300 := by
        unfold own
        rw [List.length_append, List.length_replicate]
        omega
      have hkP : F.size = k + P := by omega
      have HX := hide (show X = S ++ F.extract 0 k ++ ⟨#[46]⟩ ++ F.extract k F.size by
        rw [hX, hdt, if_neg hP0, hS, ← hFs, ← hk]
        have e1 : F.extract k F.size = strB ((own m P).drop k) := by rw [ext_drop, hF, strB_list]
        have e2 : F.extract 0 k = strB ((own m P).take k) := by
          apply bytes_eq
          rw [strB_list, hF]
          simp [strB]
        rw [e1, e2]
        apply bytes_eq
        simp [strB])
      have hway : (∃ u : Nat, 0 < u ∧ u ≤ 200 ∧ (P : Int) + 1 - (O.size : Int) = (u : Int) ∧ F = strB (List.replicate u 48) ++ O) ∨ (((0 : Int) < (P : Int) + 1 - (O.size : Int)) = False ∧ F = O) := by
        by_cases h : O.size < P + 1
        · refine .inl ⟨P + 1 - O.size, by omega, by omega, by omega, ?_⟩
          rw [hF, hOs, hO]
          apply bytes_eq
          simp [strB, own]
        · refine .inr ⟨eq_false (by omega), ?_⟩
          rw [hF, hO]
          unfold own
          rw [show P + 1 - (Lib.decDigits m.natAbs).length = 0 by omega]
          rfl
      have hkI : IntKind.i64.wrap ((F.size : Int) - (P : Int)) = (k : Int) := by
        rw [IntWalk.i64_in _ (by omega)]
        omega
      have hkl : (k : Int) ≤ (F.size : Int) := by omega
      have hk0 : (0 : Int) ≤ (k : Int) := by omega
      have hkn : k ≤ F.size := by omega
      have hFl : F.size ≤ 300 := by omega
      have hPi0 : (0 : Int) ≤ (P : Int) := by omega
      have hPi1 : (P : Int) ≤ 100 := by omega
      have HKS := hide hkP
      have HKI := hide hkI
      clear hc hM p0 p1 n1 d1 dp f1 f2 f3 f4 f5 f6 f7 hm hN hD hW hM2 hQ hS hO hT hX hdt hP0 hul hF hk hFs hol hol2 hkP hkI hOs
      rcases hway with ⟨u, u0, u1, u2, u3⟩ | ⟨u2, u3⟩
      · have HR := hide (fun w => repeat_any ⟨#[48]⟩ u w (by omega) (by decide))
        rw [show (⟨#[48]⟩ : ByteArray).data.toList = [48] from rfl, repeat48] at HR
        have hZs : (strB (List.replicate u 48)).size ≤ 200 := by rw [strB_size, List.length_replicate]; exact u1
        obtain ⟨Z, hZ⟩ : ∃ Z, Z = strB (List.replicate u 48) := ⟨_, rfl⟩
        rw [← hZ] at HR u3 hZs
        have HF := hide u3
        have v1 : (9223372036854775807 < Z.size + O.size) = False := eq_false (by omega)
        have u0i : (0 : Int) < (u : Int) := by omega
        clear hZ u3
        go_enter Tryz.func9, Tryz.ntmps9
        go_wp2_with fail
        refine HC.out.mono ?_
        rintro e w1 ⟨rfl, hb1⟩
        have HB1 := hide hb1
        clear hb1
        go_wp2_with fail
        refine (HPW.out _).mono ?_
        rintro e w2 ⟨rfl, hb2⟩
        have HB2 := hide (HB1.out.trans (hb2.mono HB1.out.size))
        clear hb2
        go_wp2_with fail
        refine (HMU.out _ (Nat.le_trans hB HB2.out.size) (HT.out.p10.on HB2.out hB)).mono ?_
        rintro e w3 ⟨rfl, hb3⟩
        have HB3 := hide (HB2.out.trans (hb3.mono HB2.out.size))
        clear hb3
        go_wp2_with fail
        refine (HNE.out _ (Nat.le_trans hB HB3.out.size) (HT.out.p10.on HB3.out hB)).mono ?_
        rintro e w4 ⟨rfl, hb4⟩
        have HB4 := hide (HB3.out.trans (hb4.mono HB3.out.size))
        clear hb4
        go_wp2_with fail
        refine (HSI.out _).mono ?_
        rintro e w5 ⟨rfl, hb5⟩
        have HB5 := hide (HB4.out.trans (hb5.mono HB4.out.size))
        clear hb5
        go_wp2_with fail
        refine (HR.out _).mono ?_
        rintro e w6 ⟨rfl, hb6⟩
        have HB6 := hide (HB5.out.trans (hb6.mono HB5.out.size))
        clear hb6
        go_wp2_with fail
        rw [← HF.out]
        have hkI := HKI.out
        go_quiet (fail)
        go_wp2_with fail
        refine bodyPost_ret (results_tmp2 rfl _ _ _) rfl ?_
        rw [HX.out]
        exact ⟨rfl, below_drewN HB6.out _⟩
      · have u4 : ((O.size : Int) < (P : Int) + 1) = False := eq_false (by
          intro h
          have h2 : ¬ (0 : Int) < (P : Int) + 1 - (O.size : Int) := of_eq_false u2
          omega)
        subst u3
        go_enter Tryz.func9, Tryz.ntmps9
        go_wp2_with fail
        refine HC.out.mono ?_
        rintro e w1 ⟨rfl, hb1⟩
        have HB1 := hide hb1
        clear hb1
        go_wp2_with fail
        refine (HPW.out _).mono ?_
        rintro e w2 ⟨rfl, hb2⟩
        have HB2 := hide (HB1.out.trans (hb2.mono HB1.out.size))
        clear hb2
        go_wp2_with fail
        refine (HMU.out _ (Nat.le_trans hB HB2.out.size) (HT.out.p10.on HB2.out hB)).mono ?_
        rintro e w3 ⟨rfl, hb3⟩
        have HB3 := hide (HB2.out.trans (hb3.mono HB2.out.size))
        clear hb3
        go_wp2_with fail
        refine (HNE.out _ (Nat.le_trans hB HB3.out.size) (HT.out.p10.on HB3.out hB)).mono ?_
        rintro e w4 ⟨rfl, hb4⟩
        have HB4 := hide (HB3.out.trans (hb4.mono HB3.out.size))
        clear hb4
        go_wp2_with fail
        refine (HSI.out _).mono ?_
        rintro e w5 ⟨rfl, hb5⟩
        have HB5 := hide (HB4.out.trans (hb5.mono HB4.out.size))
        clear hb5
        go_wp2_with fail
        have hkI := HKI.out
        go_quiet (fail)
        go_wp2_with fail
        refine bodyPost_ret (results_tmp2 rfl _ _ _) rfl ?_
        rw [HX.out]
        exact ⟨rfl, below_drewN HB5.out _⟩
  · rw [show checkM s.data.toList p = tripV [] [] (chkP s.data.toList p) from if_neg hc, tripV_err] at HC
    rw [show printS s.data.toList p = [] from if_neg hc, pairV_err]
    have hne : (chkP s.data.toList p != 0) = true := by simpa using hc
    obtain ⟨E, hE⟩ : ∃ E, E = chkP s.data.toList p := ⟨_, rfl⟩
    rw [← hE] at HC hne ⊢
    clear hE hc hT
    go_enter Tryz.func9, Tryz.ntmps9
    go_wp2_with fail
    refine HC.out.mono ?_
    rintro e w1 ⟨rfl, hb1⟩
    have HB1 := hide hb1
    clear hb1
    go_wp2_with fail
    refine bodyPost_ret (results_tmp2 rfl _ _ _) rfl ?_
    exact ⟨rfl, HB1.out⟩
end Go.Proofs.YtfcjaljaomknjaaGreatDoor
namespace Go.KI
open Go
theorem floor_nat2 (n : Int) {d : Int} (hd : 0 < d) : (n.tmod d < 0 ∧ n / d = n.tdiv d - 1) ∨ ((n.tmod d < 0) = False ∧ n / d = n.tdiv d) := by
  have h1 := Int.mul_tdiv_add_tmod n d
  have h2 := Int.mul_ediv_add_emod n d
  have h3 := Int.emod_nonneg n (show d ≠ 0 by omega)
  have h4 := Int.emod_lt_of_pos n hd
  have h5 := @Int.tdiv_eq_ediv n d
  by_cases hc : 0 ≤ n ∨ d ∣ n
  · rw [if_pos hc, Int.add_zero] at h5
    rw [h5] at h1
    exact .inr ⟨eq_false (by omega), h5.symm⟩
  · rw [if_neg hc, Int.sign_eq_one_of_pos hd] at h5
    rw [h5, Int.mul_add, Int.mul_one] at h1
    have h6 : n % d ≠ 0 := fun e => hc (.inr (Int.dvd_of_emod_eq_zero e))
    exact .inl ⟨by omega, by omega⟩
end Go.KI
namespace Go.Proofs.YtfcjaljaomknjaaGreatDoor
open Go.RowKit Go.KP Go.KI Go.Shelf
attribute [local go_sem] Oper.semAt_some

theorem r2FloorZ_T {x : Rat} (fx : fitsQ x) (B : Nat) (w : World) (hB : B ≤ w.heap.size) (hT : PQ B w) :
    Calls Tryz.prog 45 #[.string (T x)] w (Ret w (.tuple #[.string (iB (x.floor)), .int .i64 0])) := by
  have HT := hide hT
  have H1 := hide (fun w hB hT => r2Check_T fx B w hB hT)
  have ff : fits x.floor := by rw [floor_divInt]; exact fits_of_le fx.1 (Int.natAbs_ediv_le_natAbs _ _)
  have hdp : 0 < (x.den : Int) := by have := x.den_pos; omega
  by_cases hs : shortQ x
  · have HI := hide (fun w => ints_short fx hs w)
    obtain ⟨a1, a2⟩ := shortQ_lt hs
    have hab : x.floor.natAbs ≤ x.num.natAbs := by rw [floor_divInt]; exact Int.natAbs_ediv_le_natAbs _ _
    have HQ := hide (fun w => r2quick_any x.floor 1 (by omega) (by omega) (by omega) w)
    have e1 : strB (ratS (Rat.divInt x.floor ((1 : Nat) : Int))) = iB x.floor := by
      rw [Rat.divInt_ofNat, Rat.mkRat_one]
      exact (iB_T _).symm
    rw [e1] at HQ
    have hcase := floor_nat2 x.num hdp
    rw [← floor_divInt] at hcase
    generalize iB x.floor = R at *
    obtain ⟨F, hF⟩ : ∃ F, F = x.floor := ⟨_, rfl⟩
    obtain ⟨n, hn⟩ : ∃ n, n = x.num := ⟨_, rfl⟩
    obtain ⟨d, hd⟩ : ∃ n, n = x.den := ⟨_, rfl⟩
    rw [← hF, ← hn, ← hd] at hcase
    rw [← hF] at HQ hab
    rw [← hn, ← hd] at HI
    rw [← hn] at a1 hab
    rw [← hd] at a2 hdp
    have hnb : -1000000000 < n ∧ n < 1000000000 := by omega
    have hd0 : ((d : Int) == 0) = false := by simp only [beq_eq_false_iff_ne, ne_eq]; omega
    generalize T x = X at *
    clear hn hd hF ff fx hs hT
    rcases hcase with ⟨h1, h2⟩ | ⟨h1, h2⟩
    · obtain ⟨c, hc⟩ : ∃ c, c = n.tdiv (d : Int) := ⟨_, rfl⟩
      obtain ⟨r, hr⟩ : ∃ c, c = n.tmod (d : Int) := ⟨_, rfl⟩
      have hti : n.tdiv (d : Int) = c := hc.symm
      have htm : n.tmod (d : Int) = r := hr.symm
      rw [htm] at h1
      rw [hti] at h2
      subst h2
      have hcb : -1000000001 ≤ c ∧ c ≤ 1000000001 := by omega
      clear hc hr hab
      go_enter Tryz.func45, Tryz.ntmps45
      go_wp2_with fail
      refine (H1.out _ hB HT.out).mono ?_
      rintro e w1 ⟨rfl, hb1⟩
      have HB1 := hide hb1
      clear hb1
      go_wp2_with fail
      refine (HI.out _).mono ?_
      rintro e w2 ⟨rfl, hb2⟩
      have HB2 := hide (HB1.out.trans (hb2.mono HB1.out.size))
      clear hb2
      go_wp2_with fail
      refine (HQ.out _).mono ?_
      rintro e w3 ⟨rfl, hb3⟩
      have HB3 := hide (HB2.out.trans (hb3.mono HB2.out.size))
      clear hb3
      go_wp2_with fail
      refine bodyPost_ret (results_tmp2 rfl _ _ _) rfl ?_
      exact ⟨rfl, HB3.out⟩
    · obtain ⟨c, hc⟩ : ∃ c, c = n.tdiv (d : Int) := ⟨_, rfl⟩
      obtain ⟨r, hr⟩ : ∃ c, c = n.tmod (d : Int) := ⟨_, rfl⟩
      have hti : n.tdiv (d : Int) = c := hc.symm
      have htm : n.tmod (d : Int) = r := hr.symm
      rw [htm] at h1
      rw [hti] at h2
      subst h2
      have hcb : -1000000001 ≤ F ∧ F ≤ 1000000001 := by omega
      clear hc hr hab
      go_enter Tryz.func45, Tryz.ntmps45
      go_wp2_with fail
      refine (H1.out _ hB HT.out).mono ?_
      rintro e w1 ⟨rfl, hb1⟩
      have HB1 := hide hb1
      clear hb1
      go_wp2_with fail
      refine (HI.out _).mono ?_
      rintro e w2 ⟨rfl, hb2⟩
      have HB2 := hide (HB1.out.trans (hb2.mono HB1.out.size))
      clear hb2
      go_wp2_with fail
      refine (HQ.out _).mono ?_
      rintro e w3 ⟨rfl, hb3⟩
      have HB3 := hide (HB2.out.trans (hb3.mono HB2.out.size))
      clear hb3
      go_wp2_with fail
      refine bodyPost_ret (results_tmp2 rfl _ _ _) rfl ?_
      exact ⟨rfl, HB3.out⟩
  · have HI := hide (fun w => r2ints_T fx w)
    unfold intsQ at HI
    rw [if_neg hs] at HI
    have HP := hide (fun w => r2parts_T fx w)
    have HD := hide (fun w hB hT => rDivide_I fx.1 fx.2 hdp B w hB hT)
    have HM := hide (fun w hB hT => r2make_any (n := x.num / (x.den : Int)) (d := ((1 : Nat) : Int)) (by omega) (by rw [← floor_divInt]; exact ff) fits_one B w hB hT)
    rw [lit1, show T (Rat.divInt (x.num / (x.den : Int)) ((1 : Nat) : Int)) = iB x.floor by
      rw [Rat.divInt_ofNat, Rat.mkRat_one, ← floor_divInt]
      exact (iB_T _).symm] at HM
    rw [← floor_divInt] at HD HM
    generalize iB x.floor = R at *
    generalize iB (x.num % (x.den : Int)) = RM at *
    generalize iB x.num = N at *
    generalize iB (x.den : Int) = D at *
    generalize T x = X at *
    clear ff hs hdp fx hT
    go_enter Tryz.func45, Tryz.ntmps45
    go_wp2_with fail
    refine (H1.out _ hB HT.out).mono ?_
    rintro e w1 ⟨rfl, hb1⟩
    have HB1 := hide hb1
    clear hb1
    go_wp2_with fail
    refine (HI.out _).mono ?_
    rintro e w2 ⟨rfl, hb2⟩
    have HB2 := hide (HB1.out.trans (hb2.mono HB1.out.size))
    clear hb2
    go_wp2_with fail
    refine (HP.out _).mono ?_
    rintro e w3 ⟨rfl, hb3⟩
    have HB3 := hide (HB2.out.trans (hb3.mono HB2.out.size))
    clear hb3
    go_wp2_with fail
    refine (HD.out _ (Nat.le_trans hB HB3.out.size) (HT.out.p10.on HB3.out hB)).mono ?_
    rintro e w4 ⟨rfl, hb4⟩
    have HB4 := hide (HB3.out.trans (hb4.mono HB3.out.size))
    clear hb4
    go_wp2_with fail
    refine (HM.out _ (Nat.le_trans hB HB4.out.size) (HT.out.p10.on HB4.out hB)).mono ?_
    rintro e w5 ⟨rfl, hb5⟩
    have HB5 := hide (HB4.out.trans (hb5.mono HB4.out.size))
    clear hb5
    go_wp2_with fail
    refine bodyPost_ret (results_tmp2 rfl _ _ _) rfl ?_
    exact ⟨rfl, HB5.out⟩
theorem m7size_I {z : Int} (f : fits z) (w : World) : Calls Tryz.prog 82 #[.string (iB z)] w (fun e w' => e = .returned (.int .i64 ((Lib.decDigits z.natAbs).length : Nat)) ∧ w' = w) := by
  obtain ⟨hp, h45⟩ := iB_head z
  have hs := iB_size_abs z
  have hsz := iB_size f
  have hp0 : (0 : Int) < ((iB z).size : Int) := by omega
  have he : ((iB z).toList == []) = false := by
    rw [ByteArray.toList_eq]
    exact beq_false_of_ne fun e => by
      have : (iB z).data.toList.length = 0 := by rw [e]; rfl
      rw [bytes_len] at this
      omega
  have he2 : ((iB z).toList != []) = true := by simp only [bne, he]; rfl
  have he3 : (iB z).toList.isEmpty = false := by
    cases h : (iB z).toList with
    | nil => rw [h] at he; cases he
    | cons a b => rfl
  obtain ⟨L, hL⟩ : ∃ L, L = (Lib.decDigits z.natAbs).length := ⟨_, rfl⟩
  rw [← hL] at hs ⊢
  by_cases hz : z < 0
  · rw [if_pos hz] at hs
    rw [decide_eq_true hz] at h45
    generalize iB z = X at *
    have hl : (X.size : Int) - 1 = (L : Int) := by omega
    clear hL hz hs f
    go_enter Tryz.func82, Tryz.ntmps82
    go_wp2_with fail
    go_ret
    exact ⟨by rw [← hl]; rfl, rfl⟩
  · rw [if_neg hz] at hs
    rw [decide_eq_false hz] at h45
    generalize iB z = X at *
    subst hs
    clear hL hz f
    go_enter Tryz.func82, Tryz.ntmps82
    go_wp2_with fail
    go_ret
    exact ⟨rfl, rfl⟩
theorem m7check_any (s : ByteArray) (hss : s.size ≤ 9223372036854775807) (B : Nat) (w : World) (hB : B ≤ w.heap.size) (hT : PQ B w) :
    Calls Tryz.prog 34 #[.string s] w (Ret w (.int .i64 (chkM s.data.toList))) := by
  have HT := hide hT
  have HC := hide (fun w hB hT => r2Check_big s hss B w hB hT)
  by_cases hq : chkQ s.data.toList = 0
  rotate_left
  · have e : chkM s.data.toList = chkQ s.data.toList := if_pos hq
    have hqb : (chkQ s.data.toList == 0) = false := by simpa using hq
    rw [e]
    generalize chkQ s.data.toList = E at *
    clear e hq hT hss
    go_enter Tryz.func34, Tryz.ntmps34
    go_wp2_with fail
    refine (HC.out _ hB HT.out).mono ?_
    rintro e w1 ⟨rfl, hb1⟩
    have HB1 := hide hb1
    clear hb1
    go_wp2_with fail
    go_ret
    exact ⟨rfl, HB1.out⟩
  rw [hq] at HC
  obtain ⟨eT, fq, _, _⟩ := chkQ_ok hq
  obtain ⟨q, hqq⟩ : ∃ q, q = valQ s.data.toList := ⟨_, rfl⟩
  have h9 : chkM s.data.toList = if 90 < max (Lib.decDigits q.num.natAbs).length (Lib.decDigits q.den).length then 4 else 0 := by
    unfold chkM
    rw [if_neg (by simp [hq]), hqq]
  rw [← hqq] at eT fq
  have eS : s = T q := T_of eT
  have HP := hide (fun w hB hT => r2Parts_T fq B w hB hT)
  have HS1 := hide (fun w => m7size_I fq.1 w)
  have HS2 := hide (fun w => m7size_I fq.2 w)
  rw [Int.natAbs_natCast] at HS2
  rw [← eS] at HP
  obtain ⟨R, hR⟩ : ∃ R, R = chkM s.data.toList := ⟨_, rfl⟩
  rw [← hR] at h9 ⊢
  generalize (Lib.decDigits q.num.natAbs).length = a at HS1 h9
  generalize (Lib.decDigits q.den).length = d at HS2 h9
  have hbig : (90 < a ∧ R = 4) ∨ (a ≤ 90 ∧ 90 < d ∧ R = 4) ∨ (a ≤ 90 ∧ d ≤ 90 ∧ R = 0) := by
    by_cases hb : 90 < max a d
    · rw [if_pos hb] at h9
      by_cases ha : 90 < a
      · exact .inl ⟨ha, h9⟩
      · exact .inr (.inl ⟨by omega, by omega, h9⟩)
    · rw [if_neg hb] at h9
      exact .inr (.inr ⟨by omega, by omega, h9⟩)
  generalize iB q.num = N at *
  generalize iB (q.den : Int) = D at *
  clear hq eT fq hqq eS h9 hR hT hss
  rcases hbig with ⟨ha, rfl⟩ | ⟨ha, hd, rfl⟩ | ⟨ha, hd, rfl⟩
  · have g1 : (90 : Int) < (a : Int) := by omega
    clear ha
    go_enter Tryz.func34, Tryz.ntmps34
    go_wp2_with fail
    refine (HC.out _ hB HT.out).mono ?_
    rintro e w1 ⟨rfl, hb1⟩
    have HB1 := hide hb1
    clear hb1
    go_wp2_with fail
    refine (HP.out _ (Nat.le_trans hB HB1.out.size) (HT.out.on HB1.out hB)).mono ?_
    rintro e w2 ⟨rfl, hb2⟩
    have HB2 := hide (HB1.out.trans (hb2.mono HB1.out.size))
    clear hb2
    go_wp2_with fail
    refine (HS1.out _).mono ?_
    rintro e w3 ⟨rfl, rfl⟩
    go_wp2_with fail
    go_ret
    exact ⟨rfl, HB2.out⟩
  · have g1 : ((90 : Int) < (a : Int)) = False := eq_false (by omega)
    have g2 : (90 : Int) < (d : Int) := by omega
    clear ha hd
    go_enter Tryz.func34, Tryz.ntmps34
    go_wp2_with fail
    refine (HC.out _ hB HT.out).mono ?_
    rintro e w1 ⟨rfl, hb1⟩
    have HB1 := hide hb1
    clear hb1
    go_wp2_with fail
    refine (HP.out _ (Nat.le_trans hB HB1.out.size) (HT.out.on HB1.out hB)).mono ?_
    rintro e w2 ⟨rfl, hb2⟩
    have HB2 := hide (HB1.out.trans (hb2.mono HB1.out.size))
    clear hb2
    go_wp2_with fail
    refine (HS1.out _).mono ?_
    rintro e w3 ⟨rfl, rfl⟩
    go_wp2_with fail
    refine (HS2.out _).mono ?_
    rintro e w3 ⟨rfl, rfl⟩
    go_wp2_with fail
    go_ret
    exact ⟨rfl, HB2.out⟩
  · have g1 : ((90 : Int) < (a : Int)) = False := eq_false (by omega)
    have g2 : ((90 : Int) < (d : Int)) = False := eq_false (by omega)
    clear ha hd
    go_enter Tryz.func34, Tryz.ntmps34
    go_wp2_with fail
    refine (HC.out _ hB HT.out).mono ?_
    rintro e w1 ⟨rfl, hb1⟩
    have HB1 := hide hb1
    clear hb1
    go_wp2_with fail
    refine (HP.out _ (Nat.le_trans hB HB1.out.size) (HT.out.on HB1.out hB)).mono ?_
    rintro e w2 ⟨rfl, hb2⟩
    have HB2 := hide (HB1.out.trans (hb2.mono HB1.out.size))
    clear hb2
    go_wp2_with fail
    refine (HS1.out _).mono ?_
    rintro e w3 ⟨rfl, rfl⟩
    go_wp2_with fail
    refine (HS2.out _).mono ?_
    rintro e w3 ⟨rfl, rfl⟩
    go_wp2_with fail
    go_ret
    exact ⟨rfl, HB2.out⟩
theorem m7product_T {x y : Rat} (fx : fitsQ x) (fy : fitsQ y) (hc : mulC x y) (B : Nat) (w : World) (hB : B ≤ w.heap.size) (hT : PQ B w) :
    Calls Tryz.prog 42 #[.string (T x), .string (T y)] w (Ret w (.string (T (x * y)))) := by
  have HT := hide hT
  have H1 := hide (fun w hB hT => r2Mul_T fx fy B w hB hT)
  rw [show mulO x y = some (x * y) from if_pos hc] at H1
  unfold opV at H1
  dsimp only at H1
  generalize T (x * y) = R at *
  generalize T x = S at *
  generalize T y = U at *
  clear fx fy hc hT
  go_enter Tryz.func42, Tryz.ntmps42
  go_wp2_with fail
  refine (H1.out _ hB HT.out).mono ?_
  rintro e w1 ⟨rfl, hb1⟩
  have HB1 := hide hb1
  clear hb1
  go_wp2_with fail
  go_ret
  exact ⟨rfl, HB1.out⟩
theorem half_lit7 : T (1 / 2) = ⟨#[49, 47, 50]⟩ := txq (n := 1) (d := 2) (by decide +kernel) (by decide +kernel) (by decide) (a := [49]) (b := [50]) (by decide +kernel) (by decide +kernel)
theorem sz_half : sz 1 (1 / 2 : Rat) := ⟨by decide +kernel, by decide +kernel⟩
theorem m7nearest_T {x : Rat} {p : Nat} (sx : sz p x) (hp : p ≤ 290) (B : Nat) (w : World) (hB : B ≤ w.heap.size) (hT : PQ B w) :
    Calls Tryz.prog 41 #[.string (T x)] w (Ret w (.string (iB (x + 1 / 2).floor))) := by
  have HT := hide hT
  have H1 := hide (fun w hB hT => r2Add_T (sz_fits sx (by rw [most_eq]; omega)) (sz_fits sz_half (by rw [most_eq]; omega)) B w hB hT)
  rw [show addO x (1 / 2) = some (x + 1 / 2) from if_pos (addC_of sx sz_half (by rw [most_eq]; omega)), half_lit7] at H1
  unfold opV at H1
  dsimp only at H1
  have H2 := hide (fun w hB hT => r2FloorZ_T (x := x + 1 / 2) (sz_fits (sz_add sx sz_half) (by rw [most_eq]; omega)) B w hB hT)
  generalize iB (x + 1 / 2).floor = R at *
  generalize T (x + 1 / 2) = S at *
  generalize T x = U at *
  clear sx hp hT
  go_enter Tryz.func41, Tryz.ntmps41
  go_wp2_with fail
  refine (H1.out _ hB HT.out).mono ?_
  rintro e w1 ⟨rfl, hb1⟩
  have HB1 := hide hb1
  clear hb1
  go_wp2_with fail
  refine (H2.out _ (Nat.le_trans hB HB1.out.size) (HT.out.on HB1.out hB)).mono ?_
  rintro e w2 ⟨rfl, hb2⟩
  have HB2 := hide (HB1.out.trans (hb2.mono HB1.out.size))
  clear hb2
  go_wp2_with fail
  go_ret
  exact ⟨rfl, HB2.out⟩
end Go.Proofs.YtfcjaljaomknjaaGreatDoor
namespace Go.KI
open Go

theorem mul_den (x : Rat) : x * (x.den : Rat) = (x.num : Rat) := by
  have h := Rat.num_divInt_den x
  rw [Rat.divInt_eq_div, Rat.intCast_natCast] at h
  have hd : (x.den : Rat) ≠ 0 := by
    rw [Ne, Rat.natCast_eq_zero_iff]
    exact x.den_nz
  have h2 : (x.num : Rat) / (x.den : Rat) * (x.den : Rat) = (x.num : Rat) := by
    rw [Rat.div_def, Rat.mul_assoc, Rat.inv_mul_cancel _ hd, Rat.mul_one]
  rwa [h] at h2
open Go

def ledg (l : List UInt8) : List UInt8 := l.takeWhile isDg
def pdg (l : List UInt8) : List UInt8 := l.dropWhile isDg
theorem ledg_pdg (l : List UInt8) : ledg l ++ pdg l = l := List.takeWhile_append_dropWhile
theorem ledg_dg (l : List UInt8) : ∀ c ∈ ledg l, isDg c = true := by
  intro c hc
  unfold ledg at hc
  induction l with
  | nil => cases hc
  | cons x r ih =>
    by_cases h : isDg x = true
    · rw [List.takeWhile_cons, if_pos h] at hc
      rcases List.mem_cons.1 hc with e | e
      · rw [e]; exact h
      · exact ih e
    · rw [List.takeWhile_cons, if_neg h] at hc
      cases hc
theorem ledg_all {a : List UInt8} (h : ∀ c ∈ a, isDg c = true) : ledg a = a ∧ pdg a = [] := by
  obtain ⟨h1, h2⟩ := tw_all (p := isDg) (a := a) (b := []) h
  rw [List.append_nil] at h1 h2
  unfold ledg pdg
  exact ⟨h1.trans (by simp), h2⟩
theorem ledg_cut {a b : List UInt8} {c : UInt8} (h : ∀ x ∈ a, isDg x = true) (hc : isDg c = false) : ledg (a ++ c :: b) = a ∧ pdg (a ++ c :: b) = c :: b := by
  obtain ⟨h1, h2⟩ := tw_all (p := isDg) (a := a) (b := c :: b) h
  unfold ledg pdg
  rw [h1, h2]
  simp [hc]
end Go.KI
namespace Go.Proofs.YtfcjaljaomknjaaGreatDoor
open Go.RowKit Go.KP Go.KI Go.Shelf
attribute [local go_sem] Oper.semAt_some

theorem m7digits_any (s : ByteArray) (hs : s.size ≤ 1000000) (w : World) :
    Calls Tryz.prog 50 #[.string s] w (Ret w (.int .i64 ((lead s.data.toList).length : Nat))) := by
  obtain ⟨L, hL⟩ : ∃ L, L = (lead s.data.toList).length := ⟨_, rfl⟩
  have hLs : L ≤ s.size := by rw [hL, ← bytes_len]; exact lead_le _
  rw [← hL]
  have HLE := hide hL
  clear hL
  go_enter Tryz.func50, Tryz.ntmps50
  go_wp2_with fail
  go_loopw [3] (fun i wr => ∃ k : Nat, k ≤ L ∧ i = .int .i64 k ∧ wr = w) (fun i _ => s.size - (intOf i).toNat)
  case atStart => exact ⟨0, by omega, rfl, by first | rfl | trivial⟩
  case round =>
    obtain ⟨k, hkL, rfl, rfl⟩ := hrel
    by_cases hkl : k < L
    · have hlt : k < s.size := by omega
      have hki : (k : Int) < (s.size : Int) := by omega
      have hk0 : (0 : Int) ≤ (k : Int) := by omega
      obtain ⟨c, hc, hcd⟩ := lead_at (l := s.data.toList) (k := k) (by rw [← HLE.out]; exact hkl)
      have hat : s.data.toList[k]? = some (s[k]'hlt) := by
        have h1 : s.data.toList[k]? = some s.data[k] := by simp
        exact h1
      obtain ⟨y, hyv⟩ : ∃ y : Nat, y = (s[k]'hlt).toNat := ⟨_, rfl⟩
      have hyv2 : (s[k]'hlt).toNat = y := hyv.symm
      have hdg : 48 ≤ y ∧ y ≤ 57 := by
        rw [hat] at hc
        injection hc with hc
        rw [hyv, hc]
        exact isDg_iff.1 hcd
      have v0 : (48 : Int) ≤ (y : Int) := by omega
      have v1 : (y : Int) ≤ 57 := by omega
      clear hat hyv hdg hc hcd
      go_wp2_with fail
      go_roundw
      case rel => exact ⟨k + 1, by omega, by go_num, by first | rfl | trivial⟩
      case measure => simp [intOf]; omega
    · obtain rfl : k = L := by omega
      have hk0 : (0 : Int) ≤ (k : Int) := by omega
      by_cases hfin : k < s.size
      · have hki : (k : Int) < (s.size : Int) := by omega
        obtain ⟨c, hc⟩ : ∃ c, s[k]'hfin = c := ⟨_, rfl⟩
        have hat : s.data.toList[k]? = some c := by
          have h3 : s.data.toList[k]? = some s.data[k] := by simp
          rw [h3]
          exact congrArg some hc
        have hat2 : s.data.toList[(lead s.data.toList).length]? = some c := by rw [← HLE.out]; exact hat
        have h4 := lead_end hat2
        have h5 : ¬ (48 ≤ c.toNat ∧ c.toNat ≤ 57) := fun h => by
          have h6 := isDg_iff.2 h
          rw [h4] at h6
          cases h6
        obtain ⟨y, hyv⟩ : ∃ y : Nat, y = c.toNat := ⟨_, rfl⟩
        have hyv2 : (s[k]'hfin).toNat = y := by rw [hc, hyv]
        rw [← hyv] at h5
        clear hyv hc hat hat2 h4
        rcases (show y < 48 ∨ (48 ≤ y ∧ 57 < y) by omega) with v0 | ⟨v0, v1⟩
        · have v0i : ((48 : Int) ≤ (y : Int)) = False := eq_false (by omega)
          clear v0
          go_wp2_with fail
          go_ret
          exact ⟨rfl, Below.refl _ _⟩
        · have v0i : (48 : Int) ≤ (y : Int) := by omega
          have v1i : ((y : Int) ≤ 57) = False := eq_false (by omega)
          clear v0 v1
          go_wp2_with fail
          go_ret
          exact ⟨rfl, Below.refl _ _⟩
      · have hki : ((k : Int) < (s.size : Int)) = False := eq_false (by omega)
        clear hfin
        go_wp2_with fail
        go_ret
        exact ⟨rfl, Below.refl _ _⟩
open Go.RowKit Go.KP Go.KI Go.Shelf
attribute [local go_sem] Oper.semAt_some

theorem head_byte {l : List UInt8} {c : UInt8} {r : List UInt8} (h : l = c :: r) : ∃ hp : 0 < (strB l).size, ((((strB l)[0]'hp).toNat : Nat) : Int) = (c.toNat : Int) := by
  have hp : 0 < (strB l).size := by rw [strB_size, h]; simp
  refine ⟨hp, ?_⟩
  have h3 : (strB l).data.toList[0]? = some ((strB l)[0]'hp) := by
    have h1 : (strB l).data.toList[0]? = some (strB l).data[0] := by simp
    exact h1
  have h4 : (strB l).data.toList[0]? = some c := by rw [strB_list, h]; rfl
  have h5 := Option.some.inj (h3.symm.trans h4)
  rw [h5]
theorem strB_tail (c : UInt8) (r : List UInt8) : (strB (c :: r)).extract 1 (strB (c :: r)).size = strB r := by
  rw [ext_drop, strB_list]
  rfl
end Go.Proofs.YtfcjaljaomknjaaGreatDoor
namespace Go.Proofs
open Go.Shelf
def Tryz.lays161_ren : Go.Shelf.Ren := ⟨fun | 161 => 97 | 231 => 70 | 227 => 72 | 233 => 73 | 235 => 75 | 228 => 118 | 197 => 119 | 151 => 120 | 260 => 173 | 152 => 174 | 137 => 212 | 119 => 213 | 224 => 169 | 225 => 168 | 217 => 167 | 266 => 210 | n => n, fun | 9 => 9 | 4 => 4 | 3 => 3 | 5 => 5 | 117 => 90 | 116 => 89 | 0 => 0 | 124 => 93 | 105 => 124 | 21 => 21 | 119 => 208 | 46 => 99 | 139 => 211 | 138 => 210 | n => n, fun | 3 => 2 | 4 => 3 | n => n⟩
theorem Tryz.lays161 : Go.Proofs.Lays.n161 Tryz.prog Tryz.lays161_ren := {
  mixed := by kernel_rfl
  f119 := Tryz.func213.trans (congrArg some (by kernel_rfl))
  f137 := Tryz.func212.trans (congrArg some (by kernel_rfl))
  f151 := Tryz.func120.trans (congrArg some (by kernel_rfl))
  f152 := Tryz.func174.trans (congrArg some (by kernel_rfl))
  f161 := Tryz.func97.trans (congrArg some (by kernel_rfl))
  f197 := Tryz.func119.trans (congrArg some (by kernel_rfl))
  f217 := Tryz.func167.trans (congrArg some (by kernel_rfl))
  f224 := Tryz.func169.trans (congrArg some (by kernel_rfl))
  f225 := Tryz.func168.trans (congrArg some (by kernel_rfl))
  f227 := Tryz.func72.trans (congrArg some (by kernel_rfl))
  f228 := Tryz.func118.trans (congrArg some (by kernel_rfl))
  f231 := Tryz.func70.trans (congrArg some (by kernel_rfl))
  f233 := Tryz.func73.trans (congrArg some (by kernel_rfl))
  f235 := Tryz.func75.trans (congrArg some (by kernel_rfl))
  f260 := Tryz.func173.trans (congrArg some (by kernel_rfl))
  f266 := Tryz.func210.trans (congrArg some (by kernel_rfl))
  t0 := Tryz.underlying0
  a0 := Tryz.isAgg0
  z0 := Tryz.sizeOf0
  v0 := Tryz.zeroValue0
  t3 := Tryz.underlying3
  a3 := Tryz.isAgg3
  z3 := Tryz.sizeOf3
  v3 := Tryz.zeroValue3
  t4 := Tryz.underlying4
  a4 := Tryz.isAgg4
  z4 := Tryz.sizeOf4
  v4 := Tryz.zeroValue4
  t5 := Tryz.underlying5
  a5 := Tryz.isAgg5
  z5 := Tryz.sizeOf5
  v5 := Tryz.zeroValue5
  t9 := Tryz.underlying9
  a9 := Tryz.isAgg9
  z9 := Tryz.sizeOf9
  v9 := Tryz.zeroValue9
  t21 := Tryz.underlying21
  a21 := Tryz.isAgg21
  z21 := Tryz.sizeOf21
  v21 := Tryz.zeroValue21
  t46 := Tryz.underlying99
  a46 := Tryz.isAgg99
  z46 := Tryz.sizeOf99
  v46 := Tryz.zeroValue99
  t105 := Tryz.underlying124
  a105 := Tryz.isAgg124
  z105 := Tryz.sizeOf124
  v105 := Tryz.zeroValue124
  t116 := Tryz.underlying89
  a116 := Tryz.isAgg89
  z116 := Tryz.sizeOf89
  t117 := Tryz.underlying90
  a117 := Tryz.isAgg90
  z117 := Tryz.sizeOf90
  v117 := Tryz.zeroValue90
  t119 := Tryz.underlying208
  a119 := Tryz.isAgg208
  z119 := Tryz.sizeOf208
  t124 := Tryz.underlying93
  a124 := Tryz.isAgg93
  z124 := Tryz.sizeOf93
  v124 := Tryz.zeroValue93
  t138 := Tryz.underlying210
  a138 := Tryz.isAgg210
  z138 := Tryz.sizeOf210
  v138 := Tryz.zeroValue210
  t139 := Tryz.underlying211
  a139 := Tryz.isAgg211
  z139 := Tryz.sizeOf211
  v139 := Tryz.zeroValue211
  g3 := by kernel_rfl
  g4 := by kernel_rfl }
open Go.RowKit in
theorem Tryz.strings_TrimLeft_one (s : ByteArray) (c : UInt8) (hc : c.toNat < 128) (w : World) :
    Calls Tryz.prog 97 #[.string s, .string ⟨#[c]⟩] w fun e w' => e = .returned (.string ⟨(Lib.trimLeftB s.data.toList c).toArray⟩) ∧ w' = w := Any.strings_TrimLeft_one Tryz.lays161 s c hc w
end Go.Proofs
namespace Go.KI
open Go
theorem dv_drop0 (l : List UInt8) : dv (l.dropWhile (· == 48)) = dv l := by
  induction l with
  | nil => rfl
  | cons c r ih =>
    by_cases h : c = 48
    · subst h
      have e : dv (48 :: r) = dv r := by
        have := dv_append [48] r
        rw [show dv [48] = 0 from rfl, Nat.zero_mul, Nat.zero_add] at this
        exact this
      simpa [e] using ih
    · simp [h]
theorem dropW_head {p : UInt8 → Bool} {a : UInt8} {b : List UInt8} : ∀ {l : List UInt8}, l.dropWhile p = a :: b → p a = false := by
  intro l
  induction l with
  | nil => intro h; cases h
  | cons c r ih =>
    intro h
    by_cases hc : p c = true
    · rw [List.dropWhile_cons, if_pos hc] at h
      exact ih h
    · rw [List.dropWhile_cons, if_neg hc] at h
      injection h with h1 h2
      rw [← h1]
      simpa using hc
theorem whole_dec {l : List UInt8} (h : ∀ c ∈ l, isDg c = true) (hne : l.dropWhile (· == 48) ≠ []) : l.dropWhile (· == 48) = Lib.decDigits (dv l) := by
  have h1 := dec_of hne (fun c hc => h c (List.Sublist.subset (List.dropWhile_sublist _) hc)) (fun _ hh => by
    cases hq : l.dropWhile (· == 48) with
    | nil => exact absurd hq hne
    | cons a b =>
      have h3 := dropW_head hq
      rw [hq] at hh
      injection hh with hh
      rw [hh] at h3
      exact absurd h3 (by decide))
  rw [dv_drop0] at h1
  exact h1
theorem whole_zero {l : List UInt8} (he : l.dropWhile (· == 48) = []) : dv l = 0 := by
  rw [← dv_drop0, he]
  rfl
end Go.KI
namespace Go.Proofs.YtfcjaljaomknjaaGreatDoor
open Go.RowKit Go.KP Go.KI Go.Shelf
attribute [local go_sem] Oper.semAt_some

theorem mdigits_any (s : ByteArray) (hs : s.size ≤ 1000000) (b : Bool) (hb : b = decide (allDg s.data.toList)) (w : World) :
    Calls Tryz.prog 47 #[.string s] w (Ret w (.bool b)) := by
  have HT := hide (trimDg_any s w (by omega))
  obtain ⟨T, hT⟩ : ∃ T, T = strB (Lib.trimS s.data.toList cutset) := ⟨_, rfl⟩
  have hTl : T.data.toList = Lib.trimS s.data.toList cutset := by rw [hT, strB_list]
  rw [← hT] at HT
  by_cases h0 : s.data.toList = []
  · have e := empty_yes h0
    have hbf : b = false := by rw [hb, decide_eq_false_iff_not]; exact fun h => h.1 h0
    rw [hbf]
    clear hb hbf h0 hT hTl
    go_enter Tryz.func47, Tryz.ntmps47
    go_wp2_with fail
    go_ret
    exact ⟨rfl, Below.refl _ _⟩
  · have e := empty_no h0
    have hway : (T.toList.isEmpty = true ∧ b = true) ∨ (T.toList.isEmpty = false ∧ b = false) := by
      have hn := trimS_nil s.data.toList
      by_cases ha : s.data.toList.all isDg = true
      · exact .inl ⟨empty_yes (by rw [hTl]; exact hn.2 ha), by rw [hb, decide_eq_true_iff]; exact ⟨h0, List.all_eq_true.1 ha⟩⟩
      · exact .inr ⟨empty_no (by rw [hTl]; exact fun h => ha (hn.1 h)), by rw [hb, decide_eq_false_iff_not]; exact fun h => ha (List.all_eq_true.2 h.2)⟩
    clear hb h0 hT hTl
    rcases hway with ⟨h1, h2⟩ | ⟨h1, h2⟩
    all_goals
      subst h2
      go_enter Tryz.func47, Tryz.ntmps47
      go_wp2_with fail
      refine HT.out.mono ?_
      rintro e w1 ⟨rfl, hb1⟩
      have HB1 := hide hb1
      clear hb1
      go_wp2_with fail
      go_ret
      exact ⟨rfl, HB1.out⟩
theorem mwhole_any (s : ByteArray) (h : ∀ c ∈ s.data.toList, isDg c = true) (w : World) :
    Calls Tryz.prog 49 #[.string s] w (Ret w (.string (strB (Lib.decDigits (dv s.data.toList))))) := by
  have HT : Hid (Calls Tryz.prog 97 #[.string s, .string ⟨#[48]⟩] w fun e w' => e = .returned (.string (strB (s.data.toList.dropWhile (· == 48)))) ∧ w = w') := hide ((Tryz.strings_TrimLeft_one s 48 (by decide) w).mono fun e w' ⟨he, hw⟩ => ⟨by rw [he]; rfl, hw.symm⟩)
  obtain ⟨T, hT⟩ : ∃ T, T = strB (s.data.toList.dropWhile (· == 48)) := ⟨_, rfl⟩
  have hTl : T.data.toList = s.data.toList.dropWhile (· == 48) := by rw [hT, strB_list]
  rw [← hT] at HT
  by_cases h0 : s.data.toList.dropWhile (· == 48) = []
  · have e := empty_yes (s := T) (by rw [hTl, h0])
    have HE := hide (show strB (Lib.decDigits (dv s.data.toList)) = ⟨#[48]⟩ by rw [whole_zero h0, dec_zero]; rfl)
    clear h h0 hT hTl
    go_enter Tryz.func49, Tryz.ntmps49
    go_wp2_with fail
    refine HT.out.mono ?_
    rintro e w1 ⟨rfl, rfl⟩
    go_wp2_with fail
    go_ret
    rw [HE.out]
    exact ⟨rfl, Below.refl _ _⟩
  · have e := empty_no (s := T) (by rw [hTl]; exact h0)
    have HE := hide (show strB (Lib.decDigits (dv s.data.toList)) = T by rw [hT, whole_dec h h0])
    clear h h0 hT hTl
    go_enter Tryz.func49, Tryz.ntmps49
    go_wp2_with fail
    refine HT.out.mono ?_
    rintro e w1 ⟨rfl, rfl⟩
    go_wp2_with fail
    go_ret
    rw [HE.out]
    exact ⟨rfl, Below.refl _ _⟩
theorem sz_nat {u p : Nat} (h : u < 10 ^ p) (hp : 1 ≤ p) : sz p ((u : Nat) : Rat) := by
  have e : ((u : Nat) : Rat) = (((u : Nat) : Int) : Rat) := rfl
  refine ⟨?_, ?_⟩
  · rw [e, Rat.num_intCast, Int.natAbs_natCast]
    exact h
  · rw [e, Rat.den_intCast]
    have : 10 ^ 1 ≤ 10 ^ p := Nat.pow_le_pow_right (by omega) hp
    omega
theorem ratS_nat (u : Nat) : ratS ((u : Nat) : Rat) = Lib.decDigits u := by
  have e : ((u : Nat) : Rat) = (((u : Nat) : Int) : Rat) := rfl
  rw [e, ratS_int, Lib.itoa_nonneg]
theorem mfraction_any (neg : Bool) (n d : ByteArray) (D : Nat) (h : ∀ c ∈ n.data.toList, isDg c = true) (hn : n.size ≤ 92) (hd : d.data.toList = Lib.decDigits D) (hD : D < 10 ^ 92) (h0 : D ≠ 0) (B : Nat) (w : World) (hB : B ≤ w.heap.size) (hT : PQ B w) :
    Calls Tryz.prog 48 #[.string (strB (sgnT neg)), .string n, .string d] w (Ret w (.string (strB (ratS (sgn neg ((dv n.data.toList : Nat) / ((D : Nat) : Rat))))))) := by
  have HT := hide hT
  have HW := hide (mwhole_any n h w)
  have hv : dv n.data.toList < 10 ^ 92 := by
    refine Nat.lt_of_lt_of_le (dv_lt _ h) (Nat.pow_le_pow_right (by omega) ?_)
    rw [bytes_len]
    exact hn
  have s1 := sz_nat hv (by omega)
  have s2 := sz_nat hD (by omega)
  obtain ⟨u, hu⟩ : ∃ u, u = dv n.data.toList := ⟨_, rfl⟩
  rw [← hu] at HW s1 hv ⊢
  have hD0 : ((D : Nat) : Rat) ≠ 0 := by
    intro e
    have := congrArg Rat.num e
    rw [show ((D : Nat) : Rat) = (((D : Nat) : Int) : Rat) from rfl, Rat.num_intCast] at this
    simp at this
    exact h0 this
  have HD := hide (fun w hB hT => qdiv_to (s := strB (Lib.decDigits u)) (t := d) (x := ((u : Nat) : Rat)) (y := ((D : Nat) : Rat)) (by rw [strB_list, ratS_nat]) (by rw [hd, ratS_nat]) (sz_fits s1 (by rw [most_eq]; omega)) (sz_fits s2 (by rw [most_eq]; omega)) hD0 (cmpC_of s1 s2 (by rw [most_eq]; omega)) B w hB hT)
  have s3 := sz_div (by omega) s1 s2
  obtain ⟨q, hq⟩ : ∃ q, q = ((u : Nat) : Rat) / ((D : Nat) : Rat) := ⟨_, rfl⟩
  rw [← hq] at HD s3 ⊢
  have s0 : sz 1 (0 : Rat) := ⟨by decide, by decide⟩
  have HS := hide (fun w hB hT => qsub_to (s := ⟨#[48]⟩) (t := strB (ratS q)) (x := 0) (y := q) (by rw [ratS_zero]) (strB_list _) (sz_fits s0 (by rw [most_eq]; omega)) (sz_fits s3 (by rw [most_eq]; omega)) (subC_of s0 s3 (by rw [most_eq]; omega)) B w hB hT)
  rw [show (0 : Rat) - q = -q by rw [Rat.sub_eq_add_neg, Rat.zero_add]] at HS
  obtain ⟨A, hA⟩ : ∃ X, X = strB (Lib.decDigits u) := ⟨_, rfl⟩
  obtain ⟨Q, hQ⟩ : ∃ X, X = strB (ratS q) := ⟨_, rfl⟩
  obtain ⟨R, hR⟩ : ∃ X, X = strB (ratS (-q)) := ⟨_, rfl⟩
  rw [← hA] at HW HD
  rw [← hQ] at HD HS
  rw [← hR] at HS
  cases neg with
  | false =>
    have e1 : strB (sgnT false) = ⟨#[]⟩ := rfl
    rw [e1, show sgn false q = q from rfl, ← hQ]
    clear h hn hd hD h0 hT hv s1 s2 hu hD0 s3 hq s0 hA hQ hR e1 HS
    go_enter Tryz.func48, Tryz.ntmps48
    go_wp2_with fail
    refine HW.out.mono ?_
    rintro e w1 ⟨rfl, hb1⟩
    have HB1 := hide hb1
    clear hb1
    go_wp2_with fail
    refine (HD.out _ (Nat.le_trans hB HB1.out.size) (HT.out.on HB1.out hB)).mono ?_
    rintro e w2 ⟨rfl, hb2⟩
    have HB2 := hide (HB1.out.trans (hb2.mono HB1.out.size))
    clear hb2
    go_wp2_with fail
    go_ret
    exact ⟨rfl, HB2.out⟩
  | true =>
    have e1 : strB (sgnT true) = ⟨#[45]⟩ := rfl
    rw [e1, show sgn true q = -q from rfl, ← hR]
    clear h hn hd hD h0 hT hv s1 s2 hu hD0 s3 hq s0 hA hQ hR e1
    go_enter Tryz.func48, Tryz.ntmps48
    go_wp2_with fail
    refine HW.out.mono ?_
    rintro e w1 ⟨rfl, hb1⟩
    have HB1 := hide hb1
    clear hb1
    go_wp2_with fail
    refine (HD.out _ (Nat.le_trans hB HB1.out.size) (HT.out.on HB1.out hB)).mono ?_
    rintro e w2 ⟨rfl, hb2⟩
    have HB2 := hide (HB1.out.trans (hb2.mono HB1.out.size))
    clear hb2
    go_wp2_with fail
    refine (HS.out _ (Nat.le_trans hB HB2.out.size) (HT.out.on HB2.out hB)).mono ?_
    rintro e w3 ⟨rfl, hb3⟩
    have HB3 := hide (HB2.out.trans (hb3.mono HB2.out.size))
    clear hb3
    go_wp2_with fail
    go_ret
    exact ⟨rfl, HB3.out⟩
end Go.Proofs.YtfcjaljaomknjaaGreatDoor
namespace Go.KI
open Go
theorem behind_le (c : UInt8) (l : List UInt8) : (behind c l).length ≤ l.length := by
  unfold behind
  have h := List.Sublist.length_le (List.dropWhile_sublist (l := l) (fun x => x != c))
  rw [List.length_drop]
  omega
theorem ahead_le (c : UInt8) (l : List UInt8) : (ahead c l).length ≤ l.length := List.Sublist.length_le (List.takeWhile_sublist _)
theorem both_le {c : UInt8} {l : List UInt8} (h : c ∈ l) : (ahead c l).length + (behind c l).length + 1 = l.length := by
  have := congrArg List.length (split_eq h)
  rw [List.length_append, List.length_cons] at this
  omega
theorem digs_le (l : List UInt8) : (digs l).length ≤ l.length := by
  cases l with
  | nil => exact Nat.le_refl _
  | cons c r =>
    simp only [digs]
    split <;> simp
end Go.KI
namespace Go.Proofs.YtfcjaljaomknjaaGreatDoor
open Go.RowKit Go.KP Go.KI Go.Shelf
attribute [local go_sem] Oper.semAt_some

open Go.RowKit Go.KP Go.KI Go.Shelf
attribute [local go_sem] Oper.semAt_some

theorem lead_ledg (l : List UInt8) : lead l = ledg l := rfl
theorem pdg_drop (l : List UInt8) : pdg l = l.drop (ledg l).length := by
  have h := congrArg (List.drop (ledg l).length) (ledg_pdg l)
  rw [List.drop_left] at h
  exact h
theorem ledg_take (l : List UInt8) : l.take (ledg l).length = ledg l := by
  have h := congrArg (List.take (ledg l).length) (ledg_pdg l)
  rw [List.take_left] at h
  exact h.symm
theorem ext_take (l : List UInt8) (k : Nat) : (strB l).extract 0 k = strB (l.take k) := by
  apply bytes_eq
  rw [strB_list]
  simp [strB]
def sgnR1 (neg : Bool) : Rat := if neg then -1 else 1
theorem sgn_mul (neg : Bool) (x : Rat) : sgnR1 neg * x = sgn neg x := by
  unfold sgnR1 sgn
  cases neg <;> simp only [if_true, if_false, Bool.false_eq_true] <;> grind
theorem sz_sgn1 (neg : Bool) : sz 1 (sgnR1 neg) := by
  cases neg
  · exact ⟨by decide +kernel, by decide +kernel⟩
  · exact ⟨by decide +kernel, by decide +kernel⟩
theorem sgn1_lit : T (sgnR1 true) = ⟨#[45, 49]⟩ ∧ T (sgnR1 false) = ⟨#[49]⟩ := by
  constructor
  · rw [show sgnR1 true = (((-1 : Int)) : Rat) from rfl, ← iB_T]
    apply bytes_eq
    rw [iB_list]
    decide +kernel
  · exact T1
end Go.Proofs.YtfcjaljaomknjaaGreatDoor
namespace Go.KI
open Go

def shortT (s : List UInt8) : Prop := (ledg s).length ≤ 2 ∧ Lib.decDigits (dv (ledg s)) = ledg s ∧ dv (ledg s) ≤ 11
instance (s : List UInt8) : Decidable (shortT s) := inferInstanceAs (Decidable (_ ∧ _ ∧ _))
theorem short_small {s : List UInt8} : shortT s ↔ smallT (ledg s) := by
  constructor
  · rintro ⟨_, h2, h3⟩
    rw [← h2]
    exact dec_smallT h3
  · intro h
    obtain ⟨h1, h2⟩ := smallT_dec h
    refine ⟨?_, h1.symm, h2⟩
    rcases h with ⟨h, _⟩ | h | h
    · omega
    · rw [h]; decide
    · rw [h]; decide
theorem small_dg {l : List UInt8} (h : smallT l) : l ≠ [] ∧ ∀ c ∈ l, isDg c = true := by
  rcases h with ⟨_, h⟩ | h | h
  · exact h
  · rw [h]; exact ⟨by simp, by decide⟩
  · rw [h]; exact ⟨by simp, by decide⟩
def rfOK (d : List UInt8) (neg : Bool) : Prop :=
  ledg d ≠ [] ∧ ¬ (1 < (ledg d).length ∧ d.head? = some 48) ∧ (pdg d).head? = some 39 ∧ shortT (pdg d).tail ∧ (pdg (pdg d).tail).head? = some 34 ∧
    shortT (pdg (pdg d).tail).tail ∧ pdg (pdg (pdg d).tail).tail = [] ∧ ¬ (dv (ledg d) = 0 ∧ dv (ledg (pdg d).tail) = 0 ∧ dv (ledg (pdg (pdg d).tail).tail) = 0 ∧ neg = true)
theorem cons_of {l : List UInt8} {c : UInt8} (h : l.head? = some c) : l = c :: l.tail := by
  cases l with
  | nil => cases h
  | cons a b =>
    injection h with h
    rw [h]
    rfl
theorem numeral_ledg {d : List UInt8} : numeral (ledg d) ↔ ledg d ≠ [] ∧ ¬ (1 < (ledg d).length ∧ d.head? = some 48) := by
  have hhd : ledg d ≠ [] → (ledg d).head? = d.head? := by
    intro h
    have := ledg_pdg d
    cases hl : ledg d with
    | nil => exact absurd hl h
    | cons a b =>
      rw [hl] at this
      rw [← this]
      rfl
  constructor
  · rintro ⟨h1, h2, h3⟩
    refine ⟨h1, fun h => ?_⟩
    have := h3 ((hhd h1).trans h.2)
    rw [this] at h
    exact absurd h.1 (by decide)
  · rintro ⟨h1, h2⟩
    refine ⟨h1, List.all_eq_true.2 (ledg_dg d), fun h => ?_⟩
    have h4 : ¬ 1 < (ledg d).length := fun e => h2 ⟨e, (hhd h1).symm.trans h⟩
    cases hl : ledg d with
    | nil => exact absurd hl h1
    | cons a b =>
      rw [hl] at h h4
      injection h with h
      cases b with
      | nil => rw [h]
      | cons x y => exact absurd (by simp) h4
theorem dec_zero_iff {l : List UInt8} (h : Lib.decDigits (dv l) = l) (h0 : dv l = 0) : l = [48] := by
  rw [← h, h0]
  exact dec_zero
theorem neg_digs {l : List UInt8} (h : isNeg l = true) : l = 45 :: digs l := by
  cases l with
  | nil => cases h
  | cons c r =>
    have hc : c = 45 := by simpa [isNeg] using h
    rw [hc]
    simp [digs]
theorem feet_ledg (l : List UInt8) : (feetOK l ↔ rfOK (digs l) (isNeg l)) ∧ (feetOK l →
    ahead 39 (digs l) = ledg (digs l) ∧ behind 39 (digs l) = (pdg (digs l)).tail ∧ ahead 34 (behind 39 (digs l)) = ledg (pdg (digs l)).tail ∧ behind 34 (behind 39 (digs l)) = (pdg (pdg (digs l)).tail).tail) := by
  obtain ⟨d, hd⟩ : ∃ d, d = digs l := ⟨_, rfl⟩
  unfold feetOK
  rw [← hd]
  have i39 : isDg 39 = false := by decide
  have i34 : isDg 34 = false := by decide
  have fwd : (39 ∈ d ∧ 34 ∈ behind 39 d ∧ numeral (ahead 39 d) ∧ smallT (ahead 34 (behind 39 d)) ∧ smallT (behind 34 (behind 39 d)) ∧ l ≠ [45, 48, 39, 48, 34, 48]) →
      ahead 39 d = ledg d ∧ pdg d = 39 :: behind 39 d ∧ ahead 34 (behind 39 d) = ledg (behind 39 d) ∧ pdg (behind 39 d) = 34 :: behind 34 (behind 39 d) ∧ ledg (behind 34 (behind 39 d)) = behind 34 (behind 39 d) ∧ pdg (behind 34 (behind 39 d)) = [] := by
    rintro ⟨h1, h2, h3, h4, h5, _⟩
    have e1 := split_eq h1
    have e2 := split_eq h2
    obtain ⟨R, hR⟩ : ∃ R, R = behind 39 d := ⟨_, rfl⟩
    rw [← hR] at e1 e2 h2 h4 h5 ⊢
    obtain ⟨p1, p2⟩ := ledg_cut (b := R) (List.all_eq_true.1 h3.2.1) i39
    obtain ⟨q1, q2⟩ := ledg_cut (b := behind 34 R) (small_dg h4).2 i34
    rw [← e1] at p1 p2
    rw [← e2] at q1 q2
    obtain ⟨r1, r2⟩ := ledg_all (small_dg h5).2
    exact ⟨p1.symm, p2, q1.symm, q2, r1, r2⟩
  constructor
  · constructor
    · intro h
      obtain ⟨f1, f2, f3, f4, f5, f6⟩ := fwd h
      obtain ⟨h1, h2, h3, h4, h5, h6⟩ := h
      unfold rfOK
      rw [f2, List.tail_cons, f4, List.tail_cons]
      rw [f1] at h3
      obtain ⟨k1, k2⟩ := numeral_ledg.1 h3
      refine ⟨k1, k2, rfl, short_small.2 (by rw [← f3]; exact h4), rfl, short_small.2 (by rw [f5]; exact h5), f6, ?_⟩
      rintro ⟨z1, z2, z3, z4⟩
      apply h6
      rw [f5] at z3
      rw [← f3] at z2
      have y1 := dec_zero_iff (numeral_dec h3).symm z1
      have y2 := dec_zero_iff (smallT_dec h4).1.symm z2
      have y3 := dec_zero_iff (smallT_dec h5).1.symm z3
      have e := neg_digs z4
      rw [← hd, ← ledg_pdg d, f2, y1, ← ledg_pdg (behind 39 d), f4, ← f3, y2, y3] at e
      exact e
    · rintro ⟨h1, h2, h3, h4, h5, h6, h7, h8⟩
      have e1 := cons_of h3
      have e2 := cons_of h5
      obtain ⟨R, hR⟩ : ∃ R, R = (pdg d).tail := ⟨_, rfl⟩
      rw [← hR] at e1 e2 h4 h5 h6 h7 h8
      obtain ⟨T, hT⟩ : ∃ T, T = (pdg R).tail := ⟨_, rfl⟩
      rw [← hT] at e2 h6 h7 h8
      have ed := ledg_pdg d
      rw [e1] at ed
      have eR := ledg_pdg R
      rw [e2] at eR
      have eT := ledg_pdg T
      rw [h7, List.append_nil] at eT
      have ne : ∀ (m : List UInt8) (c : UInt8), isDg c = false → ∀ x ∈ ledg m, x ≠ c := fun m c hc x hx e => by
        have := ledg_dg m x hx
        rw [e, hc] at this
        cases this
      obtain ⟨c1, c2, c3⟩ := cut_at (b := R) (ne d 39 i39)
      obtain ⟨b1, b2, b3⟩ := cut_at (b := T) (ne R 34 i34)
      rw [ed] at c1 c2 c3
      rw [eR] at b1 b2 b3
      rw [c1, c2, b1, b2]
      have s4 := short_small.1 h4
      have s6 := short_small.1 h6
      rw [eT] at s6
      refine ⟨c3, b3, numeral_ledg.2 ⟨h1, h2⟩, s4, s6, fun e => h8 ?_⟩
      have hn : isNeg l = true := by rw [e]; rfl
      have hdd : d = [48, 39, 48, 34, 48] := by rw [hd, e]; rfl
      have a1 : ledg d = [48] := by rw [hdd]; rfl
      have a2 : R = [48, 34, 48] := by rw [hR, hdd]; rfl
      have a3 : T = [48] := by rw [hT, a2]; rfl
      rw [a1, a2, a3]
      exact ⟨rfl, rfl, rfl, hn⟩
  · intro h
    obtain ⟨f1, f2, f3, f4, f5, f6⟩ := fwd h
    rw [f2, List.tail_cons, f4, List.tail_cons]
    exact ⟨f1, rfl, f3, rfl⟩
end Go.KI
namespace Go.Proofs.YtfcjaljaomknjaaGreatDoor
open Go.RowKit Go.KP Go.KI Go.Shelf
attribute [local go_sem] Oper.semAt_some

structure PE (B : Nat) (w : World) : Prop where
  pq : PQ B w
  lt2 : 5 < B
  lt3 : 6 < B
  e2 : ∃ te pe, w.cell? ⟨5, 0, none⟩ = some (.iface te pe)
  e3 : ∃ te pe, w.cell? ⟨6, 0, none⟩ = some (.iface te pe)
theorem PE.on {B n : Nat} {w w' : World} (h : PE B w) (hb : Below n w w') (hB : B ≤ n) : PE B w' := by
  have l2 := h.lt2
  have l3 := h.lt3
  refine ⟨h.pq.on hb hB, h.lt2, h.lt3, ?_, ?_⟩
  · obtain ⟨t, p, hm⟩ := h.e2
    exact ⟨t, p, (hb.cell (p := ⟨5, 0, none⟩) (show 5 < n by omega)).trans hm⟩
  · obtain ⟨t, p, hm⟩ := h.e3
    exact ⟨t, p, (hb.cell (p := ⟨6, 0, none⟩) (show 6 < n by omega)).trans hm⟩
theorem PE.mono {B B2 : Nat} {w : World} (h : PE B w) (hB : B ≤ B2) : PE B2 w := ⟨h.pq.mono hB, Nat.lt_of_lt_of_le h.lt2 hB, Nat.lt_of_lt_of_le h.lt3 hB, h.e2, h.e3⟩
theorem atoi_some (s : ByteArray) (hl : s.size ≤ 1000000) (B : Nat) (w : World) (hT : PE B w) :
    Calls Tryz.prog 112 #[.string s] w fun e w' => ∃ (k : Int) (v : Value), e = .returned (.tuple #[.int .i64 k, v]) ∧ -9223372036854775808 ≤ k ∧ k ≤ 9223372036854775807 ∧ Below w.heap.size w w' := by
  obtain ⟨t2, p2, h2⟩ := hT.e2
  obtain ⟨t3, p3, h3⟩ := hT.e3
  cases hx : Lib.atoiAll s.data.toList with
  | ok v =>
    have hb := Lib.atoiAll_bounds hx
    refine (Tryz.strconv_Atoi_ok s (by omega) v hx w).mono ?_
    rintro e w' ⟨he, rfl | ⟨t, rfl⟩⟩
    · exact ⟨_, _, he, by omega, by omega, Below.refl _ _⟩
    · exact ⟨_, _, he, by omega, by omega, Lib.bytesWorld_below w 5 t⟩
  | range =>
    refine (Any.strconv_Atoi_range Tryz.laysC172 s (by omega) hx _ w h3 (.inr ⟨_, _, rfl⟩)).mono ?_
    rintro e w' ⟨N, he, hN, _, hb⟩
    refine ⟨_, _, he, ?_, ?_, hb⟩
    · unfold Lib.atoiSat; split <;> omega
    · unfold Lib.atoiSat; split <;> omega
  | _ =>
    refine (Any.strconv_Atoi_syntax Tryz.laysC172 s (by omega) hx _ w h2 (.inr ⟨_, _, rfl⟩)).mono ?_
    rintro e w' ⟨N, he, hN, _, hb⟩
    exact ⟨_, _, he, by omega, by omega, hb⟩
theorem itoa_not {l : List UInt8} (hd : ∀ c ∈ l, isDg c = true) (h : Lib.decDigits (dv l) ≠ l) (k : Int) : Lib.itoa k ≠ l := by
  intro e
  rcases itoa_cases k with ⟨_, a⟩ | ⟨_, a⟩
  · have := hd 45 (by rw [← e, a]; simp)
    revert this
    decide
  · rw [a] at e
    apply h
    rw [← e, dv_decDigits]
theorem cls_callP {f : Nat} {args : Array Value} {v : Value} {B n : Nat} {W0 : World} (H : ∀ w, B ≤ w.heap.size → P10 B w → Calls Tryz.prog f args w (Ret w v)) (hT : P10 B W0) (hB : B ≤ n) (hn : n ≤ W0.heap.size) (x : Of (Below n W0)) :
    Calls Tryz.prog f args x.w fun e w' => e = .returned v ∧ Cls (Below n W0) w' :=
  (H x.w (by have := x.h.size; omega) (hT.on x.h hB)).mono fun _ _ ⟨h, hb⟩ => ⟨h, Cls.mk (x.h.trans (hb.mono (by have := x.h.size; omega)))⟩
def shortV (l : List UInt8) : Value := if shortT l then .tuple #[.int .i64 (dv (ledg l) : Nat), .int .i64 ((ledg l).length : Nat)] else .tuple #[.int .i64 0, .int .i64 0]
theorem m7short_any (l : List UInt8) (hl : l.length ≤ 1000000) (B : Nat) (w : World) (hB : B ≤ w.heap.size) (hT : PE B w) :
    Calls Tryz.prog 60 #[.string (strB l)] w (Ret w (shortV l)) := by
  have HT := hide hT
  have HD := hide (fun w => m7digits_any (strB l) (by rw [strB_size]; omega) w)
  rw [strB_list, lead_ledg] at HD
  have hle : (ledg l).length ≤ l.length := lead_le l
  have ex1 : (strB l).extract 0 (ledg l).length = strB (ledg l) := by rw [ext_take, ledg_take]
  have hdg := ledg_dg l
  have hsz : (strB l).size = l.length := strB_size l
  obtain ⟨L, hL⟩ : ∃ L, L = ledg l := ⟨_, rfl⟩
  obtain ⟨n, hn⟩ : ∃ n, n = L.length := ⟨_, rfl⟩
  rw [← hL, ← hn] at HD hle ex1
  rw [← hL] at hdg
  obtain ⟨R, hR⟩ : ∃ R, R = shortV l := ⟨_, rfl⟩
  rw [← hR]
  have hyes : n ≤ 2 → Lib.decDigits (dv L) = L → dv L ≤ 11 → R = .tuple #[.int .i64 (dv L : Nat), .int .i64 (n : Nat)] := fun a b c => by
    rw [hR]
    unfold shortV
    rw [if_pos ⟨by rw [← hL, ← hn]; exact a, by rw [← hL]; exact b, by rw [← hL]; exact c⟩, ← hL, ← hn]
  have hno : ¬ (n ≤ 2 ∧ Lib.decDigits (dv L) = L ∧ dv L ≤ 11) → R = .tuple #[.int .i64 0, .int .i64 0] := fun h => by
    rw [hR]
    unfold shortV
    rw [if_neg (fun k => h ⟨by rw [hn, hL]; exact k.1, by rw [hL]; exact k.2.1, by rw [hL]; exact k.2.2⟩)]
  obtain ⟨SL, hSL⟩ : ∃ S, S = strB l := ⟨_, rfl⟩
  rw [← hSL] at HD ex1 hsz ⊢
  obtain ⟨X, hX⟩ : ∃ S, S = strB L := ⟨_, rfl⟩
  rw [← hX] at ex1
  have hXs : X.size = n := by rw [hX, strB_size, hn]
  have n0 : (0 : Int) ≤ (n : Int) := by omega
  have n1 : (n : Int) ≤ (SL.size : Int) := by omega
  have n2 : n ≤ SL.size := by omega
  have HX := hide hX
  have HN := hide hn
  have HDG := hide hdg
  by_cases c1 : 2 < n
  · have g1 : (2 : Int) < (n : Int) := by omega
    have e := hno (fun h => by omega)
    subst e
    have HA := hide (fun w (hB : B ≤ w.heap.size) (hT : PE B w) => atoi_some X (by omega) B w hT)
    clear hR hyes hno hL hn hX hSL hle hsz hdg c1 hT
    go_enter Tryz.func60, Tryz.ntmps60
    go_wp2_with fail
    refine (HD.out _).mono ?_
    rintro e w1 ⟨rfl, hb1⟩
    have HB1 := hide hb1
    clear hb1
    go_wp2_with fail
    refine (HA.out _ (Nat.le_trans hB HB1.out.size) (HT.out.on HB1.out hB)).mono ?_
    rintro e w2 ⟨k, v, rfl, hk0, hk1, hb2⟩
    have HB2 := hide (HB1.out.trans (hb2.mono HB1.out.size))
    clear hb2
    obtain ⟨W1, hW1⟩ : ∃ W, W = w2 := ⟨_, rfl⟩
    subst hW1
    go_wp2_with fail
    have kn : Nonempty (Of (Below W1.heap.size W1)) := ⟨⟨_, Below.refl _ _⟩⟩
    refine region_class (C := Cls (Below W1.heap.size W1)) (by kernel_rfl) (by kernel_rfl) (by kernel_rfl) (Cls.mk (Below.refl _ _).drew) ?_
    repeat (go_big_quiet_step (first | rfl))
    refine wpQuiet_nil ?_
    intro w3 hcl
    have HB3 := hide (HB2.out.trans (hcl.out.mono HB2.out.size))
    clear hcl kn
    go_wp2_with fail
    refine bodyPost_ret (results_tmp2 rfl _ _ _) rfl ?_
    exact ⟨rfl, HB3.out⟩
  have g1 : ((2 : Int) < (n : Int)) = False := eq_false (by omega)
  by_cases c2 : Lib.decDigits (dv L) = L
  · have hdv : dv L < 1000 := by
      have := dv_lt L hdg
      refine Nat.lt_of_lt_of_le this (Nat.le_trans (Nat.pow_le_pow_right (by omega) (show L.length ≤ 3 by omega)) (by decide))
    have hXi : X = strB (Lib.itoa ((dv L : Nat) : Int)) := by rw [Lib.itoa_nonneg, c2]; exact hX
    have hXl : X.data.toList = Lib.itoa ((dv L : Nat) : Int) := by rw [hXi, strB_list]
    have HA := hide (fun w => atoi_any X (by rw [hXl, chk_itoa, if_pos (fits_le_pow (k := 3) (by omega) (by omega))]) (by omega) w)
    rw [hXl, val_itoa] at HA
    obtain ⟨k, hk⟩ : ∃ k, k = dv L := ⟨_, rfl⟩
    have HI := hide (fun w (hB : B ≤ w.heap.size) hT => itoa_any ((k : Nat) : Int) (by omega) (by omega) B w hT)
    rw [hk, ← hXi, ← hk] at HI
    rw [← hk] at HA hyes hno hdv
    have ne1 : (X.toList == X.toList) = true := beq_self_eq_true _
    have ne2 : (X.toList != X.toList) = false := by simp only [bne, ne1]; rfl
    have hway : ((11 : Int) < (k : Int) ∧ R = .tuple #[.int .i64 0, .int .i64 0]) ∨ (((11 : Int) < (k : Int)) = False ∧ R = .tuple #[.int .i64 (k : Nat), .int .i64 (n : Nat)]) := by
      by_cases h : k ≤ 11
      · exact .inr ⟨eq_false (by omega), hyes (by omega) (by rw [hk]; exact c2) h⟩
      · exact .inl ⟨by omega, hno (fun q => h q.2.2)⟩
    clear hR hyes hno hL hn hX hSL hle hsz hdg c1 c2 hT hXi hXl hk hdv
    rcases hway with ⟨q, rfl⟩ | ⟨q, rfl⟩
    all_goals
      go_enter Tryz.func60, Tryz.ntmps60
      go_wp2_with fail
      refine (HD.out _).mono ?_
      rintro e w1 ⟨rfl, hb1⟩
      have HB1 := hide hb1
      clear hb1
      go_wp2_with fail
      refine (HA.out _).mono ?_
      rintro e w2 ⟨rfl, hb2⟩
      have HB2 := hide (HB1.out.trans (hb2.mono HB1.out.size))
      clear hb2
      obtain ⟨W1, hW1⟩ : ∃ W, W = w2 := ⟨_, rfl⟩
      subst hW1
      have HK := hide (fun (o : Of (Below W1.heap.size W1)) => cls_callP HI.out (HT.out.on HB2.out hB).pq.p10 (Nat.le_trans hB HB2.out.size) (Nat.le_refl _) o)
      go_wp2_with fail
      have kn : Nonempty (Of (Below W1.heap.size W1)) := ⟨⟨_, Below.refl _ _⟩⟩
      refine region_class (C := Cls (Below W1.heap.size W1)) (by kernel_rfl) (by kernel_rfl) (by kernel_rfl) (Cls.mk (Below.refl _ _).drew) ?_
      repeat (go_big_quiet_step (first | rfl | with_reducible exact HK.out _))
      refine wpQuiet_nil ?_
      intro w3 hcl
      have HB3 := hide (HB2.out.trans (hcl.out.mono HB2.out.size))
      clear hcl kn HK
      go_wp2_with fail
      refine bodyPost_ret (results_tmp2 rfl _ _ _) rfl ?_
      exact ⟨rfl, HB3.out⟩
  · have e := hno (fun h => c2 h.2.1)
    subst e
    have HA := hide (fun w (hB : B ≤ w.heap.size) (hT : PE B w) => atoi_some X (by omega) B w hT)
    have HI := hide (fun (k : Int) (h0 : -9223372036854775808 ≤ k) (h1 : k ≤ 9223372036854775807) w (hB : B ≤ w.heap.size) hT => itoa_any k h0 h1 B w hT)
    have HNE := hide (fun k : Int => show ((strB (Lib.itoa k)).toList == X.toList) = false by
      rw [ByteArray.toList_eq, ByteArray.toList_eq, strB_list, HX.out, strB_list]
      exact beq_false_of_ne (itoa_not HDG.out c2 k))
    clear hR hyes hno hL hn hX hSL hle hsz hdg c1 c2 hT
    go_enter Tryz.func60, Tryz.ntmps60
    go_wp2_with fail
    refine (HD.out _).mono ?_
    rintro e w1 ⟨rfl, hb1⟩
    have HB1 := hide hb1
    clear hb1
    go_wp2_with fail
    refine (HA.out _ (Nat.le_trans hB HB1.out.size) (HT.out.on HB1.out hB)).mono ?_
    rintro e w2 ⟨k, v, rfl, hk0, hk1, hb2⟩
    have HB2 := hide (HB1.out.trans (hb2.mono HB1.out.size))
    clear hb2
    obtain ⟨W1, hW1⟩ : ∃ W, W = w2 := ⟨_, rfl⟩
    subst hW1
    have HK := hide (fun (o : Of (Below W1.heap.size W1)) => cls_callP (HI.out k hk0 hk1) (HT.out.on HB2.out hB).pq.p10 (Nat.le_trans hB HB2.out.size) (Nat.le_refl _) o)
    have ne1 := HNE.out k
    obtain ⟨Y, hY⟩ : ∃ Y, Y = strB (Lib.itoa k) := ⟨_, rfl⟩
    rw [← hY] at HK ne1
    have ne2 : (Y.toList != X.toList) = true := by simp only [bne, ne1]; rfl
    clear hY
    go_wp2_with fail
    have kn : Nonempty (Of (Below W1.heap.size W1)) := ⟨⟨_, Below.refl _ _⟩⟩
    refine region_class (C := Cls (Below W1.heap.size W1)) (by kernel_rfl) (by kernel_rfl) (by kernel_rfl) (Cls.mk (Below.refl _ _).drew) ?_
    repeat (go_big_quiet_step (first | rfl | with_reducible exact HK.out _))
    refine wpQuiet_nil ?_
    intro w3 hcl
    have HB3 := hide (HB2.out.trans (hcl.out.mono HB2.out.size))
    clear hcl kn HK
    go_wp2_with fail
    refine bodyPost_ret (results_tmp2 rfl _ _ _) rfl ?_
    exact ⟨rfl, HB3.out⟩
end Go.Proofs.YtfcjaljaomknjaaGreatDoor
