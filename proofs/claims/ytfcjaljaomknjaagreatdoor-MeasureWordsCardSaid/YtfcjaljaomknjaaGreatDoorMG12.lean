/-
  Texts laid together.
-/
import Derived.Test.YtfcjaljaomknjaaGreatDoorMG11
import Derived.Test.YtfcjaljaomknjaaGreatDoorMG5
import Derived.Test.YtfcjaljaomknjaaGreatDoorMG1
import Derived.Ground.GgwProg
import Derived.Ground.SlgfProg
import Derived.Shelf.Bits.Mul64
import Derived.Shelf.GgClosure.StringsIndexFunc
import Derived.Shelf.GgClosure.StringsIndexFuncTop
import Derived.Shelf.LaysC
import Derived.Shelf.LaysM
import Derived.Shelf.SlicesE.IndexFunc
import Derived.Shelf.Small.Strs
import Derived.Shelf.Small.Utf8
import Derived.Shelf.Small.Wraps
import Derived.Shelf.Strconv.Atoi
import Derived.Shelf.Strconv.AtoiAll
import Derived.Shelf.Strconv.AtoiErrFast
import Derived.Shelf.Strconv.AtoiFail
import Derived.Shelf.Strconv.AtoiInnerAll
import Derived.Shelf.Strconv.AtoiLong
import Derived.Shelf.Strconv.Clone
import Derived.Shelf.Strconv.ErrVarAll
import Derived.Shelf.Strconv.Itoa0
import Derived.Shelf.Strconv.Itoa1
import Derived.Shelf.Strconv.Itoa2
import Derived.Shelf.Strconv.Itoa3
import Derived.Shelf.Strconv.Lower
import Derived.Shelf.Strconv.ParseInt10
import Derived.Shelf.Strconv.ParseIntEmpty
import Derived.Shelf.Strconv.ParseUint10
import Derived.Shelf.Strconv.ParseUint10Any
import Derived.Shelf.Strconv.ParseUint10Empty
import Derived.Shelf.Strconv.ParseUint10b16
import Derived.Shelf.Strconv.ParseUint10b32
import Derived.Shelf.Strconv.ParseUint10b64
import Derived.Shelf.Strconv.ParseUint10b8
import Derived.Shelf.Strconv.ParseUintEmpty
import Derived.Shelf.Strconv.RangeError
import Derived.Shelf.Strconv.SyntaxError
import Derived.Shelf.Strconv.ToError
import Derived.Shelf.Strconv.ToErrorRange
import Derived.Shelf.Strings.AsciiSet
import Derived.Shelf.Strings.Builder1
import Derived.Shelf.Strings.Builder2
import Derived.Shelf.Strings.Builder2Cap
import Derived.Shelf.Strings.BuilderF
import Derived.Shelf.Strings.BuilderK
import Derived.Shelf.Strings.Cut
import Derived.Shelf.Strings.OnBuilder
import Derived.Shelf.Strings.Prefix
import Derived.Shelf.Strings.Repeat
import Derived.Shelf.Strings.Runes
import Derived.Shelf.Strings.Search1
import Derived.Shelf.Strings.Search2
import Derived.Shelf.Strings.Search3
import Derived.Shelf.Strings.Shaped
import Derived.Shelf.Strings.Trim
import Derived.Shelf.Unicode.CaseConvert
import Derived.Shelf.Unicode.CaseLaid
import Derived.Shelf.Unicode.CaseLookup
import Derived.Shelf.Unicode.CaseTo
import Derived.Shelf.Unicode.Decode
import Derived.Shelf.Unicode.DecodeAny
import Derived.Shelf.Unicode.DecodeSlow
import Derived.Shelf.Unicode.Latin
import Derived.Test.YtfcjaljaomknjaaGreatDoorProg
set_option maxRecDepth 100000
set_option maxHeartbeats 4000000
namespace Go.Proofs.YtfcjaljaomknjaaGreatDoor
open Go.RowKit Go.KP Go.KI Go.Shelf

theorem ratS_len {x : Rat} (h : fitsQ x) : (ratS x).length ≤ 1000 := by
  have h1 := itoa_len x.num
  have h2 := fits_len.1 h.1
  have h3 := fits_nat.1 h.2
  unfold ratS
  split
  · omega
  · rw [List.length_append, List.length_cons]
    omega
theorem good_len {s : ByteArray} {x : Rat} (h : s.data.toList = ratS x) (f : fitsQ x) : s.size ≤ 1000000 := by
  have := ratS_len f
  rw [← bytes_len, h]
  omega
theorem good_val {s : ByteArray} {x : Rat} (h : s.data.toList = ratS x) (f : fitsQ x) : chkQ s.data.toList = 0 ∧ valQ s.data.toList = x := by
  rw [h, ratS_num]
  exact ⟨chkQ_fits f, rfl⟩
theorem qsub_to {s t : ByteArray} {x y : Rat} (h1 : s.data.toList = ratS x) (h2 : t.data.toList = ratS y) (f1 : fitsQ x) (f2 : fitsQ y) (hc : subC x y) (B : Nat) (w : World) (hB : B ≤ w.heap.size) (hT : PQ B w) :
    Calls Tryz.prog 96 #[.string s, .string t] w (Ret w (.tuple #[.string (strB (ratS (x - y))), .int .i64 0])) := by
  obtain ⟨a1, a2⟩ := good_val h1 f1
  obtain ⟨b1, b2⟩ := good_val h2 f2
  have h := qSub_any s t (good_len h1 f1) (good_len h2 f2) B w hB hT
  unfold qopS qopE at h
  rw [if_pos (zero_bothQ a1 b1), if_pos (zero_bothQ a1 b1), a2, b2, if_pos hc, if_pos hc] at h
  exact h
theorem qdiv_to {s t : ByteArray} {x y : Rat} (h1 : s.data.toList = ratS x) (h2 : t.data.toList = ratS y) (f1 : fitsQ x) (f2 : fitsQ y) (hy : y ≠ 0) (hc : cmpC x y) (B : Nat) (w : World) (hB : B ≤ w.heap.size) (hT : PQ B w) :
    Calls Tryz.prog 95 #[.string s, .string t] w (Ret w (.tuple #[.string (strB (ratS (x / y))), .int .i64 0])) := by
  obtain ⟨a1, a2⟩ := good_val h1 f1
  obtain ⟨b1, b2⟩ := good_val h2 f2
  have h := qDiv_any s t (good_len h1 f1) (good_len h2 f2) B w hB hT
  unfold divS divE at h
  rw [if_pos (zero_bothQ a1 b1), if_pos (zero_bothQ a1 b1), a2, b2, if_neg hy, if_neg hy, if_pos hc, if_pos hc] at h
  exact h
end Go.Proofs.YtfcjaljaomknjaaGreatDoor
namespace Go.KI
open Go

def near2 (n : Int) (d : Int) : Int := (2 * n + d).fdiv (2 * d)
theorem near2_spec {n d : Int} (hd : 0 < d) : 2 * d * near2 n d ≤ 2 * n + d ∧ 2 * n + d < 2 * d * near2 n d + 2 * d := by
  unfold near2
  rw [Int.fdiv_eq_ediv_of_nonneg _ (by omega)]
  have h1 := Int.mul_ediv_add_emod (2 * n + d) (2 * d)
  have h2 := Int.emod_nonneg (2 * n + d) (show 2 * d ≠ 0 by omega)
  have h3 := Int.emod_lt_of_pos (2 * n + d) (show 0 < 2 * d by omega)
  omega
open Go

def feetT (m : Int) : List UInt8 :=
  (if decide (m < 0) then [45] else []) ++ (Lib.decDigits (m.natAbs / 144) ++ 39 :: (Lib.decDigits (m.natAbs % 144 / 12) ++ 34 :: Lib.decDigits (m.natAbs % 144 % 12)))
def smallT (l : List UInt8) : Prop := (l.length = 1 ∧ allDg l) ∨ l = [49, 48] ∨ l = [49, 49]
instance (l : List UInt8) : Decidable (smallT l) := inferInstanceAs (Decidable (_ ∨ _ ∨ _))
theorem ten_dec : Lib.decDigits 10 = [49, 48] := by rw [Lib.decDigits, dif_neg (by omega), show 10 / 10 = 1 from rfl, one_dec]; rfl
theorem eleven_dec : Lib.decDigits 11 = [49, 49] := by rw [Lib.decDigits, dif_neg (by omega), show 11 / 10 = 1 from rfl, one_dec]; rfl
theorem smallT_dec {l : List UInt8} (h : smallT l) : l = Lib.decDigits (dv l) ∧ dv l ≤ 11 := by
  rcases h with ⟨h1, h2⟩ | h | h
  · refine ⟨dec_of h2.1 h2.2 (fun hl => by omega), ?_⟩
    have := dv_lt l h2.2
    rw [h1] at this
    omega
  · rw [h]
    exact ⟨by rw [show dv [49, 48] = 10 from rfl, ten_dec], by decide⟩
  · rw [h]
    exact ⟨by rw [show dv [49, 49] = 11 from rfl, eleven_dec], by decide⟩
def feetOK (l : List UInt8) : Prop :=
  39 ∈ digs l ∧ 34 ∈ behind 39 (digs l) ∧ numeral (ahead 39 (digs l)) ∧ smallT (ahead 34 (behind 39 (digs l))) ∧ smallT (behind 34 (behind 39 (digs l))) ∧ l ≠ [45, 48, 39, 48, 34, 48]
instance (l : List UInt8) : Decidable (feetOK l) := inferInstanceAs (Decidable (_ ∧ _ ∧ _ ∧ _ ∧ _ ∧ _))
open Go
theorem dec_pow (p : Nat) : Lib.decDigits (10 ^ p) = 49 :: List.replicate p 48 := by
  induction p with
  | zero => rw [Nat.pow_zero, one_dec]; rfl
  | succ p ih =>
    have h : 10 ≤ 10 ^ (p + 1) := by
      have := Nat.pow_le_pow_right (n := 10) (by omega) (show 1 ≤ p + 1 by omega)
      simpa using this
    rw [Lib.decDigits, dif_neg (by omega), show 10 ^ (p + 1) / 10 = 10 ^ p by rw [Nat.pow_succ]; omega, show 10 ^ (p + 1) % 10 = 0 by rw [Nat.pow_succ]; omega, ih, List.replicate_succ']
    rfl
def chkM (l : List UInt8) : Int := if chkQ l ≠ 0 then chkQ l else if 90 < max (Lib.decDigits (valQ l).num.natAbs).length (Lib.decDigits (valQ l).den).length then 4 else 0
end Go.KI
namespace Go.Proofs.YtfcjaljaomknjaaGreatDoor
open Go.RowKit Go.KP Go.KI Go.Shelf
attribute [local go_sem] Oper.semAt_some

theorem mmul_to {s t : ByteArray} {x y : Int} (h1 : s.data.toList = Lib.itoa x) (h2 : t.data.toList = Lib.itoa y) (f1 : fits x) (f2 : fits y) (f3 : fits (x * y)) (B : Nat) (w : World) (hB : B ≤ w.heap.size) (hT : P10 B w) :
    Calls Tryz.prog 38 #[.string s, .string t] w (Ret w (.string (strB (Lib.itoa (x * y))))) := by
  have HM := hide (mul_yes h1 h2 f1 f2 f3 B w hB hT)
  obtain ⟨X, hX⟩ : ∃ X, X = strB (Lib.itoa (x * y)) := ⟨_, rfl⟩
  rw [← hX] at HM ⊢
  clear h1 h2 f1 f2 f3 hX hT
  go_enter Tryz.func38, Tryz.ntmps38
  go_wp2_with fail
  refine HM.out.mono ?_
  rintro e w1 ⟨rfl, hb1⟩
  have HB1 := hide hb1
  clear hb1
  go_wp2_with fail
  go_ret
  exact ⟨rfl, HB1.out⟩
theorem mdivide_to {s t : ByteArray} {x y : Int} (h1 : s.data.toList = Lib.itoa x) (h2 : t.data.toList = Lib.itoa y) (f1 : fits x) (f2 : fits y) (hy : y ≠ 0) (B : Nat) (w : World) (hB : B ≤ w.heap.size) (hT : P10 B w) :
    Calls Tryz.prog 44 #[.string s, .string t] w (Ret w (.tuple #[.string (strB (Lib.itoa (x.fdiv y))), .string (strB (Lib.itoa (x.fmod y)))])) := by
  have HM := hide (Divide_to (q := strB (Lib.itoa (x.fdiv y))) (r := strB (Lib.itoa (x.fmod y))) h1 h2 (strB_list _) (strB_list _) f1 f2 hy B w hB hT)
  obtain ⟨X, hX⟩ : ∃ X, X = strB (Lib.itoa (x.fdiv y)) := ⟨_, rfl⟩
  obtain ⟨Y, hY⟩ : ∃ X, X = strB (Lib.itoa (x.fmod y)) := ⟨_, rfl⟩
  rw [← hX, ← hY] at HM ⊢
  clear h1 h2 f1 f2 hX hY hT hy
  go_enter Tryz.func44, Tryz.ntmps44
  go_wp2_with fail
  refine HM.out.mono ?_
  rintro e w1 ⟨rfl, hb1⟩
  have HB1 := hide hb1
  clear hb1
  go_wp2_with fail
  refine bodyPost_ret (results_tmp2 rfl _ _ _) rfl ?_
  exact ⟨rfl, HB1.out⟩
theorem itoa_two : (⟨#[50]⟩ : ByteArray).data.toList = Lib.itoa 2 := by
  rw [show (2 : Int) = ((2 : Nat) : Int) from rfl, Lib.itoa_nonneg, Lib.decDigits_one (by omega)]
  rfl
theorem fits_two : fits 2 := fits_small (n := 1) (by rw [most_eq]; omega) (by decide)
theorem mnearest_to {s t : ByteArray} {n d : Int} (h1 : s.data.toList = Lib.itoa n) (h2 : t.data.toList = Lib.itoa d) (f1 : fits n) (f2 : fits d) (f3 : fits (n * 2)) (f4 : fits (n * 2 + d)) (f5 : fits (d * 2)) (hd : 0 < d) (B : Nat) (w : World) (hB : B ≤ w.heap.size) (hT : P10 B w) :
    Calls Tryz.prog 37 #[.string s, .string t] w (Ret w (.string (strB (Lib.itoa (near2 n d))))) := by
  have HT := hide hT
  have H1 := hide (fun w hB hT => mmul_to h1 itoa_two f1 fits_two f3 B w hB hT)
  have H2 := hide (fun w hB hT => Add_good (s := strB (Lib.itoa (n * 2))) (t := t) (strB_list _) h2 f3 f2 f4 B w hB hT)
  have H3 := hide (fun w hB hT => mmul_to h2 itoa_two f2 fits_two f5 B w hB hT)
  have H4 := hide (fun w hB hT => mdivide_to (s := strB (Lib.itoa (n * 2 + d))) (t := strB (Lib.itoa (d * 2))) (strB_list _) (strB_list _) f4 f5 (by omega) B w hB hT)
  have e : (n * 2 + d).fdiv (d * 2) = near2 n d := by unfold near2; rw [Int.mul_comm n, Int.mul_comm d]
  rw [e] at H4
  obtain ⟨A, hA⟩ : ∃ X, X = strB (Lib.itoa (n * 2)) := ⟨_, rfl⟩
  obtain ⟨C, hC⟩ : ∃ X, X = strB (Lib.itoa (n * 2 + d)) := ⟨_, rfl⟩
  obtain ⟨D, hD⟩ : ∃ X, X = strB (Lib.itoa (d * 2)) := ⟨_, rfl⟩
  obtain ⟨Q, hQ⟩ : ∃ X, X = strB (Lib.itoa (near2 n d)) := ⟨_, rfl⟩
  obtain ⟨R, hR⟩ : ∃ X, X = strB (Lib.itoa ((n * 2 + d).fmod (d * 2))) := ⟨_, rfl⟩
  have H2 : Hid (∀ w, B ≤ w.heap.size → P10 B w → Calls Tryz.prog 59 #[.string A, .string t] w (Ret w (.tuple #[.string C, .int .i64 0]))) := hide (by rw [hA, hC]; exact H2.out)
  rw [← hA] at H1
  rw [← hD] at H3
  rw [← hC, ← hD, ← hQ, ← hR] at H4
  rw [← hQ]
  clear h1 h2 f1 f2 f3 f4 f5 hA hC hD hQ hR e hd hT
  go_enter Tryz.func37, Tryz.ntmps37
  go_wp2_with fail
  refine (H1.out _ hB HT.out).mono ?_
  rintro e w1 ⟨rfl, hb1⟩
  have HB1 := hide hb1
  clear hb1
  go_wp2_with fail
  refine (H2.out _ (Nat.le_trans hB HB1.out.size) (HT.out.on HB1.out hB)).mono ?_
  rintro e w2 ⟨rfl, hb2⟩
  have HB2 := hide (HB1.out.trans (hb2.mono HB1.out.size))
  clear hb2
  go_wp2_with fail
  refine (H3.out _ (Nat.le_trans hB HB2.out.size) (HT.out.on HB2.out hB)).mono ?_
  rintro e w3 ⟨rfl, hb3⟩
  have HB3 := hide (HB2.out.trans (hb3.mono HB2.out.size))
  clear hb3
  go_wp2_with fail
  refine (H4.out _ (Nat.le_trans hB HB3.out.size) (HT.out.on HB3.out hB)).mono ?_
  rintro e w4 ⟨rfl, hb4⟩
  have HB4 := hide (HB3.out.trans (hb4.mono HB3.out.size))
  clear hb4
  go_wp2_with fail
  go_ret
  exact ⟨rfl, HB4.out⟩
abbrev powT (p : Nat) : List UInt8 := Lib.itoa ((10 ^ p : Nat) : Int)
theorem mpower_to (p : Nat) (hp : p ≤ 100000) (w : World) :
    Calls Tryz.prog 39 #[.int .i64 p] w (Ret w (.string (strB (powT p)))) := by
  have HR := hide (repeat_any ⟨#[48]⟩ p w (by omega) (by decide))
  have hl : Lib.repeatL (⟨#[48]⟩ : ByteArray).data.toList p = List.replicate p 48 := by
    exact repeat48 p
  rw [hl] at HR
  have HX := hide (show strB (powT p) = ⟨#[49]⟩ ++ strB (List.replicate p 48) by
    apply bytes_eq
    rw [strB_list]
    show Lib.itoa ((10 ^ p : Nat) : Int) = _
    rw [Lib.itoa_nonneg, dec_pow, ByteArray.data_append, Array.toList_append, strB_list]
    rfl)
  have hs : (strB (List.replicate p 48)).size ≤ 100000 := by rw [strB_size, List.length_replicate]; exact hp
  obtain ⟨Z, hZ⟩ : ∃ Z, Z = strB (List.replicate p 48) := ⟨_, rfl⟩
  obtain ⟨X, hX⟩ : ∃ Z, Z = strB (powT p) := ⟨_, rfl⟩
  rw [← hZ] at HR HX hs
  rw [← hX] at HX ⊢
  have v : (9223372036854775807 < 1 + Z.size) = False := eq_false (by omega)
  clear hl hZ hX hp
  go_enter Tryz.func39, Tryz.ntmps39
  go_wp2_with fail
  refine HR.out.mono ?_
  rintro e w1 ⟨rfl, hb1⟩
  have HB1 := hide hb1
  clear hb1
  go_wp2_with fail
  go_ret
  rw [HX.out]
  exact ⟨rfl, HB1.out⟩
def sgnT (neg : Bool) : List UInt8 := if neg then [45] else []
theorem msigned_any (s : ByteArray) (w : World) :
    Calls Tryz.prog 36 #[.string s] w (Ret w (.tuple #[.string (strB (sgnT (isNeg s.data.toList))), .string (strB (digs s.data.toList))])) := by
  have HP := hide (cutPrefix_any s w)
  rw [show decide (s.data.toList.head? = some 45) = isNeg s.data.toList from rfl] at HP
  have hway : (isNeg s.data.toList = true ∧ strB (sgnT (isNeg s.data.toList)) = ⟨#[45]⟩) ∨ (isNeg s.data.toList = false ∧ strB (sgnT (isNeg s.data.toList)) = ⟨#[]⟩ ∧ strB (digs s.data.toList) = s) := by
    cases h : isNeg s.data.toList with
    | true => exact .inl ⟨rfl, rfl⟩
    | false =>
      refine .inr ⟨rfl, rfl, ?_⟩
      have h1 : s.data.toList.head? ≠ some 45 := by simpa [isNeg] using h
      apply bytes_eq
      rw [strB_list]
      cases hl : s.data.toList with
      | nil => rfl
      | cons c r =>
        rw [hl] at h1
        have : c ≠ 45 := by simpa using h1
        simp [digs, this]
  obtain ⟨D, hD⟩ : ∃ Z, Z = strB (digs s.data.toList) := ⟨_, rfl⟩
  rw [← hD] at HP hway ⊢
  clear hD
  rcases hway with ⟨h1, h2⟩ | ⟨h1, h2, h3⟩
  · rw [h1] at HP h2
    rw [h1, h2]
    clear h1 h2
    go_enter Tryz.func36, Tryz.ntmps36
    go_wp2_with fail
    refine HP.out.mono ?_
    rintro e w1 ⟨rfl, rfl⟩
    go_wp2_with fail
    refine bodyPost_ret (results_tmp2 rfl _ _ _) rfl ?_
    exact ⟨rfl, Below.refl _ _⟩
  · rw [h1] at HP h2
    rw [h1, h2]
    have HE := hide h3
    clear h1 h2 h3
    go_enter Tryz.func36, Tryz.ntmps36
    go_wp2_with fail
    refine HP.out.mono ?_
    rintro e w1 ⟨rfl, rfl⟩
    go_wp2_with fail
    refine bodyPost_ret (results_tmp2 rfl _ _ _) rfl ?_
    rw [HE.out]
    exact ⟨rfl, Below.refl _ _⟩
def partsM (l : List UInt8) : Value := if chkM l = 0 then tripV (Lib.itoa (valQ l).num) (Lib.itoa ((valQ l).den : Int)) 0 else tripV [] [] (chkM l)
theorem tripV_err (z : Int) : tripV [] [] z = .tuple #[.string ⟨#[]⟩, .string ⟨#[]⟩, .int .i64 z] := rfl
theorem mparts_any (s : ByteArray) (hs : s.size ≤ 1000000) (B : Nat) (w : World) (hB : B ≤ w.heap.size) (hT : PQ B w) :
    Calls Tryz.prog 54 #[.string s] w (Ret w (partsM s.data.toList)) := by
  have HT := hide hT
  have HC := hide (qCheck_any s hs B w hB hT)
  by_cases hc : chkQ s.data.toList = 0
  · have HP := hide (fun w hB hT => qParts_any s hs B w hB hT)
    rw [hc] at HC
    rw [show partsR s.data.toList = tripV (Lib.itoa (valQ s.data.toList).num) (Lib.itoa ((valQ s.data.toList).den : Int)) 0 from if_pos hc] at HP
    have hM : chkM s.data.toList = if 90 < max (Lib.decDigits (valQ s.data.toList).num.natAbs).length (Lib.decDigits (valQ s.data.toList).den).length then 4 else 0 := by unfold chkM; rw [if_neg (by simp [hc])]
    obtain ⟨N, hN⟩ : ∃ Z, Z = strB (Lib.itoa (valQ s.data.toList).num) := ⟨_, rfl⟩
    obtain ⟨D, hD⟩ : ∃ Z, Z = strB (Lib.itoa ((valQ s.data.toList).den : Int)) := ⟨_, rfl⟩
    have HTP := hide (fun w => trimPrefix_any N w)
    rw [show N.data.toList = Lib.itoa (valQ s.data.toList).num by rw [hN, strB_list], digs_itoa] at HTP
    have hDs : D.size = (Lib.decDigits (valQ s.data.toList).den).length := by rw [hD, strB_size, Lib.itoa_nonneg]
    obtain ⟨O, hO⟩ : ∃ Z, Z = strB (Lib.decDigits (valQ s.data.toList).num.natAbs) := ⟨_, rfl⟩
    have hOs : O.size = (Lib.decDigits (valQ s.data.toList).num.natAbs).length := by rw [hO, strB_size]
    rw [← hDs, ← hOs] at hM
    rw [← hO] at HTP
    rw [show tripV (Lib.itoa (valQ s.data.toList).num) (Lib.itoa ((valQ s.data.toList).den : Int)) 0 = .tuple #[.string N, .string D, .int .i64 0] by rw [hN, hD]] at HP
    by_cases h90 : 90 < max O.size D.size
    · have hm : (90 : Int) < max (O.size : Int) (D.size : Int) := by omega
      rw [if_pos h90] at hM
      rw [show partsM s.data.toList = tripV [] [] 4 by unfold partsM; rw [hM, if_neg (by decide)], tripV_err]
      clear hc hM hN hD hDs hO hOs h90 hT
      go_enter Tryz.func54, Tryz.ntmps54
      go_wp2_with fail
      refine HC.out.mono ?_
      rintro e w1 ⟨rfl, hb1⟩
      have HB1 := hide hb1
      clear hb1
      go_wp2_with fail
      refine (HP.out _ (Nat.le_trans hB HB1.out.size) (HT.out.on HB1.out hB)).mono ?_
      rintro e w2 ⟨rfl, hb2⟩
      have HB2 := hide (HB1.out.trans (hb2.mono HB1.out.size))
      clear hb2
      go_wp2_with fail
      refine (HTP.out _).mono ?_
      rintro e w3 ⟨rfl, rfl⟩
      go_wp2_with fail
      go_ret3
      exact ⟨rfl, HB2.out⟩
    · have hm : ((90 : Int) < max (O.size : Int) (D.size : Int)) = False := eq_false (by omega)
      rw [if_neg h90] at hM
      rw [show partsM s.data.toList = .tuple #[.string N, .string D, .int .i64 0] by unfold partsM; rw [if_pos hM, hN, hD]]
      clear hc hM hN hD hDs hO hOs h90 hT
      go_enter Tryz.func54, Tryz.ntmps54
      go_wp2_with fail
      refine HC.out.mono ?_
      rintro e w1 ⟨rfl, hb1⟩
      have HB1 := hide hb1
      clear hb1
      go_wp2_with fail
      refine (HP.out _ (Nat.le_trans hB HB1.out.size) (HT.out.on HB1.out hB)).mono ?_
      rintro e w2 ⟨rfl, hb2⟩
      have HB2 := hide (HB1.out.trans (hb2.mono HB1.out.size))
      clear hb2
      go_wp2_with fail
      refine (HTP.out _).mono ?_
      rintro e w3 ⟨rfl, rfl⟩
      go_wp2_with fail
      go_ret3
      exact ⟨rfl, HB2.out⟩
  · have hM : chkM s.data.toList = chkQ s.data.toList := if_pos hc
    rw [show partsM s.data.toList = tripV [] [] (chkQ s.data.toList) by unfold partsM; rw [hM, if_neg hc], tripV_err]
    have hne : (chkQ s.data.toList != 0) = true := by simpa using hc
    obtain ⟨E, hE⟩ : ∃ E, E = chkQ s.data.toList := ⟨_, rfl⟩
    rw [← hE] at HC hne ⊢
    clear hE hc hM hT
    go_enter Tryz.func54, Tryz.ntmps54
    go_wp2_with fail
    refine HC.out.mono ?_
    rintro e w1 ⟨rfl, hb1⟩
    have HB1 := hide hb1
    clear hb1
    go_wp2_with fail
    go_ret3
    exact ⟨rfl, HB1.out⟩
def chkP (l : List UInt8) (p : Int) : Int := if chkM l ≠ 0 then chkM l else if p < 0 ∨ 100 < p then 2 else 0
def checkM (l : List UInt8) (p : Int) : Value := if chkP l p = 0 then tripV (Lib.itoa (valQ l).num) (Lib.itoa ((valQ l).den : Int)) 0 else tripV [] [] (chkP l p)
theorem mcheck_any (s : ByteArray) (hs : s.size ≤ 1000000) (p : Int) (B : Nat) (w : World) (hB : B ≤ w.heap.size) (hT : PQ B w) :
    Calls Tryz.prog 35 #[.string s, .int .i64 p] w (Ret w (checkM s.data.toList p)) := by
  have HM := hide (mparts_any s hs B w hB hT)
  by_cases hc : chkM s.data.toList = 0
  · rw [show partsM s.data.toList = tripV (Lib.itoa (valQ s.data.toList).num) (Lib.itoa ((valQ s.data.toList).den : Int)) 0 from if_pos hc] at HM
    have hP : chkP s.data.toList p = if p < 0 ∨ 100 < p then 2 else 0 := by unfold chkP; rw [if_neg (by simp [hc])]
    obtain ⟨N, hN⟩ : ∃ Z, Z = strB (Lib.itoa (valQ s.data.toList).num) := ⟨_, rfl⟩
    obtain ⟨D, hD⟩ : ∃ Z, Z = strB (Lib.itoa ((valQ s.data.toList).den : Int)) := ⟨_, rfl⟩
    rw [show tripV (Lib.itoa (valQ s.data.toList).num) (Lib.itoa ((valQ s.data.toList).den : Int)) 0 = .tuple #[.string N, .string D, .int .i64 0] by rw [hN, hD]] at HM
    have hway : (p < 0 ∧ checkM s.data.toList p = .tuple #[.string ⟨#[]⟩, .string ⟨#[]⟩, .int .i64 2]) ∨ ((p < 0) = False ∧ 100 < p ∧ checkM s.data.toList p = .tuple #[.string ⟨#[]⟩, .string ⟨#[]⟩, .int .i64 2]) ∨
        ((p < 0) = False ∧ (100 < p) = False ∧ checkM s.data.toList p = .tuple #[.string N, .string D, .int .i64 0]) := by
      by_cases h1 : p < 0
      · have e : chkP s.data.toList p = 2 := by rw [hP, if_pos (.inl h1)]
        exact .inl ⟨h1, by unfold checkM; rw [e, if_neg (by decide)]; rfl⟩
      · by_cases h2 : 100 < p
        · have e : chkP s.data.toList p = 2 := by rw [hP, if_pos (.inr h2)]
          exact .inr (.inl ⟨eq_false h1, h2, by unfold checkM; rw [e, if_neg (by decide)]; rfl⟩)
        · have e : chkP s.data.toList p = 0 := by rw [hP, if_neg (fun h => by rcases h with h | h <;> contradiction)]
          exact .inr (.inr ⟨eq_false h1, eq_false h2, by unfold checkM; rw [if_pos e, hN, hD]⟩)
    clear hc hP hN hD hT
    rcases hway with ⟨h1, h2⟩ | ⟨h1, h3, h2⟩ | ⟨h1, h3, h2⟩
    all_goals
      rw [h2]
      clear h2
      go_enter Tryz.func35, Tryz.ntmps35
      go_wp2_with fail
      refine HM.out.mono ?_
      rintro e w1 ⟨rfl, hb1⟩
      have HB1 := hide hb1
      clear hb1
      go_wp2_with fail
      go_ret3
      exact ⟨rfl, HB1.out⟩
  · have hP : chkP s.data.toList p = chkM s.data.toList := if_pos hc
    rw [show partsM s.data.toList = tripV [] [] (chkM s.data.toList) from if_neg hc] at HM
    rw [show checkM s.data.toList p = tripV [] [] (chkM s.data.toList) by unfold checkM; rw [hP, if_neg hc]]
    rw [tripV_err] at HM ⊢
    have hne : (chkM s.data.toList == 0) = false := by simpa using hc
    obtain ⟨E, hE⟩ : ∃ E, E = chkM s.data.toList := ⟨_, rfl⟩
    rw [← hE] at HM hne ⊢
    clear hE hc hP hT
    go_enter Tryz.func35, Tryz.ntmps35
    go_wp2_with fail
    refine HM.out.mono ?_
    rintro e w1 ⟨rfl, hb1⟩
    have HB1 := hide hb1
    clear hb1
    go_wp2_with fail
    go_ret3
    exact ⟨rfl, HB1.out⟩
end Go.Proofs.YtfcjaljaomknjaaGreatDoor
namespace Go.Proofs
open Go.Shelf
def Tryz.lays161_ren : Go.Shelf.Ren := ⟨fun | 161 => 97 | 231 => 70 | 227 => 72 | 233 => 73 | 235 => 75 | 228 => 118 | 197 => 119 | 151 => 120 | 260 => 173 | 152 => 174 | 137 => 212 | 119 => 213 | 224 => 169 | 225 => 168 | 217 => 167 | 266 => 210 | n => n, fun | 9 => 9 | 4 => 4 | 3 => 3 | 5 => 5 | 117 => 90 | 116 => 89 | 0 => 0 | 124 => 93 | 105 => 124 | 21 => 21 | 119 => 208 | 46 => 99 | 139 => 211 | 138 => 210 | n => n, fun | 3 => 2 | 4 => 3 | n => n⟩
theorem Tryz.lays161 : Go.Proofs.Lays.n161 Tryz.prog Tryz.lays161_ren := {
  mixed := by kernel_rfl
  f119 := Tryz.func213.trans (congrArg some (by kernel_rfl))
  f137 := Tryz.func212.trans (congrArg some (by kernel_rfl))
  f151 := Tryz.func120.trans (congrArg some (by kernel_rfl))
  f152 := Tryz.func174.trans (congrArg some (by kernel_rfl))
  f161 := Tryz.func97.trans (congrArg some (by kernel_rfl))
  f197 := Tryz.func119.trans (congrArg some (by kernel_rfl))
  f217 := Tryz.func167.trans (congrArg some (by kernel_rfl))
  f224 := Tryz.func169.trans (congrArg some (by kernel_rfl))
  f225 := Tryz.func168.trans (congrArg some (by kernel_rfl))
  f227 := Tryz.func72.trans (congrArg some (by kernel_rfl))
  f228 := Tryz.func118.trans (congrArg some (by kernel_rfl))
  f231 := Tryz.func70.trans (congrArg some (by kernel_rfl))
  f233 := Tryz.func73.trans (congrArg some (by kernel_rfl))
  f235 := Tryz.func75.trans (congrArg some (by kernel_rfl))
  f260 := Tryz.func173.trans (congrArg some (by kernel_rfl))
  f266 := Tryz.func210.trans (congrArg some (by kernel_rfl))
  t0 := Tryz.underlying0
  a0 := Tryz.isAgg0
  z0 := Tryz.sizeOf0
  v0 := Tryz.zeroValue0
  t3 := Tryz.underlying3
  a3 := Tryz.isAgg3
  z3 := Tryz.sizeOf3
  v3 := Tryz.zeroValue3
  t4 := Tryz.underlying4
  a4 := Tryz.isAgg4
  z4 := Tryz.sizeOf4
  v4 := Tryz.zeroValue4
  t5 := Tryz.underlying5
  a5 := Tryz.isAgg5
  z5 := Tryz.sizeOf5
  v5 := Tryz.zeroValue5
  t9 := Tryz.underlying9
  a9 := Tryz.isAgg9
  z9 := Tryz.sizeOf9
  v9 := Tryz.zeroValue9
  t21 := Tryz.underlying21
  a21 := Tryz.isAgg21
  z21 := Tryz.sizeOf21
  v21 := Tryz.zeroValue21
  t46 := Tryz.underlying99
  a46 := Tryz.isAgg99
  z46 := Tryz.sizeOf99
  v46 := Tryz.zeroValue99
  t105 := Tryz.underlying124
  a105 := Tryz.isAgg124
  z105 := Tryz.sizeOf124
  v105 := Tryz.zeroValue124
  t116 := Tryz.underlying89
  a116 := Tryz.isAgg89
  z116 := Tryz.sizeOf89
  t117 := Tryz.underlying90
  a117 := Tryz.isAgg90
  z117 := Tryz.sizeOf90
  v117 := Tryz.zeroValue90
  t119 := Tryz.underlying208
  a119 := Tryz.isAgg208
  z119 := Tryz.sizeOf208
  t124 := Tryz.underlying93
  a124 := Tryz.isAgg93
  z124 := Tryz.sizeOf93
  v124 := Tryz.zeroValue93
  t138 := Tryz.underlying210
  a138 := Tryz.isAgg210
  z138 := Tryz.sizeOf210
  v138 := Tryz.zeroValue210
  t139 := Tryz.underlying211
  a139 := Tryz.isAgg211
  z139 := Tryz.sizeOf211
  v139 := Tryz.zeroValue211
  g3 := by kernel_rfl
  g4 := by kernel_rfl }
open Go.RowKit in
theorem Tryz.strings_TrimLeft_one (s : ByteArray) (c : UInt8) (hc : c.toNat < 128) (w : World) :
    Calls Tryz.prog 97 #[.string s, .string ⟨#[c]⟩] w fun e w' => e = .returned (.string ⟨(Lib.trimLeftB s.data.toList c).toArray⟩) ∧ w' = w := Any.strings_TrimLeft_one Tryz.lays161 s c hc w
end Go.Proofs
namespace Go.KI
open Go
theorem dv_drop0 (l : List UInt8) : dv (l.dropWhile (· == 48)) = dv l := by
  induction l with
  | nil => rfl
  | cons c r ih =>
    by_cases h : c = 48
    · subst h
      have e : dv (48 :: r) = dv r := by
        have := dv_append [48] r
        rw [show dv [48] = 0 from rfl, Nat.zero_mul, Nat.zero_add] at this
        exact this
      simpa [e] using ih
    · simp [h]
theorem dropW_head {p : UInt8 → Bool} {a : UInt8} {b : List UInt8} : ∀ {l : List UInt8}, l.dropWhile p = a :: b → p a = false := by
  intro l
  induction l with
  | nil => intro h; cases h
  | cons c r ih =>
    intro h
    by_cases hc : p c = true
    · rw [List.dropWhile_cons, if_pos hc] at h
      exact ih h
    · rw [List.dropWhile_cons, if_neg hc] at h
      injection h with h1 h2
      rw [← h1]
      simpa using hc
theorem whole_dec {l : List UInt8} (h : ∀ c ∈ l, isDg c = true) (hne : l.dropWhile (· == 48) ≠ []) : l.dropWhile (· == 48) = Lib.decDigits (dv l) := by
  have h1 := dec_of hne (fun c hc => h c (List.Sublist.subset (List.dropWhile_sublist _) hc)) (fun _ hh => by
    cases hq : l.dropWhile (· == 48) with
    | nil => exact absurd hq hne
    | cons a b =>
      have h3 := dropW_head hq
      rw [hq] at hh
      injection hh with hh
      rw [hh] at h3
      exact absurd h3 (by decide))
  rw [dv_drop0] at h1
  exact h1
theorem whole_zero {l : List UInt8} (he : l.dropWhile (· == 48) = []) : dv l = 0 := by
  rw [← dv_drop0, he]
  rfl
end Go.KI
namespace Go.Proofs.YtfcjaljaomknjaaGreatDoor
open Go.RowKit Go.KP Go.KI Go.Shelf
attribute [local go_sem] Oper.semAt_some

theorem mdigits_any (s : ByteArray) (hs : s.size ≤ 1000000) (b : Bool) (hb : b = decide (allDg s.data.toList)) (w : World) :
    Calls Tryz.prog 47 #[.string s] w (Ret w (.bool b)) := by
  have HT := hide (trimDg_any s w (by omega))
  obtain ⟨T, hT⟩ : ∃ T, T = strB (Lib.trimS s.data.toList cutset) := ⟨_, rfl⟩
  have hTl : T.data.toList = Lib.trimS s.data.toList cutset := by rw [hT, strB_list]
  rw [← hT] at HT
  by_cases h0 : s.data.toList = []
  · have e := empty_yes h0
    have hbf : b = false := by rw [hb, decide_eq_false_iff_not]; exact fun h => h.1 h0
    rw [hbf]
    clear hb hbf h0 hT hTl
    go_enter Tryz.func47, Tryz.ntmps47
    go_wp2_with fail
    go_ret
    exact ⟨rfl, Below.refl _ _⟩
  · have e := empty_no h0
    have hway : (T.toList.isEmpty = true ∧ b = true) ∨ (T.toList.isEmpty = false ∧ b = false) := by
      have hn := trimS_nil s.data.toList
      by_cases ha : s.data.toList.all isDg = true
      · exact .inl ⟨empty_yes (by rw [hTl]; exact hn.2 ha), by rw [hb, decide_eq_true_iff]; exact ⟨h0, List.all_eq_true.1 ha⟩⟩
      · exact .inr ⟨empty_no (by rw [hTl]; exact fun h => ha (hn.1 h)), by rw [hb, decide_eq_false_iff_not]; exact fun h => ha (List.all_eq_true.2 h.2)⟩
    clear hb h0 hT hTl
    rcases hway with ⟨h1, h2⟩ | ⟨h1, h2⟩
    all_goals
      subst h2
      go_enter Tryz.func47, Tryz.ntmps47
      go_wp2_with fail
      refine HT.out.mono ?_
      rintro e w1 ⟨rfl, hb1⟩
      have HB1 := hide hb1
      clear hb1
      go_wp2_with fail
      go_ret
      exact ⟨rfl, HB1.out⟩
theorem mwhole_any (s : ByteArray) (h : ∀ c ∈ s.data.toList, isDg c = true) (w : World) :
    Calls Tryz.prog 49 #[.string s] w (Ret w (.string (strB (Lib.decDigits (dv s.data.toList))))) := by
  have HT : Hid (Calls Tryz.prog 97 #[.string s, .string ⟨#[48]⟩] w fun e w' => e = .returned (.string (strB (s.data.toList.dropWhile (· == 48)))) ∧ w = w') := hide ((Tryz.strings_TrimLeft_one s 48 (by decide) w).mono fun e w' ⟨he, hw⟩ => ⟨by rw [he]; rfl, hw.symm⟩)
  obtain ⟨T, hT⟩ : ∃ T, T = strB (s.data.toList.dropWhile (· == 48)) := ⟨_, rfl⟩
  have hTl : T.data.toList = s.data.toList.dropWhile (· == 48) := by rw [hT, strB_list]
  rw [← hT] at HT
  by_cases h0 : s.data.toList.dropWhile (· == 48) = []
  · have e := empty_yes (s := T) (by rw [hTl, h0])
    have HE := hide (show strB (Lib.decDigits (dv s.data.toList)) = ⟨#[48]⟩ by rw [whole_zero h0, dec_zero]; rfl)
    clear h h0 hT hTl
    go_enter Tryz.func49, Tryz.ntmps49
    go_wp2_with fail
    refine HT.out.mono ?_
    rintro e w1 ⟨rfl, rfl⟩
    go_wp2_with fail
    go_ret
    rw [HE.out]
    exact ⟨rfl, Below.refl _ _⟩
  · have e := empty_no (s := T) (by rw [hTl]; exact h0)
    have HE := hide (show strB (Lib.decDigits (dv s.data.toList)) = T by rw [hT, whole_dec h h0])
    clear h h0 hT hTl
    go_enter Tryz.func49, Tryz.ntmps49
    go_wp2_with fail
    refine HT.out.mono ?_
    rintro e w1 ⟨rfl, rfl⟩
    go_wp2_with fail
    go_ret
    rw [HE.out]
    exact ⟨rfl, Below.refl _ _⟩
theorem sz_nat {u p : Nat} (h : u < 10 ^ p) (hp : 1 ≤ p) : sz p ((u : Nat) : Rat) := by
  have e : ((u : Nat) : Rat) = (((u : Nat) : Int) : Rat) := rfl
  refine ⟨?_, ?_⟩
  · rw [e, Rat.num_intCast, Int.natAbs_natCast]
    exact h
  · rw [e, Rat.den_intCast]
    have : 10 ^ 1 ≤ 10 ^ p := Nat.pow_le_pow_right (by omega) hp
    omega
theorem ratS_nat (u : Nat) : ratS ((u : Nat) : Rat) = Lib.decDigits u := by
  have e : ((u : Nat) : Rat) = (((u : Nat) : Int) : Rat) := rfl
  rw [e, ratS_int, Lib.itoa_nonneg]
theorem mfraction_any (neg : Bool) (n d : ByteArray) (D : Nat) (h : ∀ c ∈ n.data.toList, isDg c = true) (hn : n.size ≤ 92) (hd : d.data.toList = Lib.decDigits D) (hD : D < 10 ^ 92) (h0 : D ≠ 0) (B : Nat) (w : World) (hB : B ≤ w.heap.size) (hT : PQ B w) :
    Calls Tryz.prog 48 #[.string (strB (sgnT neg)), .string n, .string d] w (Ret w (.string (strB (ratS (sgn neg ((dv n.data.toList : Nat) / ((D : Nat) : Rat))))))) := by
  have HT := hide hT
  have HW := hide (mwhole_any n h w)
  have hv : dv n.data.toList < 10 ^ 92 := by
    refine Nat.lt_of_lt_of_le (dv_lt _ h) (Nat.pow_le_pow_right (by omega) ?_)
    rw [bytes_len]
    exact hn
  have s1 := sz_nat hv (by omega)
  have s2 := sz_nat hD (by omega)
  obtain ⟨u, hu⟩ : ∃ u, u = dv n.data.toList := ⟨_, rfl⟩
  rw [← hu] at HW s1 hv ⊢
  have hD0 : ((D : Nat) : Rat) ≠ 0 := by
    intro e
    have := congrArg Rat.num e
    rw [show ((D : Nat) : Rat) = (((D : Nat) : Int) : Rat) from rfl, Rat.num_intCast] at this
    simp at this
    exact h0 this
  have HD := hide (fun w hB hT => qdiv_to (s := strB (Lib.decDigits u)) (t := d) (x := ((u : Nat) : Rat)) (y := ((D : Nat) : Rat)) (by rw [strB_list, ratS_nat]) (by rw [hd, ratS_nat]) (sz_fits s1 (by rw [most_eq]; omega)) (sz_fits s2 (by rw [most_eq]; omega)) hD0 (cmpC_of s1 s2 (by rw [most_eq]; omega)) B w hB hT)
  have s3 := sz_div (by omega) s1 s2
  obtain ⟨q, hq⟩ : ∃ q, q = ((u : Nat) : Rat) / ((D : Nat) : Rat) := ⟨_, rfl⟩
  rw [← hq] at HD s3 ⊢
  have s0 : sz 1 (0 : Rat) := ⟨by decide, by decide⟩
  have HS := hide (fun w hB hT => qsub_to (s := ⟨#[48]⟩) (t := strB (ratS q)) (x := 0) (y := q) (by rw [ratS_zero]) (strB_list _) (sz_fits s0 (by rw [most_eq]; omega)) (sz_fits s3 (by rw [most_eq]; omega)) (subC_of s0 s3 (by rw [most_eq]; omega)) B w hB hT)
  rw [show (0 : Rat) - q = -q by rw [Rat.sub_eq_add_neg, Rat.zero_add]] at HS
  obtain ⟨A, hA⟩ : ∃ X, X = strB (Lib.decDigits u) := ⟨_, rfl⟩
  obtain ⟨Q, hQ⟩ : ∃ X, X = strB (ratS q) := ⟨_, rfl⟩
  obtain ⟨R, hR⟩ : ∃ X, X = strB (ratS (-q)) := ⟨_, rfl⟩
  rw [← hA] at HW HD
  rw [← hQ] at HD HS
  rw [← hR] at HS
  cases neg with
  | false =>
    have e1 : strB (sgnT false) = ⟨#[]⟩ := rfl
    rw [e1, show sgn false q = q from rfl, ← hQ]
    clear h hn hd hD h0 hT hv s1 s2 hu hD0 s3 hq s0 hA hQ hR e1 HS
    go_enter Tryz.func48, Tryz.ntmps48
    go_wp2_with fail
    refine HW.out.mono ?_
    rintro e w1 ⟨rfl, hb1⟩
    have HB1 := hide hb1
    clear hb1
    go_wp2_with fail
    refine (HD.out _ (Nat.le_trans hB HB1.out.size) (HT.out.on HB1.out hB)).mono ?_
    rintro e w2 ⟨rfl, hb2⟩
    have HB2 := hide (HB1.out.trans (hb2.mono HB1.out.size))
    clear hb2
    go_wp2_with fail
    go_ret
    exact ⟨rfl, HB2.out⟩
  | true =>
    have e1 : strB (sgnT true) = ⟨#[45]⟩ := rfl
    rw [e1, show sgn true q = -q from rfl, ← hR]
    clear h hn hd hD h0 hT hv s1 s2 hu hD0 s3 hq s0 hA hQ hR e1
    go_enter Tryz.func48, Tryz.ntmps48
    go_wp2_with fail
    refine HW.out.mono ?_
    rintro e w1 ⟨rfl, hb1⟩
    have HB1 := hide hb1
    clear hb1
    go_wp2_with fail
    refine (HD.out _ (Nat.le_trans hB HB1.out.size) (HT.out.on HB1.out hB)).mono ?_
    rintro e w2 ⟨rfl, hb2⟩
    have HB2 := hide (HB1.out.trans (hb2.mono HB1.out.size))
    clear hb2
    go_wp2_with fail
    refine (HS.out _ (Nat.le_trans hB HB2.out.size) (HT.out.on HB2.out hB)).mono ?_
    rintro e w3 ⟨rfl, hb3⟩
    have HB3 := hide (HB2.out.trans (hb3.mono HB2.out.size))
    clear hb3
    go_wp2_with fail
    go_ret
    exact ⟨rfl, HB3.out⟩
end Go.Proofs.YtfcjaljaomknjaaGreatDoor
namespace Go.KI
open Go
theorem behind_le (c : UInt8) (l : List UInt8) : (behind c l).length ≤ l.length := by
  unfold behind
  have h := List.Sublist.length_le (List.dropWhile_sublist (l := l) (fun x => x != c))
  rw [List.length_drop]
  omega
theorem ahead_le (c : UInt8) (l : List UInt8) : (ahead c l).length ≤ l.length := List.Sublist.length_le (List.takeWhile_sublist _)
theorem both_le {c : UInt8} {l : List UInt8} (h : c ∈ l) : (ahead c l).length + (behind c l).length + 1 = l.length := by
  have := congrArg List.length (split_eq h)
  rw [List.length_append, List.length_cons] at this
  omega
theorem digs_le (l : List UInt8) : (digs l).length ≤ l.length := by
  cases l with
  | nil => exact Nat.le_refl _
  | cons c r =>
    simp only [digs]
    split <;> simp
end Go.KI
namespace Go.Proofs.YtfcjaljaomknjaaGreatDoor
open Go.RowKit Go.KP Go.KI Go.Shelf
attribute [local go_sem] Oper.semAt_some

open Go.RowKit Go.KP Go.KI Go.Shelf
attribute [local go_sem] Oper.semAt_some

def unitsP (q : Rat) (p : Nat) : Int := near2 (q.num * ((10 ^ p : Nat) : Int)) (q.den : Int)
theorem chkM_ok {l : List UInt8} (h : chkM l = 0) : chkQ l = 0 ∧ (valQ l).num.natAbs < 10 ^ 90 ∧ (valQ l).den < 10 ^ 90 := by
  unfold chkM at h
  by_cases h1 : chkQ l = 0
  · rw [if_neg (by simp [h1])] at h
    by_cases h2 : 90 < max (Lib.decDigits (valQ l).num.natAbs).length (Lib.decDigits (valQ l).den).length
    · rw [if_pos h2] at h
      cases h
    · exact ⟨h1, (dec_len_le (by omega)).1 (by omega), (dec_len_le (by omega)).1 (by omega)⟩
  · rw [if_pos h1] at h
    exact absurd h h1
theorem chkP_ok {l : List UInt8} {p : Int} (h : chkP l p = 0) : chkM l = 0 ∧ 0 ≤ p ∧ p ≤ 100 := by
  unfold chkP at h
  by_cases h1 : chkM l = 0
  · rw [if_neg (by simp [h1])] at h
    by_cases h2 : p < 0 ∨ 100 < p
    · rw [if_pos h2] at h
      cases h
    · exact ⟨h1, by omega, by omega⟩
  · rw [if_pos h1] at h
    exact absurd h h1
theorem pow_le_i {p q : Nat} (h : p ≤ q) : (10 : Nat) ^ p ≤ 10 ^ q := Nat.pow_le_pow_right (by omega) h
theorem fits_le_pow {z : Int} {k : Nat} (hk : k ≤ 300) (h : z.natAbs < 10 ^ k) : fits z := fits_small (by rw [most_eq]; exact hk) h
theorem print_fits {n : Int} {d p : Nat} (hn : n.natAbs < 10 ^ 90) (hd : d < 10 ^ 90) (hp : p ≤ 100) :
    fits n ∧ fits (d : Int) ∧ fits ((10 ^ p : Nat) : Int) ∧ fits (n * ((10 ^ p : Nat) : Int)) ∧ fits (n * ((10 ^ p : Nat) : Int) * 2) ∧ fits (n * ((10 ^ p : Nat) : Int) * 2 + (d : Int)) ∧ fits ((d : Int) * 2) := by
  have hpp := pow_le_i hp
  have h1 : (n * ((10 ^ p : Nat) : Int)).natAbs < 10 ^ (90 + 101) := by
    rw [Int.natAbs_mul, Int.natAbs_natCast]
    exact mul_pow_lt hn (Nat.lt_of_le_of_lt hpp (Nat.pow_lt_pow_right (by omega) (by omega)))
  have h2 : (n * ((10 ^ p : Nat) : Int) * 2).natAbs < 10 ^ 192 := by
    have := add_pow_lt h1 h1
    rw [Int.natAbs_mul, show (2 : Int).natAbs = 2 from rfl]
    omega
  have h3 : d < 10 ^ 192 := Nat.lt_of_lt_of_le hd (pow_le_i (by omega))
  have h4 := add_pow_lt h2 h3
  have h5 := add_pow_lt hd hd
  refine ⟨fits_le_pow (k := 90) (by omega) hn, fits_le_pow (k := 90) (by omega) (by rw [Int.natAbs_natCast]; exact hd), fits_le_pow (k := 101) (by omega) (by rw [Int.natAbs_natCast]; exact Nat.lt_of_le_of_lt hpp (Nat.pow_lt_pow_right (by omega) (by omega))), fits_le_pow (k := 90 + 101) (by omega) h1, fits_le_pow (k := 192) (by omega) h2, fits_le_pow (k := 193) (by omega) (by omega), fits_le_pow (k := 91) (by omega) (by omega)⟩
open Go.RowKit Go.KP Go.KI Go.Shelf
attribute [local go_sem] Oper.semAt_some

theorem isNeg_itoa (m : Int) : isNeg (Lib.itoa m) = decide (m < 0) := by
  unfold isNeg
  exact decide_eq_decide.2 (itoa_head m)
def printS (l : List UInt8) (p : Int) : List UInt8 := if chkP l p = 0 then decT (unitsP (valQ l) p.toNat) p.toNat else []
theorem near2_abs {n d : Int} (hd : 0 < d) : (near2 n d).natAbs ≤ n.natAbs + 1 := by
  obtain ⟨h1, h2⟩ := near2_spec (n := n) hd
  obtain ⟨z, hz⟩ : ∃ z, z = near2 n d := ⟨_, rfl⟩
  rw [← hz] at h1 h2 ⊢
  rcases Int.lt_or_le z 0 with h | h
  · obtain ⟨k, hk⟩ : ∃ k : Nat, z = -(k : Int) := ⟨z.natAbs, by omega⟩
    subst hk
    have h3 : 2 * d * -(k : Int) = -(2 * (d * k)) := by rw [Int.mul_neg, Int.mul_assoc]
    rw [h3] at h1 h2
    have h4 : (k : Int) ≤ d * k := by
      have : 1 * (k : Int) ≤ d * k := Int.mul_le_mul_of_nonneg_right (by omega) (by omega)
      omega
    have h5 : d * (k : Int) - d ≥ (k : Int) - 1 := by
      have h6 : d * (k : Int) - d = d * ((k : Int) - 1) := by rw [Int.mul_sub, Int.mul_one]
      have h7 : 1 * ((k : Int) - 1) ≤ d * ((k : Int) - 1) := Int.mul_le_mul_of_nonneg_right (by omega) (by omega)
      omega
    omega
  · obtain ⟨k, hk⟩ : ∃ k : Nat, z = (k : Int) := ⟨z.natAbs, by omega⟩
    subst hk
    rw [Int.mul_assoc] at h1 h2
    rcases Nat.eq_zero_or_pos k with h0 | h0
    · omega
    · have h5 : d * (k : Int) - d ≥ (k : Int) - 1 := by
        have h6 : d * (k : Int) - d = d * ((k : Int) - 1) := by rw [Int.mul_sub, Int.mul_one]
        have h7 : 1 * ((k : Int) - 1) ≤ d * ((k : Int) - 1) := Int.mul_le_mul_of_nonneg_right (by omega) (by omega)
        omega
      omega
theorem units_len {q : Rat} {p : Nat} (hn : q.num.natAbs < 10 ^ 90) (hp : p ≤ 100) : (Lib.decDigits (unitsP q p).natAbs).length ≤ 192 := by
  refine (dec_len_le (by omega)).2 ?_
  have dp := q.den_pos
  have h1 := near2_abs (n := q.num * ((10 ^ p : Nat) : Int)) (d := (q.den : Int)) (by omega)
  have h2 : (q.num * ((10 ^ p : Nat) : Int)).natAbs < 10 ^ (90 + 101) := by
    rw [Int.natAbs_mul, Int.natAbs_natCast]
    exact mul_pow_lt hn (Nat.lt_of_le_of_lt (pow_le_i hp) (Nat.pow_lt_pow_right (by omega) (by omega)))
  unfold unitsP
  have h3 := add_pow_lt h2 (show 1 < 10 ^ (90 + 101) by omega)
  exact Nat.lt_of_le_of_lt h1 h3
theorem mPrint_any (s : ByteArray) (hs : s.size ≤ 1000000) (p : Int) (B : Nat) (w : World) (hB : B ≤ w.heap.size) (hT : PQ B w) :
    Calls Tryz.prog 9 #[.string s, .int .i64 p] w (Ret w (pairV (printS s.data.toList p) (chkP s.data.toList p))) := by
  have HT := hide hT
  have HC := hide (mcheck_any s hs p B w hB hT)
  by_cases hc : chkP s.data.toList p = 0
  · obtain ⟨hM, p0, p1⟩ := chkP_ok hc
    obtain ⟨_, n1, d1⟩ := chkM_ok hM
    obtain ⟨P, hP⟩ : ∃ P : Nat, (P : Int) = p := ⟨p.toNat, by omega⟩
    rw [show checkM s.data.toList p = tripV (Lib.itoa (valQ s.data.toList).num) (Lib.itoa ((valQ s.data.toList).den : Int)) 0 from if_pos hc] at HC
    rw [show printS s.data.toList p = decT (unitsP (valQ s.data.toList) p.toNat) p.toNat from if_pos hc]
    subst hP
    have dp := (valQ s.data.toList).den_pos
    obtain ⟨f1, f2, f3, f4, f5, f6, f7⟩ := print_fits n1 d1 (show P ≤ 100 by omega)
    rw [hc, Int.toNat_natCast]
    have hul := units_len n1 (show P ≤ 100 by omega)
    have HPW := hide (fun w => mpower_to P (by omega) w)
    have HMU := hide (fun w hB hT => mmul_to (s := strB (Lib.itoa (valQ s.data.toList).num)) (t := strB (powT P)) (strB_list _) (strB_list _) f1 f3 f4 B w hB hT)
    have HNE := hide (fun w hB hT => mnearest_to (s := strB (Lib.itoa ((valQ s.data.toList).num * ((10 ^ P : Nat) : Int)))) (t := strB (Lib.itoa ((valQ s.data.toList).den : Int))) (strB_list _) (strB_list _) f4 f2 f5 f6 f7 (by omega) B w hB hT)
    obtain ⟨m, hm⟩ : ∃ m, m = unitsP (valQ s.data.toList) P := ⟨_, rfl⟩
    rw [show near2 ((valQ s.data.toList).num * ((10 ^ P : Nat) : Int)) ((valQ s.data.toList).den : Int) = m from hm.symm] at HNE
    rw [← hm] at hul ⊢
    have HSI := hide (fun w => msigned_any (strB (Lib.itoa m)) w)
    rw [strB_list, isNeg_itoa, digs_itoa] at HSI
    obtain ⟨N, hN⟩ : ∃ X, X = strB (Lib.itoa (valQ s.data.toList).num) := ⟨_, rfl⟩
    obtain ⟨D, hD⟩ : ∃ X, X = strB (Lib.itoa ((valQ s.data.toList).den : Int)) := ⟨_, rfl⟩
    obtain ⟨W, hW⟩ : ∃ X, X = strB (powT P) := ⟨_, rfl⟩
    obtain ⟨M, hM2⟩ : ∃ X, X = strB (Lib.itoa ((valQ s.data.toList).num * ((10 ^ P : Nat) : Int))) := ⟨_, rfl⟩
    obtain ⟨Q, hQ⟩ : ∃ X, X = strB (Lib.itoa m) := ⟨_, rfl⟩
    obtain ⟨S, hS⟩ : ∃ X, X = strB (sgnT (decide (m < 0))) := ⟨_, rfl⟩
    obtain ⟨O, hO⟩ : ∃ X, X = strB (Lib.decDigits m.natAbs) := ⟨_, rfl⟩
    have HC : Hid (Calls Tryz.prog 35 #[.string s, .int .i64 P] w (Ret w (.tuple #[.string N, .string D, .int .i64 0]))) := hide (by rw [hN, hD]; exact HC.out)
    rw [← hW] at HPW
    rw [← hN, ← hW, ← hM2] at HMU
    rw [← hD, ← hM2, ← hQ] at HNE
    rw [← hQ, ← hS, ← hO] at HSI
    have hOs : O.size = (Lib.decDigits m.natAbs).length := by rw [hO, strB_size]
    have hSs : S.size ≤ 1 := by rw [hS, strB_size]; unfold sgnT; split <;> simp
    have hO1 : 1 ≤ O.size := by rw [hOs]; exact dec_len_pos _
    have hOl : O.size ≤ 192 := by omega
    obtain ⟨X, hX⟩ : ∃ X, X = strB (decT m P) := ⟨_, rfl⟩
    rw [show pairV (decT m P) 0 = .tuple #[.string X, .int .i64 0] by rw [hX]]
    have hdt : decT m P = sgnT (decide (m < 0)) ++ (if P = 0 then Lib.decDigits m.natAbs else (own m P).take ((own m P).length - P) ++ 46 :: (own m P).drop ((own m P).length - P)) := by
      unfold decT sgnT
      by_cases h : m < 0 <;> simp [h]
    by_cases hP0 : P = 0
    · have z : ((P : Int) == 0) = true := by rw [hP0]; rfl
      have v : (9223372036854775807 < S.size + O.size) = False := eq_false (by omega)
      have HX := hide (show X = S ++ O by
        rw [hX, hdt, if_pos hP0, hS, hO]
        apply bytes_eq
        simp [strB])
      clear hc hM p0 p1 n1 d1 dp f1 f2 f3 f4 f5 f6 f7 hm hN hD hW hM2 hQ hS hO hT hOs hX hdt hP0 hul hSs hO1 hOl
      go_enter Tryz.func9, Tryz.ntmps9
      go_wp2_with fail
      refine HC.out.mono ?_
      rintro e w1 ⟨rfl, hb1⟩
      have HB1 := hide hb1
      clear hb1
      go_wp2_with fail
      refine (HPW.out _).mono ?_
      rintro e w2 ⟨rfl, hb2⟩
      have HB2 := hide (HB1.out.trans (hb2.mono HB1.out.size))
      clear hb2
      go_wp2_with fail
      refine (HMU.out _ (Nat.le_trans hB HB2.out.size) (HT.out.p10.on HB2.out hB)).mono ?_
      rintro e w3 ⟨rfl, hb3⟩
      have HB3 := hide (HB2.out.trans (hb3.mono HB2.out.size))
      clear hb3
      go_wp2_with fail
      refine (HNE.out _ (Nat.le_trans hB HB3.out.size) (HT.out.p10.on HB3.out hB)).mono ?_
      rintro e w4 ⟨rfl, hb4⟩
      have HB4 := hide (HB3.out.trans (hb4.mono HB3.out.size))
      clear hb4
      go_wp2_with fail
      refine (HSI.out _).mono ?_
      rintro e w5 ⟨rfl, hb5⟩
      have HB5 := hide (HB4.out.trans (hb5.mono HB4.out.size))
      clear hb5
      go_wp2_with fail
      refine bodyPost_ret (results_tmp2 rfl _ _ _) rfl ?_
      rw [HX.out]
      exact ⟨rfl, HB5.out⟩
    · have z : ((P : Int) == 0) = false := by simpa using hP0
      obtain ⟨F, hF⟩ : ∃ F, F = strB (own m P) := ⟨_, rfl⟩
      obtain ⟨k, hk⟩ : ∃ k, k = F.size - P := ⟨_, rfl⟩
      have hFs : F.size = (own m P).length := by rw [hF, strB_size]
      have hol := own_len m P
      have hol2 : (own m P).length ≤ 300 := by
        unfold own
        rw [List.length_append, List.length_replicate]
        omega
      have hkP : F.size = k + P := by omega
      have HX := hide (show X = S ++ F.extract 0 k ++ ⟨#[46]⟩ ++ F.extract k F.size by
        rw [hX, hdt, if_neg hP0, hS, ← hFs, ← hk]
        have e1 : F.extract k F.size = strB ((own m P).drop k) := by rw [ext_drop, hF, strB_list]
        have e2 : F.extract 0 k = strB ((own m P).take k) := by
          apply bytes_eq
          rw [strB_list, hF]
          simp [strB]
        rw [e1, e2]
        apply bytes_eq
        simp [strB])
      have hway : (∃ u : Nat, 0 < u ∧ u ≤ 200 ∧ (P : Int) + 1 - (O.size : Int) = (u : Int) ∧ F = strB (List.replicate u 48) ++ O) ∨ (((0 : Int) < (P : Int) + 1 - (O.size : Int)) = False ∧ F = O) := by
        by_cases h : O.size < P + 1
        · refine .inl ⟨P + 1 - O.size, by omega, by omega, by omega, ?_⟩
          rw [hF, hOs, hO]
          apply bytes_eq
          simp [strB, own]
        · refine .inr ⟨eq_false (by omega), ?_⟩
          rw [hF, hO]
          unfold own
          rw [show P + 1 - (Lib.decDigits m.natAbs).length = 0 by omega]
          rfl
      have hkI : IntKind.i64.wrap ((F.size : Int) - (P : Int)) = (k : Int) := by
        rw [IntWalk.i64_in _ (by omega)]
        omega
      have hkl : (k : Int) ≤ (F.size : Int) := by omega
      have hk0 : (0 : Int) ≤ (k : Int) := by omega
      have hkn : k ≤ F.size := by omega
      have hFl : F.size ≤ 300 := by omega
      have hPi0 : (0 : Int) ≤ (P : Int) := by omega
      have hPi1 : (P : Int) ≤ 100 := by omega
      have HKS := hide hkP
      have HKI := hide hkI
      clear hc hM p0 p1 n1 d1 dp f1 f2 f3 f4 f5 f6 f7 hm hN hD hW hM2 hQ hS hO hT hX hdt hP0 hul hF hk hFs hol hol2 hkP hkI hOs
      rcases hway with ⟨u, u0, u1, u2, u3⟩ | ⟨u2, u3⟩
      · have HR := hide (fun w => repeat_any ⟨#[48]⟩ u w (by omega) (by decide))
        rw [show (⟨#[48]⟩ : ByteArray).data.toList = [48] from rfl, repeat48] at HR
        have hZs : (strB (List.replicate u 48)).size ≤ 200 := by rw [strB_size, List.length_replicate]; exact u1
        obtain ⟨Z, hZ⟩ : ∃ Z, Z = strB (List.replicate u 48) := ⟨_, rfl⟩
        rw [← hZ] at HR u3 hZs
        have HF := hide u3
        have v1 : (9223372036854775807 < Z.size + O.size) = False := eq_false (by omega)
        have u0i : (0 : Int) < (u : Int) := by omega
        clear hZ u3
        go_enter Tryz.func9, Tryz.ntmps9
        go_wp2_with fail
        refine HC.out.mono ?_
        rintro e w1 ⟨rfl, hb1⟩
        have HB1 := hide hb1
        clear hb1
        go_wp2_with fail
        refine (HPW.out _).mono ?_
        rintro e w2 ⟨rfl, hb2⟩
        have HB2 := hide (HB1.out.trans (hb2.mono HB1.out.size))
        clear hb2
        go_wp2_with fail
        refine (HMU.out _ (Nat.le_trans hB HB2.out.size) (HT.out.p10.on HB2.out hB)).mono ?_
        rintro e w3 ⟨rfl, hb3⟩
        have HB3 := hide (HB2.out.trans (hb3.mono HB2.out.size))
        clear hb3
        go_wp2_with fail
        refine (HNE.out _ (Nat.le_trans hB HB3.out.size) (HT.out.p10.on HB3.out hB)).mono ?_
        rintro e w4 ⟨rfl, hb4⟩
        have HB4 := hide (HB3.out.trans (hb4.mono HB3.out.size))
        clear hb4
        go_wp2_with fail
        refine (HSI.out _).mono ?_
        rintro e w5 ⟨rfl, hb5⟩
        have HB5 := hide (HB4.out.trans (hb5.mono HB4.out.size))
        clear hb5
        go_wp2_with fail
        refine (HR.out _).mono ?_
        rintro e w6 ⟨rfl, hb6⟩
        have HB6 := hide (HB5.out.trans (hb6.mono HB5.out.size))
        clear hb6
        go_wp2_with fail
        rw [← HF.out]
        have hkI := HKI.out
        go_quiet (fail)
        go_wp2_with fail
        refine bodyPost_ret (results_tmp2 rfl _ _ _) rfl ?_
        rw [HX.out]
        exact ⟨rfl, below_drewN HB6.out _⟩
      · have u4 : ((O.size : Int) < (P : Int) + 1) = False := eq_false (by
          intro h
          have h2 : ¬ (0 : Int) < (P : Int) + 1 - (O.size : Int) := of_eq_false u2
          omega)
        subst u3
        go_enter Tryz.func9, Tryz.ntmps9
        go_wp2_with fail
        refine HC.out.mono ?_
        rintro e w1 ⟨rfl, hb1⟩
        have HB1 := hide hb1
        clear hb1
        go_wp2_with fail
        refine (HPW.out _).mono ?_
        rintro e w2 ⟨rfl, hb2⟩
        have HB2 := hide (HB1.out.trans (hb2.mono HB1.out.size))
        clear hb2
        go_wp2_with fail
        refine (HMU.out _ (Nat.le_trans hB HB2.out.size) (HT.out.p10.on HB2.out hB)).mono ?_
        rintro e w3 ⟨rfl, hb3⟩
        have HB3 := hide (HB2.out.trans (hb3.mono HB2.out.size))
        clear hb3
        go_wp2_with fail
        refine (HNE.out _ (Nat.le_trans hB HB3.out.size) (HT.out.p10.on HB3.out hB)).mono ?_
        rintro e w4 ⟨rfl, hb4⟩
        have HB4 := hide (HB3.out.trans (hb4.mono HB3.out.size))
        clear hb4
        go_wp2_with fail
        refine (HSI.out _).mono ?_
        rintro e w5 ⟨rfl, hb5⟩
        have HB5 := hide (HB4.out.trans (hb5.mono HB4.out.size))
        clear hb5
        go_wp2_with fail
        have hkI := HKI.out
        go_quiet (fail)
        go_wp2_with fail
        refine bodyPost_ret (results_tmp2 rfl _ _ _) rfl ?_
        rw [HX.out]
        exact ⟨rfl, below_drewN HB5.out _⟩
  · rw [show checkM s.data.toList p = tripV [] [] (chkP s.data.toList p) from if_neg hc, tripV_err] at HC
    rw [show printS s.data.toList p = [] from if_neg hc, pairV_err]
    have hne : (chkP s.data.toList p != 0) = true := by simpa using hc
    obtain ⟨E, hE⟩ : ∃ E, E = chkP s.data.toList p := ⟨_, rfl⟩
    rw [← hE] at HC hne ⊢
    clear hE hc hT
    go_enter Tryz.func9, Tryz.ntmps9
    go_wp2_with fail
    refine HC.out.mono ?_
    rintro e w1 ⟨rfl, hb1⟩
    have HB1 := hide hb1
    clear hb1
    go_wp2_with fail
    refine bodyPost_ret (results_tmp2 rfl _ _ _) rfl ?_
    exact ⟨rfl, HB1.out⟩
open Go.RowKit Go.KP Go.KI Go.Shelf
attribute [local go_sem] Oper.semAt_some

theorem lit60 : (⟨#[54, 48]⟩ : ByteArray).data.toList = Lib.itoa 60 := by
  rw [show (60 : Int) = ((60 : Nat) : Int) from rfl, Lib.itoa_nonneg]
  exact dec_of (l := [54, 48]) (by decide) (by decide) (by decide)
theorem lit127 : (⟨#[49, 50, 55]⟩ : ByteArray).data.toList = Lib.itoa 127 := by
  rw [show (127 : Int) = ((127 : Nat) : Int) from rfl, Lib.itoa_nonneg]
  exact dec_of (l := [49, 50, 55]) (by decide) (by decide) (by decide)
theorem lit144 : (⟨#[49, 52, 52]⟩ : ByteArray).data.toList = Lib.itoa 144 := by
  rw [show (144 : Int) = ((144 : Nat) : Int) from rfl, Lib.itoa_nonneg]
  exact dec_of (l := [49, 52, 52]) (by decide) (by decide) (by decide)
theorem lit12 : (⟨#[49, 50]⟩ : ByteArray).data.toList = Lib.itoa 12 := by
  rw [show (12 : Int) = ((12 : Nat) : Int) from rfl, Lib.itoa_nonneg]
  exact dec_of (l := [49, 50]) (by decide) (by decide) (by decide)
theorem fits_lit {z : Int} (h : z.natAbs < 1000) : fits z := fits_le_pow (k := 3) (by omega) (by omega)
def twelfths (q : Rat) : Int := near2 (q.num * 60) ((q.den : Int) * 127)
def feetS (l : List UInt8) : List UInt8 := if chkM l = 0 then feetT (twelfths (valQ l)) else []
theorem feet_fits {n : Int} {d : Nat} (hn : n.natAbs < 10 ^ 90) (hd : d < 10 ^ 90) :
    fits n ∧ fits (d : Int) ∧ fits (n * 60) ∧ fits ((d : Int) * 127) ∧ fits (n * 60 * 2) ∧ fits (n * 60 * 2 + (d : Int) * 127) ∧ fits ((d : Int) * 127 * 2) := by
  have e : (10 : Nat) ^ 94 = 10000 * 10 ^ 90 := by rw [show 94 = 90 + 4 from rfl, Nat.pow_add, Nat.mul_comm]
  refine ⟨fits_le_pow (k := 90) (by omega) hn, fits_le_pow (k := 90) (by omega) (by rw [Int.natAbs_natCast]; exact hd), fits_le_pow (k := 94) (by omega) (by omega), fits_le_pow (k := 94) (by omega) (by omega), fits_le_pow (k := 94) (by omega) (by omega), fits_le_pow (k := 94) (by omega) (by omega), fits_le_pow (k := 94) (by omega) (by omega)⟩
theorem twelfths_len {q : Rat} (hn : q.num.natAbs < 10 ^ 90) : (twelfths q).natAbs < 10 ^ 94 := by
  have dp := q.den_pos
  have h1 := near2_abs (n := q.num * 60) (d := (q.den : Int) * 127) (by omega)
  have e : (10 : Nat) ^ 94 = 10000 * 10 ^ 90 := by rw [show 94 = 90 + 4 from rfl, Nat.pow_add, Nat.mul_comm]
  unfold twelfths
  omega
theorem nat_fdiv (u k : Nat) (hk : 0 < k) : ((u : Int)).fdiv (k : Int) = ((u / k : Nat) : Int) ∧ ((u : Int)).fmod (k : Int) = ((u % k : Nat) : Int) := by
  constructor
  · rw [Int.fdiv_eq_ediv_of_nonneg _ (by omega), Int.natCast_ediv]
  · rw [Int.fmod_eq_emod_of_nonneg _ (by omega), Int.natCast_emod]
theorem mFeet_any (s : ByteArray) (hs : s.size ≤ 1000000) (B : Nat) (w : World) (hB : B ≤ w.heap.size) (hT : PQ B w) :
    Calls Tryz.prog 15 #[.string s] w (Ret w (pairV (feetS s.data.toList) (chkM s.data.toList))) := by
  have HT := hide hT
  have HC := hide (mparts_any s hs B w hB hT)
  by_cases hM : chkM s.data.toList = 0
  · obtain ⟨_, n1, d1⟩ := chkM_ok hM
    rw [show partsM s.data.toList = tripV (Lib.itoa (valQ s.data.toList).num) (Lib.itoa ((valQ s.data.toList).den : Int)) 0 from if_pos hM] at HC
    rw [show feetS s.data.toList = feetT (twelfths (valQ s.data.toList)) from if_pos hM, hM]
    have dp := (valQ s.data.toList).den_pos
    obtain ⟨f1, f2, f3, f4, f5, f6, f7⟩ := feet_fits n1 d1
    have hul := twelfths_len n1
    have HM1 := hide (fun w hB hT => mmul_to (s := strB (Lib.itoa (valQ s.data.toList).num)) (t := ⟨#[54, 48]⟩) (strB_list _) lit60 f1 (fits_lit (by decide)) f3 B w hB hT)
    have HM2 := hide (fun w hB hT => mmul_to (s := strB (Lib.itoa ((valQ s.data.toList).den : Int))) (t := ⟨#[49, 50, 55]⟩) (strB_list _) lit127 f2 (fits_lit (by decide)) f4 B w hB hT)
    have HNE := hide (fun w hB hT => mnearest_to (s := strB (Lib.itoa ((valQ s.data.toList).num * 60))) (t := strB (Lib.itoa (((valQ s.data.toList).den : Int) * 127))) (strB_list _) (strB_list _) f3 f4 f5 f6 f7 (by omega) B w hB hT)
    obtain ⟨m, hm⟩ : ∃ m, m = twelfths (valQ s.data.toList) := ⟨_, rfl⟩
    rw [show near2 ((valQ s.data.toList).num * 60) (((valQ s.data.toList).den : Int) * 127) = m from hm.symm] at HNE
    rw [← hm] at hul ⊢
    have HSI := hide (fun w => msigned_any (strB (Lib.itoa m)) w)
    rw [strB_list, isNeg_itoa, digs_itoa] at HSI
    obtain ⟨u, hu⟩ : ∃ u, u = m.natAbs := ⟨_, rfl⟩
    rw [← hu] at hul HSI
    have fu : fits (u : Int) := fits_le_pow (k := 94) (by omega) (by rw [Int.natAbs_natCast]; exact hul)
    obtain ⟨q1, q2⟩ := nat_fdiv u 144 (by omega)
    obtain ⟨q3, q4⟩ := nat_fdiv (u % 144) 12 (by omega)
    have HD1 := hide (fun w hB hT => mdivide_to (s := strB (Lib.decDigits u)) (t := ⟨#[49, 52, 52]⟩) (x := (u : Int)) (y := 144) (by rw [strB_list, Lib.itoa_nonneg]) lit144 fu (fits_lit (by decide)) (by decide) B w hB hT)
    rw [show (144 : Int) = ((144 : Nat) : Int) from rfl, q1, q2] at HD1
    have HD2 := hide (fun w hB hT => mdivide_to (s := strB (Lib.itoa ((u % 144 : Nat) : Int))) (t := ⟨#[49, 50]⟩) (x := ((u % 144 : Nat) : Int)) (y := 12) (strB_list _) lit12 (fits_lit (by omega)) (fits_lit (by decide)) (by decide) B w hB hT)
    rw [show (12 : Int) = ((12 : Nat) : Int) from rfl, q3, q4] at HD2
    obtain ⟨N, hN⟩ : ∃ X, X = strB (Lib.itoa (valQ s.data.toList).num) := ⟨_, rfl⟩
    obtain ⟨D, hD⟩ : ∃ X, X = strB (Lib.itoa ((valQ s.data.toList).den : Int)) := ⟨_, rfl⟩
    obtain ⟨N2, hN2⟩ : ∃ X, X = strB (Lib.itoa ((valQ s.data.toList).num * 60)) := ⟨_, rfl⟩
    obtain ⟨D2, hD2⟩ : ∃ X, X = strB (Lib.itoa (((valQ s.data.toList).den : Int) * 127)) := ⟨_, rfl⟩
    obtain ⟨Q, hQ⟩ : ∃ X, X = strB (Lib.itoa m) := ⟨_, rfl⟩
    obtain ⟨S, hS⟩ : ∃ X, X = strB (sgnT (decide (m < 0))) := ⟨_, rfl⟩
    obtain ⟨O, hO⟩ : ∃ X, X = strB (Lib.decDigits u) := ⟨_, rfl⟩
    obtain ⟨A, hA⟩ : ∃ X, X = strB (Lib.itoa ((u / 144 : Nat) : Int)) := ⟨_, rfl⟩
    obtain ⟨R, hR⟩ : ∃ X, X = strB (Lib.itoa ((u % 144 : Nat) : Int)) := ⟨_, rfl⟩
    obtain ⟨I, hI⟩ : ∃ X, X = strB (Lib.itoa ((u % 144 / 12 : Nat) : Int)) := ⟨_, rfl⟩
    obtain ⟨T, hT2⟩ : ∃ X, X = strB (Lib.itoa ((u % 144 % 12 : Nat) : Int)) := ⟨_, rfl⟩
    have HC : Hid (Calls Tryz.prog 54 #[.string s] w (Ret w (.tuple #[.string N, .string D, .int .i64 0]))) := hide (by rw [hN, hD]; exact HC.out)
    rw [← hN, ← hN2] at HM1
    rw [← hD, ← hD2] at HM2
    rw [← hN2, ← hD2, ← hQ] at HNE
    rw [← hQ, ← hS, ← hO] at HSI
    rw [← hO, ← hA, ← hR] at HD1
    rw [← hR, ← hI, ← hT2] at HD2
    have hdl : ∀ v : Nat, v < 10 ^ 94 → (Lib.decDigits v).length ≤ 94 := fun v hv => (dec_len_le (by omega)).2 hv
    have hSs : S.size ≤ 1 := by rw [hS, strB_size]; unfold sgnT; split <;> simp
    have hAs : A.size ≤ 94 := by rw [hA, strB_size, Lib.itoa_nonneg]; exact hdl _ (by omega)
    have hIs : I.size ≤ 94 := by rw [hI, strB_size, Lib.itoa_nonneg]; exact hdl _ (by omega)
    have hTs : T.size ≤ 94 := by rw [hT2, strB_size, Lib.itoa_nonneg]; exact hdl _ (by omega)
    have v1 : (9223372036854775807 < S.size + A.size) = False := eq_false (by omega)
    have v2 : (9223372036854775807 < S.size + A.size + 1) = False := eq_false (by omega)
    have v3 : (9223372036854775807 < S.size + A.size + 1 + I.size) = False := eq_false (by omega)
    have v4 : (9223372036854775807 < S.size + A.size + 1 + I.size + 1) = False := eq_false (by omega)
    have v5 : (9223372036854775807 < S.size + A.size + 1 + I.size + 1 + T.size) = False := eq_false (by omega)
    have HX := hide (show strB (feetT m) = S ++ A ++ ⟨#[39]⟩ ++ I ++ ⟨#[34]⟩ ++ T by
      unfold feetT
      rw [← hu, hS, hA, hI, hT2, Lib.itoa_nonneg, Lib.itoa_nonneg, Lib.itoa_nonneg]
      apply bytes_eq
      simp [strB, sgnT])
    rw [show pairV (feetT m) 0 = .tuple #[.string (strB (feetT m)), .int .i64 0] from rfl, HX.out]
    clear hM n1 d1 dp f1 f2 f3 f4 f5 f6 f7 hm hN hD hN2 hD2 hQ hS hO hA hR hI hT2 hT hu hul fu q1 q2 q3 q4 hdl hSs hAs hIs hTs HX
    go_enter Tryz.func15, Tryz.ntmps15
    go_wp2_with fail
    refine HC.out.mono ?_
    rintro e w1 ⟨rfl, hb1⟩
    have HB1 := hide hb1
    clear hb1
    go_wp2_with fail
    refine (HM1.out _ (Nat.le_trans hB HB1.out.size) (HT.out.p10.on HB1.out hB)).mono ?_
    rintro e w2 ⟨rfl, hb2⟩
    have HB2 := hide (HB1.out.trans (hb2.mono HB1.out.size))
    clear hb2
    go_wp2_with fail
    refine (HM2.out _ (Nat.le_trans hB HB2.out.size) (HT.out.p10.on HB2.out hB)).mono ?_
    rintro e w3 ⟨rfl, hb3⟩
    have HB3 := hide (HB2.out.trans (hb3.mono HB2.out.size))
    clear hb3
    go_wp2_with fail
    refine (HNE.out _ (Nat.le_trans hB HB3.out.size) (HT.out.p10.on HB3.out hB)).mono ?_
    rintro e w4 ⟨rfl, hb4⟩
    have HB4 := hide (HB3.out.trans (hb4.mono HB3.out.size))
    clear hb4
    go_wp2_with fail
    refine (HSI.out _).mono ?_
    rintro e w5 ⟨rfl, hb5⟩
    have HB5 := hide (HB4.out.trans (hb5.mono HB4.out.size))
    clear hb5
    go_wp2_with fail
    refine (HD1.out _ (Nat.le_trans hB HB5.out.size) (HT.out.p10.on HB5.out hB)).mono ?_
    rintro e w6 ⟨rfl, hb6⟩
    have HB6 := hide (HB5.out.trans (hb6.mono HB5.out.size))
    clear hb6
    go_wp2_with fail
    refine (HD2.out _ (Nat.le_trans hB HB6.out.size) (HT.out.p10.on HB6.out hB)).mono ?_
    rintro e w7 ⟨rfl, hb7⟩
    have HB7 := hide (HB6.out.trans (hb7.mono HB6.out.size))
    clear hb7
    go_wp2_with fail
    refine bodyPost_ret (results_tmp2 rfl _ _ _) rfl ?_
    exact ⟨rfl, HB7.out⟩
  · rw [show partsM s.data.toList = tripV [] [] (chkM s.data.toList) from if_neg hM, tripV_err] at HC
    rw [show feetS s.data.toList = [] from if_neg hM, pairV_err]
    have hne : (chkM s.data.toList != 0) = true := by simpa using hM
    obtain ⟨E, hE⟩ : ∃ E, E = chkM s.data.toList := ⟨_, rfl⟩
    rw [← hE] at HC hne ⊢
    clear hE hM hT
    go_enter Tryz.func15, Tryz.ntmps15
    go_wp2_with fail
    refine HC.out.mono ?_
    rintro e w1 ⟨rfl, hb1⟩
    have HB1 := hide hb1
    clear hb1
    go_wp2_with fail
    refine bodyPost_ret (results_tmp2 rfl _ _ _) rfl ?_
    exact ⟨rfl, HB1.out⟩
end Go.Proofs.YtfcjaljaomknjaaGreatDoor
