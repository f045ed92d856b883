/-
  Texts laid together.
-/
import Derived.Test.YtfcjaljaomknjaaGreatDoorME15
import Derived.Test.YtfcjaljaomknjaaGreatDoorME4
import Derived.Test.YtfcjaljaomknjaaGreatDoorME5
import Derived.Test.YtfcjaljaomknjaaGreatDoorME1
import Derived.Ground.GgwProg
import Derived.Ground.SlgfProg
import Derived.Shelf.Bits.Mul64
import Derived.Shelf.GgClosure.StringsIndexFunc
import Derived.Shelf.GgClosure.StringsIndexFuncTop
import Derived.Shelf.LaysC
import Derived.Shelf.LaysM
import Derived.Shelf.SlicesE.IndexFunc
import Derived.Shelf.Small.Strs
import Derived.Shelf.Small.Utf8
import Derived.Shelf.Small.Wraps
import Derived.Shelf.Strconv.Atoi
import Derived.Shelf.Strconv.AtoiAll
import Derived.Shelf.Strconv.AtoiErrFast
import Derived.Shelf.Strconv.AtoiFail
import Derived.Shelf.Strconv.AtoiInnerAll
import Derived.Shelf.Strconv.AtoiLong
import Derived.Shelf.Strconv.Clone
import Derived.Shelf.Strconv.ErrVarAll
import Derived.Shelf.Strconv.Itoa0
import Derived.Shelf.Strconv.Itoa1
import Derived.Shelf.Strconv.Itoa2
import Derived.Shelf.Strconv.Itoa3
import Derived.Shelf.Strconv.Lower
import Derived.Shelf.Strconv.ParseInt10
import Derived.Shelf.Strconv.ParseIntEmpty
import Derived.Shelf.Strconv.ParseUint10
import Derived.Shelf.Strconv.ParseUint10Any
import Derived.Shelf.Strconv.ParseUint10Empty
import Derived.Shelf.Strconv.ParseUint10b16
import Derived.Shelf.Strconv.ParseUint10b32
import Derived.Shelf.Strconv.ParseUint10b64
import Derived.Shelf.Strconv.ParseUint10b8
import Derived.Shelf.Strconv.ParseUintEmpty
import Derived.Shelf.Strconv.RangeError
import Derived.Shelf.Strconv.SyntaxError
import Derived.Shelf.Strconv.ToError
import Derived.Shelf.Strconv.ToErrorRange
import Derived.Shelf.Strings.AsciiSet
import Derived.Shelf.Strings.Builder1
import Derived.Shelf.Strings.Builder2
import Derived.Shelf.Strings.Builder2Cap
import Derived.Shelf.Strings.BuilderF
import Derived.Shelf.Strings.BuilderK
import Derived.Shelf.Strings.Cut
import Derived.Shelf.Strings.OnBuilder
import Derived.Shelf.Strings.Prefix
import Derived.Shelf.Strings.Repeat
import Derived.Shelf.Strings.Runes
import Derived.Shelf.Strings.Search1
import Derived.Shelf.Strings.Search2
import Derived.Shelf.Strings.Search3
import Derived.Shelf.Strings.Shaped
import Derived.Shelf.Strings.Trim
import Derived.Shelf.Unicode.CaseConvert
import Derived.Shelf.Unicode.CaseLaid
import Derived.Shelf.Unicode.CaseLookup
import Derived.Shelf.Unicode.CaseTo
import Derived.Shelf.Unicode.Decode
import Derived.Shelf.Unicode.DecodeAny
import Derived.Shelf.Unicode.DecodeSlow
import Derived.Shelf.Unicode.Latin
import Derived.Test.YtfcjaljaomknjaaGreatDoorProg
set_option maxRecDepth 100000
set_option maxHeartbeats 16000000
namespace Go.Proofs.YtfcjaljaomknjaaGreatDoor
open Go.RowKit Go.KP Go.KI Go.Shelf
attribute [local go_sem] Oper.semAt_some

def unitsP (q : Rat) (p : Nat) : Int := near2 (q.num * ((10 ^ p : Nat) : Int)) (q.den : Int)
theorem chkM_ok {l : List UInt8} (h : chkM l = 0) : chkQ l = 0 ∧ (valQ l).num.natAbs < 10 ^ 90 ∧ (valQ l).den < 10 ^ 90 := by
  unfold chkM at h
  by_cases h1 : chkQ l = 0
  · rw [if_neg (by simp [h1])] at h
    by_cases h2 : 90 < max (Lib.decDigits (valQ l).num.natAbs).length (Lib.decDigits (valQ l).den).length
    · rw [if_pos h2] at h
      cases h
    · exact ⟨h1, (dec_len_le (by omega)).1 (by omega), (dec_len_le (by omega)).1 (by omega)⟩
  · rw [if_pos h1] at h
    exact absurd h h1
theorem chkP_ok {l : List UInt8} {p : Int} (h : chkP l p = 0) : chkM l = 0 ∧ 0 ≤ p ∧ p ≤ 100 := by
  unfold chkP at h
  by_cases h1 : chkM l = 0
  · rw [if_neg (by simp [h1])] at h
    by_cases h2 : p < 0 ∨ 100 < p
    · rw [if_pos h2] at h
      cases h
    · exact ⟨h1, by omega, by omega⟩
  · rw [if_pos h1] at h
    exact absurd h h1
theorem pow_le_i {p q : Nat} (h : p ≤ q) : (10 : Nat) ^ p ≤ 10 ^ q := Nat.pow_le_pow_right (by omega) h
theorem fits_le_pow {z : Int} {k : Nat} (hk : k ≤ 300) (h : z.natAbs < 10 ^ k) : fits z := fits_small (by rw [most_eq]; exact hk) h
theorem print_fits {n : Int} {d p : Nat} (hn : n.natAbs < 10 ^ 90) (hd : d < 10 ^ 90) (hp : p ≤ 100) :
    fits n ∧ fits (d : Int) ∧ fits ((10 ^ p : Nat) : Int) ∧ fits (n * ((10 ^ p : Nat) : Int)) ∧ fits (n * ((10 ^ p : Nat) : Int) * 2) ∧ fits (n * ((10 ^ p : Nat) : Int) * 2 + (d : Int)) ∧ fits ((d : Int) * 2) := by
  have hpp := pow_le_i hp
  have h1 : (n * ((10 ^ p : Nat) : Int)).natAbs < 10 ^ (90 + 101) := by
    rw [Int.natAbs_mul, Int.natAbs_natCast]
    exact mul_pow_lt hn (Nat.lt_of_le_of_lt hpp (Nat.pow_lt_pow_right (by omega) (by omega)))
  have h2 : (n * ((10 ^ p : Nat) : Int) * 2).natAbs < 10 ^ 192 := by
    have := add_pow_lt h1 h1
    rw [Int.natAbs_mul, show (2 : Int).natAbs = 2 from rfl]
    omega
  have h3 : d < 10 ^ 192 := Nat.lt_of_lt_of_le hd (pow_le_i (by omega))
  have h4 := add_pow_lt h2 h3
  have h5 := add_pow_lt hd hd
  refine ⟨fits_le_pow (k := 90) (by omega) hn, fits_le_pow (k := 90) (by omega) (by rw [Int.natAbs_natCast]; exact hd), fits_le_pow (k := 101) (by omega) (by rw [Int.natAbs_natCast]; exact Nat.lt_of_le_of_lt hpp (Nat.pow_lt_pow_right (by omega) (by omega))), fits_le_pow (k := 90 + 101) (by omega) h1, fits_le_pow (k := 192) (by omega) h2, fits_le_pow (k := 193) (by omega) (by omega), fits_le_pow (k := 91) (by omega) (by omega)⟩
theorem mExact_any (s : ByteArray) (hs : s.size ≤ 1000000) (p : Int) (B : Nat) (w : World) (hB : B ≤ w.heap.size) (hT : PQ B w) :
    Calls Tryz.prog 11 #[.string s, .int .i64 p] w (Ret w (.tuple #[.bool (decide (chkP s.data.toList p = 0 ∧ ((valQ s.data.toList).num * ((10 ^ p.toNat : Nat) : Int)).fmod ((valQ s.data.toList).den : Int) = 0)), .int .i64 (chkP s.data.toList p)])) := by
  have HT := hide hT
  have HC := hide (mcheck_any s hs p B w hB hT)
  by_cases hc : chkP s.data.toList p = 0
  · obtain ⟨hM, p0, p1⟩ := chkP_ok hc
    obtain ⟨_, n1, d1⟩ := chkM_ok hM
    obtain ⟨P, hP⟩ : ∃ P : Nat, (P : Int) = p := ⟨p.toNat, by omega⟩
    rw [show checkM s.data.toList p = tripV (Lib.itoa (valQ s.data.toList).num) (Lib.itoa ((valQ s.data.toList).den : Int)) 0 from if_pos hc] at HC
    subst hP
    have dp := (valQ s.data.toList).den_pos
    obtain ⟨f1, f2, f3, f4, f5, f6, f7⟩ := print_fits n1 d1 (show P ≤ 100 by omega)
    rw [hc, Int.toNat_natCast]
    have HPW := hide (fun w => mpower_to P (by omega) w)
    have HMU := hide (fun w hB hT => mmul_to (s := strB (Lib.itoa (valQ s.data.toList).num)) (t := strB (powT P)) (strB_list _) (strB_list _) f1 f3 f4 B w hB hT)
    have HDI := hide (fun w hB hT => mdivide_to (s := strB (Lib.itoa ((valQ s.data.toList).num * ((10 ^ P : Nat) : Int)))) (t := strB (Lib.itoa ((valQ s.data.toList).den : Int))) (strB_list _) (strB_list _) f4 f2 (by omega) B w hB hT)
    obtain ⟨r, hr⟩ : ∃ r, r = ((valQ s.data.toList).num * ((10 ^ P : Nat) : Int)).fmod ((valQ s.data.toList).den : Int) := ⟨_, rfl⟩
    rw [← hr] at HDI ⊢
    obtain ⟨R, hR⟩ : ∃ X, X = strB (Lib.itoa r) := ⟨_, rfl⟩
    obtain ⟨t1, t2⟩ := lit_eq (s := R) (l := Lib.itoa r) (m := [48]) (by rw [hR, strB_list])
    have hway : ((R.toList == [48]) = true ∧ decide ((0 : Int) = 0 ∧ r = 0) = true) ∨ ((R.toList == [48]) = false ∧ decide ((0 : Int) = 0 ∧ r = 0) = false) := by
      by_cases h : r = 0
      · exact .inl ⟨t1 (by rw [h, itoa_zero]), by rw [h]; rfl⟩
      · exact .inr ⟨t2 (itoa_nz h), by simpa using h⟩
    obtain ⟨N, hN⟩ : ∃ X, X = strB (Lib.itoa (valQ s.data.toList).num) := ⟨_, rfl⟩
    obtain ⟨D, hD⟩ : ∃ X, X = strB (Lib.itoa ((valQ s.data.toList).den : Int)) := ⟨_, rfl⟩
    obtain ⟨W, hW⟩ : ∃ X, X = strB (powT P) := ⟨_, rfl⟩
    obtain ⟨M, hM2⟩ : ∃ X, X = strB (Lib.itoa ((valQ s.data.toList).num * ((10 ^ P : Nat) : Int))) := ⟨_, rfl⟩
    obtain ⟨Q, hQ⟩ : ∃ X, X = strB (Lib.itoa (((valQ s.data.toList).num * ((10 ^ P : Nat) : Int)).fdiv ((valQ s.data.toList).den : Int))) := ⟨_, rfl⟩
    have HC : Hid (Calls Tryz.prog 35 #[.string s, .int .i64 P] w (Ret w (.tuple #[.string N, .string D, .int .i64 0]))) := hide (by rw [hN, hD]; exact HC.out)
    rw [← hW] at HPW
    rw [← hN, ← hW, ← hM2] at HMU
    rw [← hD, ← hM2, ← hQ, ← hR] at HDI
    clear hc hM p0 p1 n1 d1 dp f1 f2 f3 f4 f5 f6 f7 hr hR t1 t2 hN hD hW hM2 hQ hT
    rcases hway with ⟨h1, h2⟩ | ⟨h1, h2⟩
    all_goals
      rw [h2]
      clear h2
      go_enter Tryz.func11, Tryz.ntmps11
      go_wp2_with fail
      refine HC.out.mono ?_
      rintro e w1 ⟨rfl, hb1⟩
      have HB1 := hide hb1
      clear hb1
      go_wp2_with fail
      refine (HPW.out _).mono ?_
      rintro e w2 ⟨rfl, hb2⟩
      have HB2 := hide (HB1.out.trans (hb2.mono HB1.out.size))
      clear hb2
      go_wp2_with fail
      refine (HMU.out _ (Nat.le_trans hB HB2.out.size) (HT.out.p10.on HB2.out hB)).mono ?_
      rintro e w3 ⟨rfl, hb3⟩
      have HB3 := hide (HB2.out.trans (hb3.mono HB2.out.size))
      clear hb3
      go_wp2_with fail
      refine (HDI.out _ (Nat.le_trans hB HB3.out.size) (HT.out.p10.on HB3.out hB)).mono ?_
      rintro e w4 ⟨rfl, hb4⟩
      have HB4 := hide (HB3.out.trans (hb4.mono HB3.out.size))
      clear hb4
      go_wp2_with fail
      refine bodyPost_ret (results_tmp2 rfl _ _ _) rfl ?_
      exact ⟨rfl, HB4.out⟩
  · rw [show checkM s.data.toList p = tripV [] [] (chkP s.data.toList p) from if_neg hc, tripV_err] at HC
    have hd : decide (chkP s.data.toList p = 0 ∧ ((valQ s.data.toList).num * ((10 ^ p.toNat : Nat) : Int)).fmod ((valQ s.data.toList).den : Int) = 0) = false := by simp [hc]
    rw [hd]
    have hne : (chkP s.data.toList p != 0) = true := by simpa using hc
    obtain ⟨E, hE⟩ : ∃ E, E = chkP s.data.toList p := ⟨_, rfl⟩
    rw [← hE] at HC hne ⊢
    clear hE hc hd hT
    go_enter Tryz.func11, Tryz.ntmps11
    go_wp2_with fail
    refine HC.out.mono ?_
    rintro e w1 ⟨rfl, hb1⟩
    have HB1 := hide hb1
    clear hb1
    go_wp2_with fail
    refine bodyPost_ret (results_tmp2 rfl _ _ _) rfl ?_
    exact ⟨rfl, HB1.out⟩
open Go.RowKit Go.KP Go.KI Go.Shelf
attribute [local go_sem] Oper.semAt_some

theorem isNeg_itoa (m : Int) : isNeg (Lib.itoa m) = decide (m < 0) := by
  unfold isNeg
  exact decide_eq_decide.2 (itoa_head m)
def printS (l : List UInt8) (p : Int) : List UInt8 := if chkP l p = 0 then decT (unitsP (valQ l) p.toNat) p.toNat else []
theorem near2_abs {n d : Int} (hd : 0 < d) : (near2 n d).natAbs ≤ n.natAbs + 1 := by
  obtain ⟨h1, h2⟩ := near2_spec (n := n) hd
  obtain ⟨z, hz⟩ : ∃ z, z = near2 n d := ⟨_, rfl⟩
  rw [← hz] at h1 h2 ⊢
  rcases Int.lt_or_le z 0 with h | h
  · obtain ⟨k, hk⟩ : ∃ k : Nat, z = -(k : Int) := ⟨z.natAbs, by omega⟩
    subst hk
    have h3 : 2 * d * -(k : Int) = -(2 * (d * k)) := by rw [Int.mul_neg, Int.mul_assoc]
    rw [h3] at h1 h2
    have h4 : (k : Int) ≤ d * k := by
      have : 1 * (k : Int) ≤ d * k := Int.mul_le_mul_of_nonneg_right (by omega) (by omega)
      omega
    have h5 : d * (k : Int) - d ≥ (k : Int) - 1 := by
      have h6 : d * (k : Int) - d = d * ((k : Int) - 1) := by rw [Int.mul_sub, Int.mul_one]
      have h7 : 1 * ((k : Int) - 1) ≤ d * ((k : Int) - 1) := Int.mul_le_mul_of_nonneg_right (by omega) (by omega)
      omega
    omega
  · obtain ⟨k, hk⟩ : ∃ k : Nat, z = (k : Int) := ⟨z.natAbs, by omega⟩
    subst hk
    rw [Int.mul_assoc] at h1 h2
    rcases Nat.eq_zero_or_pos k with h0 | h0
    · omega
    · have h5 : d * (k : Int) - d ≥ (k : Int) - 1 := by
        have h6 : d * (k : Int) - d = d * ((k : Int) - 1) := by rw [Int.mul_sub, Int.mul_one]
        have h7 : 1 * ((k : Int) - 1) ≤ d * ((k : Int) - 1) := Int.mul_le_mul_of_nonneg_right (by omega) (by omega)
        omega
      omega
theorem units_len {q : Rat} {p : Nat} (hn : q.num.natAbs < 10 ^ 90) (hp : p ≤ 100) : (Lib.decDigits (unitsP q p).natAbs).length ≤ 192 := by
  refine (dec_len_le (by omega)).2 ?_
  have dp := q.den_pos
  have h1 := near2_abs (n := q.num * ((10 ^ p : Nat) : Int)) (d := (q.den : Int)) (by omega)
  have h2 : (q.num * ((10 ^ p : Nat) : Int)).natAbs < 10 ^ (90 + 101) := by
    rw [Int.natAbs_mul, Int.natAbs_natCast]
    exact mul_pow_lt hn (Nat.lt_of_le_of_lt (pow_le_i hp) (Nat.pow_lt_pow_right (by omega) (by omega)))
  unfold unitsP
  have h3 := add_pow_lt h2 (show 1 < 10 ^ (90 + 101) by omega)
  exact Nat.lt_of_le_of_lt h1 h3
theorem mPrint_any (s : ByteArray) (hs : s.size ≤ 1000000) (p : Int) (B : Nat) (w : World) (hB : B ≤ w.heap.size) (hT : PQ B w) :
    Calls Tryz.prog 9 #[.string s, .int .i64 p] w (Ret w (pairV (printS s.data.toList p) (chkP s.data.toList p))) := by
  have HT := hide hT
  have HC := hide (mcheck_any s hs p B w hB hT)
  by_cases hc : chkP s.data.toList p = 0
  · obtain ⟨hM, p0, p1⟩ := chkP_ok hc
    obtain ⟨_, n1, d1⟩ := chkM_ok hM
    obtain ⟨P, hP⟩ : ∃ P : Nat, (P : Int) = p := ⟨p.toNat, by omega⟩
    rw [show checkM s.data.toList p = tripV (Lib.itoa (valQ s.data.toList).num) (Lib.itoa ((valQ s.data.toList).den : Int)) 0 from if_pos hc] at HC
    rw [show printS s.data.toList p = decT (unitsP (valQ s.data.toList) p.toNat) p.toNat from if_pos hc]
    subst hP
    have dp := (valQ s.data.toList).den_pos
    obtain ⟨f1, f2, f3, f4, f5, f6, f7⟩ := print_fits n1 d1 (show P ≤ 100 by omega)
    rw [hc, Int.toNat_natCast]
    have hul := units_len n1 (show P ≤ 100 by omega)
    have HPW := hide (fun w => mpower_to P (by omega) w)
    have HMU := hide (fun w hB hT => mmul_to (s := strB (Lib.itoa (valQ s.data.toList).num)) (t := strB (powT P)) (strB_list _) (strB_list _) f1 f3 f4 B w hB hT)
    have HNE := hide (fun w hB hT => mnearest_to (s := strB (Lib.itoa ((valQ s.data.toList).num * ((10 ^ P : Nat) : Int)))) (t := strB (Lib.itoa ((valQ s.data.toList).den : Int))) (strB_list _) (strB_list _) f4 f2 f5 f6 f7 (by omega) B w hB hT)
    obtain ⟨m, hm⟩ : ∃ m, m = unitsP (valQ s.data.toList) P := ⟨_, rfl⟩
    rw [show near2 ((valQ s.data.toList).num * ((10 ^ P : Nat) : Int)) ((valQ s.data.toList).den : Int) = m from hm.symm] at HNE
    rw [← hm] at hul ⊢
    have HSI := hide (fun w => msigned_any (strB (Lib.itoa m)) w)
    rw [strB_list, isNeg_itoa, digs_itoa] at HSI
    obtain ⟨N, hN⟩ : ∃ X, X = strB (Lib.itoa (valQ s.data.toList).num) := ⟨_, rfl⟩
    obtain ⟨D, hD⟩ : ∃ X, X = strB (Lib.itoa ((valQ s.data.toList).den : Int)) := ⟨_, rfl⟩
    obtain ⟨W, hW⟩ : ∃ X, X = strB (powT P) := ⟨_, rfl⟩
    obtain ⟨M, hM2⟩ : ∃ X, X = strB (Lib.itoa ((valQ s.data.toList).num * ((10 ^ P : Nat) : Int))) := ⟨_, rfl⟩
    obtain ⟨Q, hQ⟩ : ∃ X, X = strB (Lib.itoa m) := ⟨_, rfl⟩
    obtain ⟨S, hS⟩ : ∃ X, X = strB (sgnT (decide (m < 0))) := ⟨_, rfl⟩
    obtain ⟨O, hO⟩ : ∃ X, X = strB (Lib.decDigits m.natAbs) := ⟨_, rfl⟩
    have HC : Hid (Calls Tryz.prog 35 #[.string s, .int .i64 P] w (Ret w (.tuple #[.string N, .string D, .int .i64 0]))) := hide (by rw [hN, hD]; exact HC.out)
    rw [← hW] at HPW
    rw [← hN, ← hW, ← hM2] at HMU
    rw [← hD, ← hM2, ← hQ] at HNE
    rw [← hQ, ← hS, ← hO] at HSI
    have hOs : O.size = (Lib.decDigits m.natAbs).length := by rw [hO, strB_size]
    have hSs : S.size ≤ 1 := by rw [hS, strB_size]; unfold sgnT; split <;> simp
    have hO1 : 1 ≤ O.size := by rw [hOs]; exact dec_len_pos _
    have hOl : O.size ≤ 192 := by omega
    obtain ⟨X, hX⟩ : ∃ X, X = strB (decT m P) := ⟨_, rfl⟩
    rw [show pairV (decT m P) 0 = .tuple #[.string X, .int .i64 0] by rw [hX]]
    have hdt : decT m P = sgnT (decide (m < 0)) ++ (if P = 0 then Lib.decDigits m.natAbs else (own m P).take ((own m P).length - P) ++ 46 :: (own m P).drop ((own m P).length - P)) := by
      unfold decT sgnT
      by_cases h : m < 0 <;> simp [h]
    by_cases hP0 : P = 0
    · have z : ((P : Int) == 0) = true := by rw [hP0]; rfl
      have v : (9223372036854775807 < S.size + O.size) = False := eq_false (by omega)
      have HX := hide (show X = S ++ O by
        rw [hX, hdt, if_pos hP0, hS, hO]
        apply bytes_eq
        simp [strB])
      clear hc hM p0 p1 n1 d1 dp f1 f2 f3 f4 f5 f6 f7 hm hN hD hW hM2 hQ hS hO hT hOs hX hdt hP0 hul hSs hO1 hOl
      go_enter Tryz.func9, Tryz.ntmps9
      go_wp2_with fail
      refine HC.out.mono ?_
      rintro e w1 ⟨rfl, hb1⟩
      have HB1 := hide hb1
      clear hb1
      go_wp2_with fail
      refine (HPW.out _).mono ?_
      rintro e w2 ⟨rfl, hb2⟩
      have HB2 := hide (HB1.out.trans (hb2.mono HB1.out.size))
      clear hb2
      go_wp2_with fail
      refine (HMU.out _ (Nat.le_trans hB HB2.out.size) (HT.out.p10.on HB2.out hB)).mono ?_
      rintro e w3 ⟨rfl, hb3⟩
      have HB3 := hide (HB2.out.trans (hb3.mono HB2.out.size))
      clear hb3
      go_wp2_with fail
      refine (HNE.out _ (Nat.le_trans hB HB3.out.size) (HT.out.p10.on HB3.out hB)).mono ?_
      rintro e w4 ⟨rfl, hb4⟩
      have HB4 := hide (HB3.out.trans (hb4.mono HB3.out.size))
      clear hb4
      go_wp2_with fail
      refine (HSI.out _).mono ?_
      rintro e w5 ⟨rfl, hb5⟩
      have HB5 := hide (HB4.out.trans (hb5.mono HB4.out.size))
      clear hb5
      go_wp2_with fail
      refine bodyPost_ret (results_tmp2 rfl _ _ _) rfl ?_
      rw [HX.out]
      exact ⟨rfl, HB5.out⟩
    · have z : ((P : Int) == 0) = false := by simpa using hP0
      obtain ⟨F, hF⟩ : ∃ F, F = strB (own m P) := ⟨_, rfl⟩
      obtain ⟨k, hk⟩ : ∃ k, k = F.size - P := ⟨_, rfl⟩
      have hFs : F.size = (own m P).length := by rw [hF, strB_size]
      have hol := own_len m P
      have hol2 : (own m P).length ≤ 300 := by
        unfold own
        rw [List.length_append, List.length_replicate]
        omega
      have hkP : F.size = k + P := by omega
      have HX := hide (show X = S ++ F.extract 0 k ++ ⟨#[46]⟩ ++ F.extract k F.size by
        rw [hX, hdt, if_neg hP0, hS, ← hFs, ← hk]
        have e1 : F.extract k F.size = strB ((own m P).drop k) := by rw [ext_drop, hF, strB_list]
        have e2 : F.extract 0 k = strB ((own m P).take k) := by
          apply bytes_eq
          rw [strB_list, hF]
          simp [strB]
        rw [e1, e2]
        apply bytes_eq
        simp [strB])
      have hway : (∃ u : Nat, 0 < u ∧ u ≤ 200 ∧ (P : Int) + 1 - (O.size : Int) = (u : Int) ∧ F = strB (List.replicate u 48) ++ O) ∨ (((0 : Int) < (P : Int) + 1 - (O.size : Int)) = False ∧ F = O) := by
        by_cases h : O.size < P + 1
        · refine .inl ⟨P + 1 - O.size, by omega, by omega, by omega, ?_⟩
          rw [hF, hOs, hO]
          apply bytes_eq
          simp [strB, own]
        · refine .inr ⟨eq_false (by omega), ?_⟩
          rw [hF, hO]
          unfold own
          rw [show P + 1 - (Lib.decDigits m.natAbs).length = 0 by omega]
          rfl
      have hkI : IntKind.i64.wrap ((F.size : Int) - (P : Int)) = (k : Int) := by
        rw [IntWalk.i64_in _ (by omega)]
        omega
      have hkl : (k : Int) ≤ (F.size : Int) := by omega
      have hk0 : (0 : Int) ≤ (k : Int) := by omega
      have hkn : k ≤ F.size := by omega
      have hFl : F.size ≤ 300 := by omega
      have hPi0 : (0 : Int) ≤ (P : Int) := by omega
      have hPi1 : (P : Int) ≤ 100 := by omega
      have HKS := hide hkP
      have HKI := hide hkI
      clear hc hM p0 p1 n1 d1 dp f1 f2 f3 f4 f5 f6 f7 hm hN hD hW hM2 hQ hS hO hT hX hdt hP0 hul hF hk hFs hol hol2 hkP hkI hOs
      rcases hway with ⟨u, u0, u1, u2, u3⟩ | ⟨u2, u3⟩
      · have HR := hide (fun w => repeat_any ⟨#[48]⟩ u w (by omega) (by decide))
        rw [show (⟨#[48]⟩ : ByteArray).data.toList = [48] from rfl, repeat48] at HR
        have hZs : (strB (List.replicate u 48)).size ≤ 200 := by rw [strB_size, List.length_replicate]; exact u1
        obtain ⟨Z, hZ⟩ : ∃ Z, Z = strB (List.replicate u 48) := ⟨_, rfl⟩
        rw [← hZ] at HR u3 hZs
        have HF := hide u3
        have v1 : (9223372036854775807 < Z.size + O.size) = False := eq_false (by omega)
        have u0i : (0 : Int) < (u : Int) := by omega
        clear hZ u3
        go_enter Tryz.func9, Tryz.ntmps9
        go_wp2_with fail
        refine HC.out.mono ?_
        rintro e w1 ⟨rfl, hb1⟩
        have HB1 := hide hb1
        clear hb1
        go_wp2_with fail
        refine (HPW.out _).mono ?_
        rintro e w2 ⟨rfl, hb2⟩
        have HB2 := hide (HB1.out.trans (hb2.mono HB1.out.size))
        clear hb2
        go_wp2_with fail
        refine (HMU.out _ (Nat.le_trans hB HB2.out.size) (HT.out.p10.on HB2.out hB)).mono ?_
        rintro e w3 ⟨rfl, hb3⟩
        have HB3 := hide (HB2.out.trans (hb3.mono HB2.out.size))
        clear hb3
        go_wp2_with fail
        refine (HNE.out _ (Nat.le_trans hB HB3.out.size) (HT.out.p10.on HB3.out hB)).mono ?_
        rintro e w4 ⟨rfl, hb4⟩
        have HB4 := hide (HB3.out.trans (hb4.mono HB3.out.size))
        clear hb4
        go_wp2_with fail
        refine (HSI.out _).mono ?_
        rintro e w5 ⟨rfl, hb5⟩
        have HB5 := hide (HB4.out.trans (hb5.mono HB4.out.size))
        clear hb5
        go_wp2_with fail
        refine (HR.out _).mono ?_
        rintro e w6 ⟨rfl, hb6⟩
        have HB6 := hide (HB5.out.trans (hb6.mono HB5.out.size))
        clear hb6
        go_wp2_with fail
        rw [← HF.out]
        have hkI := HKI.out
        go_quiet (fail)
        go_wp2_with fail
        refine bodyPost_ret (results_tmp2 rfl _ _ _) rfl ?_
        rw [HX.out]
        exact ⟨rfl, below_drewN HB6.out _⟩
      · have u4 : ((O.size : Int) < (P : Int) + 1) = False := eq_false (by
          intro h
          have h2 : ¬ (0 : Int) < (P : Int) + 1 - (O.size : Int) := of_eq_false u2
          omega)
        subst u3
        go_enter Tryz.func9, Tryz.ntmps9
        go_wp2_with fail
        refine HC.out.mono ?_
        rintro e w1 ⟨rfl, hb1⟩
        have HB1 := hide hb1
        clear hb1
        go_wp2_with fail
        refine (HPW.out _).mono ?_
        rintro e w2 ⟨rfl, hb2⟩
        have HB2 := hide (HB1.out.trans (hb2.mono HB1.out.size))
        clear hb2
        go_wp2_with fail
        refine (HMU.out _ (Nat.le_trans hB HB2.out.size) (HT.out.p10.on HB2.out hB)).mono ?_
        rintro e w3 ⟨rfl, hb3⟩
        have HB3 := hide (HB2.out.trans (hb3.mono HB2.out.size))
        clear hb3
        go_wp2_with fail
        refine (HNE.out _ (Nat.le_trans hB HB3.out.size) (HT.out.p10.on HB3.out hB)).mono ?_
        rintro e w4 ⟨rfl, hb4⟩
        have HB4 := hide (HB3.out.trans (hb4.mono HB3.out.size))
        clear hb4
        go_wp2_with fail
        refine (HSI.out _).mono ?_
        rintro e w5 ⟨rfl, hb5⟩
        have HB5 := hide (HB4.out.trans (hb5.mono HB4.out.size))
        clear hb5
        go_wp2_with fail
        have hkI := HKI.out
        go_quiet (fail)
        go_wp2_with fail
        refine bodyPost_ret (results_tmp2 rfl _ _ _) rfl ?_
        rw [HX.out]
        exact ⟨rfl, below_drewN HB5.out _⟩
  · rw [show checkM s.data.toList p = tripV [] [] (chkP s.data.toList p) from if_neg hc, tripV_err] at HC
    rw [show printS s.data.toList p = [] from if_neg hc, pairV_err]
    have hne : (chkP s.data.toList p != 0) = true := by simpa using hc
    obtain ⟨E, hE⟩ : ∃ E, E = chkP s.data.toList p := ⟨_, rfl⟩
    rw [← hE] at HC hne ⊢
    clear hE hc hT
    go_enter Tryz.func9, Tryz.ntmps9
    go_wp2_with fail
    refine HC.out.mono ?_
    rintro e w1 ⟨rfl, hb1⟩
    have HB1 := hide hb1
    clear hb1
    go_wp2_with fail
    refine bodyPost_ret (results_tmp2 rfl _ _ _) rfl ?_
    exact ⟨rfl, HB1.out⟩
end Go.Proofs.YtfcjaljaomknjaaGreatDoor
namespace Go.KI
open Go
theorem floor_nat2 (n : Int) {d : Int} (hd : 0 < d) : (n.tmod d < 0 ∧ n / d = n.tdiv d - 1) ∨ ((n.tmod d < 0) = False ∧ n / d = n.tdiv d) := by
  have h1 := Int.mul_tdiv_add_tmod n d
  have h2 := Int.mul_ediv_add_emod n d
  have h3 := Int.emod_nonneg n (show d ≠ 0 by omega)
  have h4 := Int.emod_lt_of_pos n hd
  have h5 := @Int.tdiv_eq_ediv n d
  by_cases hc : 0 ≤ n ∨ d ∣ n
  · rw [if_pos hc, Int.add_zero] at h5
    rw [h5] at h1
    exact .inr ⟨eq_false (by omega), h5.symm⟩
  · rw [if_neg hc, Int.sign_eq_one_of_pos hd] at h5
    rw [h5, Int.mul_add, Int.mul_one] at h1
    have h6 : n % d ≠ 0 := fun e => hc (.inr (Int.dvd_of_emod_eq_zero e))
    exact .inl ⟨by omega, by omega⟩
end Go.KI
namespace Go.Proofs.YtfcjaljaomknjaaGreatDoor
open Go.RowKit Go.KP Go.KI Go.Shelf
attribute [local go_sem] Oper.semAt_some

theorem r2FloorZ_T {x : Rat} (fx : fitsQ x) (B : Nat) (w : World) (hB : B ≤ w.heap.size) (hT : PQ B w) :
    Calls Tryz.prog 45 #[.string (T x)] w (Ret w (.tuple #[.string (iB (x.floor)), .int .i64 0])) := by
  have HT := hide hT
  have H1 := hide (fun w hB hT => r2Check_T fx B w hB hT)
  have ff : fits x.floor := by rw [floor_divInt]; exact fits_of_le fx.1 (Int.natAbs_ediv_le_natAbs _ _)
  have hdp : 0 < (x.den : Int) := by have := x.den_pos; omega
  by_cases hs : shortQ x
  · have HI := hide (fun w => ints_short fx hs w)
    obtain ⟨a1, a2⟩ := shortQ_lt hs
    have hab : x.floor.natAbs ≤ x.num.natAbs := by rw [floor_divInt]; exact Int.natAbs_ediv_le_natAbs _ _
    have HQ := hide (fun w => r2quick_any x.floor 1 (by omega) (by omega) (by omega) w)
    have e1 : strB (ratS (Rat.divInt x.floor ((1 : Nat) : Int))) = iB x.floor := by
      rw [Rat.divInt_ofNat, Rat.mkRat_one]
      exact (iB_T _).symm
    rw [e1] at HQ
    have hcase := floor_nat2 x.num hdp
    rw [← floor_divInt] at hcase
    generalize iB x.floor = R at *
    obtain ⟨F, hF⟩ : ∃ F, F = x.floor := ⟨_, rfl⟩
    obtain ⟨n, hn⟩ : ∃ n, n = x.num := ⟨_, rfl⟩
    obtain ⟨d, hd⟩ : ∃ n, n = x.den := ⟨_, rfl⟩
    rw [← hF, ← hn, ← hd] at hcase
    rw [← hF] at HQ hab
    rw [← hn, ← hd] at HI
    rw [← hn] at a1 hab
    rw [← hd] at a2 hdp
    have hnb : -1000000000 < n ∧ n < 1000000000 := by omega
    have hd0 : ((d : Int) == 0) = false := by simp only [beq_eq_false_iff_ne, ne_eq]; omega
    generalize T x = X at *
    clear hn hd hF ff fx hs hT
    rcases hcase with ⟨h1, h2⟩ | ⟨h1, h2⟩
    · obtain ⟨c, hc⟩ : ∃ c, c = n.tdiv (d : Int) := ⟨_, rfl⟩
      obtain ⟨r, hr⟩ : ∃ c, c = n.tmod (d : Int) := ⟨_, rfl⟩
      have hti : n.tdiv (d : Int) = c := hc.symm
      have htm : n.tmod (d : Int) = r := hr.symm
      rw [htm] at h1
      rw [hti] at h2
      subst h2
      have hcb : -1000000001 ≤ c ∧ c ≤ 1000000001 := by omega
      clear hc hr hab
      go_enter Tryz.func45, Tryz.ntmps45
      go_wp2_with fail
      refine (H1.out _ hB HT.out).mono ?_
      rintro e w1 ⟨rfl, hb1⟩
      have HB1 := hide hb1
      clear hb1
      go_wp2_with fail
      refine (HI.out _).mono ?_
      rintro e w2 ⟨rfl, hb2⟩
      have HB2 := hide (HB1.out.trans (hb2.mono HB1.out.size))
      clear hb2
      go_wp2_with fail
      refine (HQ.out _).mono ?_
      rintro e w3 ⟨rfl, hb3⟩
      have HB3 := hide (HB2.out.trans (hb3.mono HB2.out.size))
      clear hb3
      go_wp2_with fail
      refine bodyPost_ret (results_tmp2 rfl _ _ _) rfl ?_
      exact ⟨rfl, HB3.out⟩
    · obtain ⟨c, hc⟩ : ∃ c, c = n.tdiv (d : Int) := ⟨_, rfl⟩
      obtain ⟨r, hr⟩ : ∃ c, c = n.tmod (d : Int) := ⟨_, rfl⟩
      have hti : n.tdiv (d : Int) = c := hc.symm
      have htm : n.tmod (d : Int) = r := hr.symm
      rw [htm] at h1
      rw [hti] at h2
      subst h2
      have hcb : -1000000001 ≤ F ∧ F ≤ 1000000001 := by omega
      clear hc hr hab
      go_enter Tryz.func45, Tryz.ntmps45
      go_wp2_with fail
      refine (H1.out _ hB HT.out).mono ?_
      rintro e w1 ⟨rfl, hb1⟩
      have HB1 := hide hb1
      clear hb1
      go_wp2_with fail
      refine (HI.out _).mono ?_
      rintro e w2 ⟨rfl, hb2⟩
      have HB2 := hide (HB1.out.trans (hb2.mono HB1.out.size))
      clear hb2
      go_wp2_with fail
      refine (HQ.out _).mono ?_
      rintro e w3 ⟨rfl, hb3⟩
      have HB3 := hide (HB2.out.trans (hb3.mono HB2.out.size))
      clear hb3
      go_wp2_with fail
      refine bodyPost_ret (results_tmp2 rfl _ _ _) rfl ?_
      exact ⟨rfl, HB3.out⟩
  · have HI := hide (fun w => r2ints_T fx w)
    unfold intsQ at HI
    rw [if_neg hs] at HI
    have HP := hide (fun w => r2parts_T fx w)
    have HD := hide (fun w hB hT => rDivide_I fx.1 fx.2 hdp B w hB hT)
    have HM := hide (fun w hB hT => r2make_any (n := x.num / (x.den : Int)) (d := ((1 : Nat) : Int)) (by omega) (by rw [← floor_divInt]; exact ff) fits_one B w hB hT)
    rw [lit1, show T (Rat.divInt (x.num / (x.den : Int)) ((1 : Nat) : Int)) = iB x.floor by
      rw [Rat.divInt_ofNat, Rat.mkRat_one, ← floor_divInt]
      exact (iB_T _).symm] at HM
    rw [← floor_divInt] at HD HM
    generalize iB x.floor = R at *
    generalize iB (x.num % (x.den : Int)) = RM at *
    generalize iB x.num = N at *
    generalize iB (x.den : Int) = D at *
    generalize T x = X at *
    clear ff hs hdp fx hT
    go_enter Tryz.func45, Tryz.ntmps45
    go_wp2_with fail
    refine (H1.out _ hB HT.out).mono ?_
    rintro e w1 ⟨rfl, hb1⟩
    have HB1 := hide hb1
    clear hb1
    go_wp2_with fail
    refine (HI.out _).mono ?_
    rintro e w2 ⟨rfl, hb2⟩
    have HB2 := hide (HB1.out.trans (hb2.mono HB1.out.size))
    clear hb2
    go_wp2_with fail
    refine (HP.out _).mono ?_
    rintro e w3 ⟨rfl, hb3⟩
    have HB3 := hide (HB2.out.trans (hb3.mono HB2.out.size))
    clear hb3
    go_wp2_with fail
    refine (HD.out _ (Nat.le_trans hB HB3.out.size) (HT.out.p10.on HB3.out hB)).mono ?_
    rintro e w4 ⟨rfl, hb4⟩
    have HB4 := hide (HB3.out.trans (hb4.mono HB3.out.size))
    clear hb4
    go_wp2_with fail
    refine (HM.out _ (Nat.le_trans hB HB4.out.size) (HT.out.p10.on HB4.out hB)).mono ?_
    rintro e w5 ⟨rfl, hb5⟩
    have HB5 := hide (HB4.out.trans (hb5.mono HB4.out.size))
    clear hb5
    go_wp2_with fail
    refine bodyPost_ret (results_tmp2 rfl _ _ _) rfl ?_
    exact ⟨rfl, HB5.out⟩
theorem m7size_I {z : Int} (f : fits z) (w : World) : Calls Tryz.prog 82 #[.string (iB z)] w (fun e w' => e = .returned (.int .i64 ((Lib.decDigits z.natAbs).length : Nat)) ∧ w' = w) := by
  obtain ⟨hp, h45⟩ := iB_head z
  have hs := iB_size_abs z
  have hsz := iB_size f
  have hp0 : (0 : Int) < ((iB z).size : Int) := by omega
  have he : ((iB z).toList == []) = false := by
    rw [ByteArray.toList_eq]
    exact beq_false_of_ne fun e => by
      have : (iB z).data.toList.length = 0 := by rw [e]; rfl
      rw [bytes_len] at this
      omega
  have he2 : ((iB z).toList != []) = true := by simp only [bne, he]; rfl
  have he3 : (iB z).toList.isEmpty = false := by
    cases h : (iB z).toList with
    | nil => rw [h] at he; cases he
    | cons a b => rfl
  obtain ⟨L, hL⟩ : ∃ L, L = (Lib.decDigits z.natAbs).length := ⟨_, rfl⟩
  rw [← hL] at hs ⊢
  by_cases hz : z < 0
  · rw [if_pos hz] at hs
    rw [decide_eq_true hz] at h45
    generalize iB z = X at *
    have hl : (X.size : Int) - 1 = (L : Int) := by omega
    clear hL hz hs f
    go_enter Tryz.func82, Tryz.ntmps82
    go_wp2_with fail
    go_ret
    exact ⟨by rw [← hl]; rfl, rfl⟩
  · rw [if_neg hz] at hs
    rw [decide_eq_false hz] at h45
    generalize iB z = X at *
    subst hs
    clear hL hz f
    go_enter Tryz.func82, Tryz.ntmps82
    go_wp2_with fail
    go_ret
    exact ⟨rfl, rfl⟩
theorem m7check_any (s : ByteArray) (hss : s.size ≤ 9223372036854775807) (B : Nat) (w : World) (hB : B ≤ w.heap.size) (hT : PQ B w) :
    Calls Tryz.prog 34 #[.string s] w (Ret w (.int .i64 (chkM s.data.toList))) := by
  have HT := hide hT
  have HC := hide (fun w hB hT => r2Check_big s hss B w hB hT)
  by_cases hq : chkQ s.data.toList = 0
  rotate_left
  · have e : chkM s.data.toList = chkQ s.data.toList := if_pos hq
    have hqb : (chkQ s.data.toList == 0) = false := by simpa using hq
    rw [e]
    generalize chkQ s.data.toList = E at *
    clear e hq hT hss
    go_enter Tryz.func34, Tryz.ntmps34
    go_wp2_with fail
    refine (HC.out _ hB HT.out).mono ?_
    rintro e w1 ⟨rfl, hb1⟩
    have HB1 := hide hb1
    clear hb1
    go_wp2_with fail
    go_ret
    exact ⟨rfl, HB1.out⟩
  rw [hq] at HC
  obtain ⟨eT, fq, _, _⟩ := chkQ_ok hq
  obtain ⟨q, hqq⟩ : ∃ q, q = valQ s.data.toList := ⟨_, rfl⟩
  have h9 : chkM s.data.toList = if 90 < max (Lib.decDigits q.num.natAbs).length (Lib.decDigits q.den).length then 4 else 0 := by
    unfold chkM
    rw [if_neg (by simp [hq]), hqq]
  rw [← hqq] at eT fq
  have eS : s = T q := T_of eT
  have HP := hide (fun w hB hT => r2Parts_T fq B w hB hT)
  have HS1 := hide (fun w => m7size_I fq.1 w)
  have HS2 := hide (fun w => m7size_I fq.2 w)
  rw [Int.natAbs_natCast] at HS2
  rw [← eS] at HP
  obtain ⟨R, hR⟩ : ∃ R, R = chkM s.data.toList := ⟨_, rfl⟩
  rw [← hR] at h9 ⊢
  generalize (Lib.decDigits q.num.natAbs).length = a at HS1 h9
  generalize (Lib.decDigits q.den).length = d at HS2 h9
  have hbig : (90 < a ∧ R = 4) ∨ (a ≤ 90 ∧ 90 < d ∧ R = 4) ∨ (a ≤ 90 ∧ d ≤ 90 ∧ R = 0) := by
    by_cases hb : 90 < max a d
    · rw [if_pos hb] at h9
      by_cases ha : 90 < a
      · exact .inl ⟨ha, h9⟩
      · exact .inr (.inl ⟨by omega, by omega, h9⟩)
    · rw [if_neg hb] at h9
      exact .inr (.inr ⟨by omega, by omega, h9⟩)
  generalize iB q.num = N at *
  generalize iB (q.den : Int) = D at *
  clear hq eT fq hqq eS h9 hR hT hss
  rcases hbig with ⟨ha, rfl⟩ | ⟨ha, hd, rfl⟩ | ⟨ha, hd, rfl⟩
  · have g1 : (90 : Int) < (a : Int) := by omega
    clear ha
    go_enter Tryz.func34, Tryz.ntmps34
    go_wp2_with fail
    refine (HC.out _ hB HT.out).mono ?_
    rintro e w1 ⟨rfl, hb1⟩
    have HB1 := hide hb1
    clear hb1
    go_wp2_with fail
    refine (HP.out _ (Nat.le_trans hB HB1.out.size) (HT.out.on HB1.out hB)).mono ?_
    rintro e w2 ⟨rfl, hb2⟩
    have HB2 := hide (HB1.out.trans (hb2.mono HB1.out.size))
    clear hb2
    go_wp2_with fail
    refine (HS1.out _).mono ?_
    rintro e w3 ⟨rfl, rfl⟩
    go_wp2_with fail
    go_ret
    exact ⟨rfl, HB2.out⟩
  · have g1 : ((90 : Int) < (a : Int)) = False := eq_false (by omega)
    have g2 : (90 : Int) < (d : Int) := by omega
    clear ha hd
    go_enter Tryz.func34, Tryz.ntmps34
    go_wp2_with fail
    refine (HC.out _ hB HT.out).mono ?_
    rintro e w1 ⟨rfl, hb1⟩
    have HB1 := hide hb1
    clear hb1
    go_wp2_with fail
    refine (HP.out _ (Nat.le_trans hB HB1.out.size) (HT.out.on HB1.out hB)).mono ?_
    rintro e w2 ⟨rfl, hb2⟩
    have HB2 := hide (HB1.out.trans (hb2.mono HB1.out.size))
    clear hb2
    go_wp2_with fail
    refine (HS1.out _).mono ?_
    rintro e w3 ⟨rfl, rfl⟩
    go_wp2_with fail
    refine (HS2.out _).mono ?_
    rintro e w3 ⟨rfl, rfl⟩
    go_wp2_with fail
    go_ret
    exact ⟨rfl, HB2.out⟩
  · have g1 : ((90 : Int) < (a : Int)) = False := eq_false (by omega)
    have g2 : ((90 : Int) < (d : Int)) = False := eq_false (by omega)
    clear ha hd
    go_enter Tryz.func34, Tryz.ntmps34
    go_wp2_with fail
    refine (HC.out _ hB HT.out).mono ?_
    rintro e w1 ⟨rfl, hb1⟩
    have HB1 := hide hb1
    clear hb1
    go_wp2_with fail
    refine (HP.out _ (Nat.le_trans hB HB1.out.size) (HT.out.on HB1.out hB)).mono ?_
    rintro e w2 ⟨rfl, hb2⟩
    have HB2 := hide (HB1.out.trans (hb2.mono HB1.out.size))
    clear hb2
    go_wp2_with fail
    refine (HS1.out _).mono ?_
    rintro e w3 ⟨rfl, rfl⟩
    go_wp2_with fail
    refine (HS2.out _).mono ?_
    rintro e w3 ⟨rfl, rfl⟩
    go_wp2_with fail
    go_ret
    exact ⟨rfl, HB2.out⟩
theorem m7product_T {x y : Rat} (fx : fitsQ x) (fy : fitsQ y) (hc : mulC x y) (B : Nat) (w : World) (hB : B ≤ w.heap.size) (hT : PQ B w) :
    Calls Tryz.prog 42 #[.string (T x), .string (T y)] w (Ret w (.string (T (x * y)))) := by
  have HT := hide hT
  have H1 := hide (fun w hB hT => r2Mul_T fx fy B w hB hT)
  rw [show mulO x y = some (x * y) from if_pos hc] at H1
  unfold opV at H1
  dsimp only at H1
  generalize T (x * y) = R at *
  generalize T x = S at *
  generalize T y = U at *
  clear fx fy hc hT
  go_enter Tryz.func42, Tryz.ntmps42
  go_wp2_with fail
  refine (H1.out _ hB HT.out).mono ?_
  rintro e w1 ⟨rfl, hb1⟩
  have HB1 := hide hb1
  clear hb1
  go_wp2_with fail
  go_ret
  exact ⟨rfl, HB1.out⟩
theorem half_lit7 : T (1 / 2) = ⟨#[49, 47, 50]⟩ := txq (n := 1) (d := 2) (by decide +kernel) (by decide +kernel) (by decide) (a := [49]) (b := [50]) (by decide +kernel) (by decide +kernel)
theorem sz_half : sz 1 (1 / 2 : Rat) := ⟨by decide +kernel, by decide +kernel⟩
theorem m7nearest_T {x : Rat} {p : Nat} (sx : sz p x) (hp : p ≤ 290) (B : Nat) (w : World) (hB : B ≤ w.heap.size) (hT : PQ B w) :
    Calls Tryz.prog 41 #[.string (T x)] w (Ret w (.string (iB (x + 1 / 2).floor))) := by
  have HT := hide hT
  have H1 := hide (fun w hB hT => r2Add_T (sz_fits sx (by rw [most_eq]; omega)) (sz_fits sz_half (by rw [most_eq]; omega)) B w hB hT)
  rw [show addO x (1 / 2) = some (x + 1 / 2) from if_pos (addC_of sx sz_half (by rw [most_eq]; omega)), half_lit7] at H1
  unfold opV at H1
  dsimp only at H1
  have H2 := hide (fun w hB hT => r2FloorZ_T (x := x + 1 / 2) (sz_fits (sz_add sx sz_half) (by rw [most_eq]; omega)) B w hB hT)
  generalize iB (x + 1 / 2).floor = R at *
  generalize T (x + 1 / 2) = S at *
  generalize T x = U at *
  clear sx hp hT
  go_enter Tryz.func41, Tryz.ntmps41
  go_wp2_with fail
  refine (H1.out _ hB HT.out).mono ?_
  rintro e w1 ⟨rfl, hb1⟩
  have HB1 := hide hb1
  clear hb1
  go_wp2_with fail
  refine (H2.out _ (Nat.le_trans hB HB1.out.size) (HT.out.on HB1.out hB)).mono ?_
  rintro e w2 ⟨rfl, hb2⟩
  have HB2 := hide (HB1.out.trans (hb2.mono HB1.out.size))
  clear hb2
  go_wp2_with fail
  go_ret
  exact ⟨rfl, HB2.out⟩
end Go.Proofs.YtfcjaljaomknjaaGreatDoor
namespace Go.KI
open Go

theorem mul_den (x : Rat) : x * (x.den : Rat) = (x.num : Rat) := by
  have h := Rat.num_divInt_den x
  rw [Rat.divInt_eq_div, Rat.intCast_natCast] at h
  have hd : (x.den : Rat) ≠ 0 := by
    rw [Ne, Rat.natCast_eq_zero_iff]
    exact x.den_nz
  have h2 : (x.num : Rat) / (x.den : Rat) * (x.den : Rat) = (x.num : Rat) := by
    rw [Rat.div_def, Rat.mul_assoc, Rat.inv_mul_cancel _ hd, Rat.mul_one]
  rwa [h] at h2
end Go.KI
namespace Go.Proofs.YtfcjaljaomknjaaGreatDoor
open Go.RowKit Go.KP Go.KI Go.Shelf
attribute [local go_sem] Oper.semAt_some

theorem times_den (q : Rat) (P : Nat) : q * ((P : Nat) : Rat) * (q.den : Rat) = ((q.num * (P : Int) : Int) : Rat) := by
  have h := mul_den q
  rw [Rat.intCast_mul, Rat.intCast_natCast, ← h]
  grind
theorem den_posR (q : Rat) : (0 : Rat) < (q.den : Rat) := Rat.natCast_pos.2 q.den_pos
theorem near_floor (q : Rat) (p : Nat) : (q * ((10 ^ p : Nat) : Rat) + 1 / 2).floor = unitsP q p := by
  obtain ⟨h1, h2⟩ := near2_spec (n := q.num * ((10 ^ p : Nat) : Int)) (d := (q.den : Int)) (by have := q.den_pos; omega)
  obtain ⟨m, hm⟩ : ∃ m, m = unitsP q p := ⟨_, rfl⟩
  rw [show near2 (q.num * ((10 ^ p : Nat) : Int)) (q.den : Int) = m from hm.symm] at h1 h2
  rw [← hm]
  have ht := times_den q (10 ^ p)
  have hd := den_posR q
  obtain ⟨D, hD⟩ : ∃ D : Rat, D = (q.den : Rat) := ⟨_, rfl⟩
  obtain ⟨x, hx⟩ : ∃ x : Rat, x = q * ((10 ^ p : Nat) : Rat) := ⟨_, rfl⟩
  rw [← hx] at ht ⊢
  have g1 := Rat.intCast_le_intCast.2 h1
  have g2 := Rat.intCast_lt_intCast.2 h2
  simp only [Rat.intCast_add, Rat.intCast_mul, Rat.intCast_natCast] at g1 g2 ht
  rw [← hD] at g1 g2 ht hd
  have e2 : ((2 : Int) : Rat) = 2 := rfl
  rw [e2] at g1 g2
  have k1 : ((m : Rat)) ≤ x + 1 / 2 := by
    refine Rat.not_lt.1 fun hlt => ?_
    have := Rat.mul_lt_mul_of_pos_right hlt (show (0 : Rat) < 2 * D by grind)
    grind
  have k2 : x + 1 / 2 < ((m + 1 : Int) : Rat) := by
    rw [Rat.intCast_add]
    refine Rat.not_le.1 fun hle => ?_
    have := Rat.mul_le_mul_of_nonneg_right hle (show (0 : Rat) ≤ 2 * D by grind)
    have e1 : ((1 : Int) : Rat) = 1 := rfl
    rw [e1] at this
    grind
  have l1 := Rat.le_floor_iff.2 k1
  have l2 := Rat.floor_lt_iff.2 k2
  omega
theorem exact_floor (q : Rat) (p : Nat) : (q * ((10 ^ p : Nat) : Rat) = ((q * ((10 ^ p : Nat) : Rat)).floor : Rat)) ↔ (q.num * ((10 ^ p : Nat) : Int)).fmod (q.den : Int) = 0 := by
  have ht := times_den q (10 ^ p)
  have hd := den_posR q
  obtain ⟨x, hx⟩ : ∃ x : Rat, x = q * ((10 ^ p : Nat) : Rat) := ⟨_, rfl⟩
  obtain ⟨N, hN⟩ : ∃ N : Int, N = q.num * ((10 ^ p : Nat) : Int) := ⟨_, rfl⟩
  rw [← hx, ← hN] at ht
  rw [← hx, ← hN, Int.fmod_eq_emod_of_nonneg _ (by omega)]
  constructor
  · intro h
    rw [h] at ht
    have : x.floor * (q.den : Int) = N := Rat.intCast_inj.1 (by rw [Rat.intCast_mul, Rat.intCast_natCast]; exact ht)
    rw [← this, Int.mul_emod_left]
  · intro h
    obtain ⟨c, hc⟩ := Int.dvd_of_emod_eq_zero h
    have : x = (c : Rat) := by
      have h2 : x * (q.den : Rat) = (c : Rat) * (q.den : Rat) := by
        rw [ht, hc, Rat.intCast_mul, Rat.intCast_natCast, Rat.mul_comm]
      have h3 : (x - (c : Rat)) * (q.den : Rat) = 0 := by grind
      rcases Rat.mul_eq_zero.1 h3 with h4 | h4
      · grind
      · exact absurd h4 (Rat.ne_of_gt hd)
    rw [this, Rat.floor_intCast]
theorem pow_sz {p : Nat} (hp : p ≤ 100) : sz 101 ((10 ^ p : Nat) : Rat) := by
  rw [show (((10 ^ p : Nat) : Nat) : Rat) = (((10 ^ p : Nat) : Int) : Rat) from rfl]
  exact sz_int (by rw [Int.natAbs_natCast]; exact Nat.pow_lt_pow_right (by omega) (by omega)) (by omega)
def powS (k : Nat) : ByteArray := strB (49 :: List.replicate k 48)
theorem powS_succ (k : Nat) : powS k ++ ⟨#[48]⟩ = powS (k + 1) := by
  apply bytes_eq
  unfold powS
  rw [ByteArray.data_append, Array.toList_append, strB_list, strB_list, List.replicate_succ']
  rfl
theorem powS_size (k : Nat) : (powS k).size = k + 1 := by
  unfold powS
  rw [strB_size, List.length_cons, List.length_replicate]
theorem powS_T (p : Nat) : powS p = T ((10 ^ p : Nat) : Rat) := by
  rw [show T ((10 ^ p : Nat) : Rat) = iB ((10 ^ p : Nat) : Int) from (iB_T _).symm]
  apply bytes_eq
  unfold powS
  rw [strB_list, iB_list, Lib.itoa_nonneg, dec_pow]
theorem m7power_any (p : Nat) (hp : p ≤ 1000) (w : World) :
    Calls Tryz.prog 43 #[.int .i64 p] w (Ret w (.string (T ((10 ^ p : Nat) : Rat)))) := by
  rw [← powS_T]
  go_enter Tryz.func43, Tryz.ntmps43
  go_wp2_with fail
  go_loopw [3, 4] (fun s i wr => ∃ k : Nat, k ≤ p ∧ s = .string (powS k) ∧ i = .int .i64 k ∧ wr = w) (fun _ i _ => p - (intOf i).toNat)
  case atStart => exact ⟨0, Nat.zero_le _, by rw [show powS 0 = ⟨#[49]⟩ from rfl], rfl, by first | rfl | trivial⟩
  case round =>
    obtain ⟨k, hk, rfl, rfl, rfl⟩ := hrel
    by_cases hlt : k < p
    · have hki : (k : Int) < (p : Int) := by omega
      have hsz := powS_size k
      have v : (9223372036854775807 < (powS k).size + 1) = False := eq_false (by omega)
      have HS := hide (powS_succ k)
      generalize powS k = S at *
      clear hlt hsz
      go_wp2_with fail
      go_roundw
      case rel => exact ⟨k + 1, by omega, by rw [HS.out], by simp, by first | rfl | trivial⟩
      case measure => simp [intOf]; omega
    · obtain rfl : k = p := by omega
      have hki : ((k : Int) < (k : Int)) = False := eq_false (by omega)
      generalize powS k = S at *
      clear hlt
      go_wp2_with fail
      go_ret
      exact ⟨rfl, Below.refl _ _⟩
theorem m7Exact_any (s : ByteArray) (hs : s.size ≤ 1000000) (p : Int) (B : Nat) (w : World) (hB : B ≤ w.heap.size) (hT : PQ B w) :
    Calls Tryz.prog 12 #[.string s, .int .i64 p] w (Ret w (.tuple #[.bool (decide (chkP s.data.toList p = 0 ∧ ((valQ s.data.toList).num * ((10 ^ p.toNat : Nat) : Int)).fmod ((valQ s.data.toList).den : Int) = 0)), .int .i64 (chkP s.data.toList p)])) := by
  have HT := hide hT
  have HC := hide (fun w hB hT => m7check_any s (by omega) B w hB hT)
  by_cases hM : chkM s.data.toList = 0
  rotate_left
  · have e : chkP s.data.toList p = chkM s.data.toList := if_pos hM
    have hqb : (chkM s.data.toList == 0) = false := by simpa using hM
    rw [e, decide_eq_false (fun h => hM h.1)]
    generalize chkM s.data.toList = E at *
    clear e hM hT hs
    go_enter Tryz.func12, Tryz.ntmps12
    go_wp2_with fail
    refine (HC.out _ hB HT.out).mono ?_
    rintro e w1 ⟨rfl, hb1⟩
    have HB1 := hide hb1
    clear hb1
    go_wp2_with fail
    refine bodyPost_ret (results_tmp2 rfl _ _ _) rfl ?_
    exact ⟨rfl, HB1.out⟩
  rw [hM] at HC
  have eP : chkP s.data.toList p = if p < 0 ∨ 100 < p then 2 else 0 := by unfold chkP; rw [if_neg (by simp [hM])]
  by_cases h0 : p < 0
  · rw [if_pos (.inl h0)] at eP
    rw [eP, decide_eq_false (by simp)]
    clear eP hM hT hs
    go_enter Tryz.func12, Tryz.ntmps12
    go_wp2_with fail
    refine (HC.out _ hB HT.out).mono ?_
    rintro e w1 ⟨rfl, hb1⟩
    have HB1 := hide hb1
    clear hb1
    go_wp2_with fail
    refine bodyPost_ret (results_tmp2 rfl _ _ _) rfl ?_
    exact ⟨rfl, HB1.out⟩
  have g0 : (p < 0) = False := eq_false h0
  by_cases h1 : 100 < p
  · rw [if_pos (.inr h1)] at eP
    rw [eP, decide_eq_false (by simp)]
    clear eP hM hT hs h0
    go_enter Tryz.func12, Tryz.ntmps12
    go_wp2_with fail
    refine (HC.out _ hB HT.out).mono ?_
    rintro e w1 ⟨rfl, hb1⟩
    have HB1 := hide hb1
    clear hb1
    go_wp2_with fail
    refine bodyPost_ret (results_tmp2 rfl _ _ _) rfl ?_
    exact ⟨rfl, HB1.out⟩
  have g1 : (100 < p) = False := eq_false h1
  rw [if_neg (fun h => h.elim h0 h1)] at eP
  obtain ⟨P, rfl⟩ : ∃ P : Nat, p = (P : Int) := ⟨p.toNat, by omega⟩
  obtain ⟨hq, n1, d1⟩ := chkM_ok hM
  obtain ⟨eT, fq, _, _⟩ := chkQ_ok hq
  have eS : s = T (valQ s.data.toList) := T_of eT
  rw [eP, Int.toNat_natCast]
  obtain ⟨q, hqq⟩ : ∃ q, q = valQ s.data.toList := ⟨_, rfl⟩
  rw [← hqq] at eS n1 d1 fq ⊢
  have sq : sz 90 q := ⟨n1, d1⟩
  have hP : P ≤ 100 := by omega
  have HPW := hide (fun w => m7power_any P (by omega) w)
  have HPR := hide (fun w hB hT => m7product_T fq (sz_fits (pow_sz hP) (by rw [most_eq]; omega)) (mulC_of sq (pow_sz hP) (by rw [most_eq]; omega)) B w hB hT)
  have sx := sz_mul sq (pow_sz hP)
  have HFL := hide (fun w hB hT => r2FloorZ_T (sz_fits sx (by rw [most_eq]; omega)) B w hB hT)
  have hex := exact_floor q P
  have hb := T_beq (q * ((10 ^ P : Nat) : Rat)) (((q * ((10 ^ P : Nat) : Rat)).floor : Int) : Rat)
  rw [← iB_T] at hb
  rw [show decide ((0 : Int) = 0 ∧ (q.num * ((10 ^ P : Nat) : Int)).fmod (q.den : Int) = 0) = decide (q * ((10 ^ P : Nat) : Rat) = (((q * ((10 ^ P : Nat) : Rat)).floor : Int) : Rat)) from decide_eq_decide.2 ⟨fun h => hex.2 h.2, fun h => ⟨rfl, hex.1 h⟩⟩, ← hb]
  rw [← eS] at HPR
  generalize iB (q * ((10 ^ P : Nat) : Rat)).floor = F at *
  generalize T (q * ((10 ^ P : Nat) : Rat)) = X at *
  generalize T ((10 ^ P : Nat) : Rat) = W at *
  have hP0 : (0 : Int) ≤ (P : Int) := by omega
  clear eP hM hT hs h0 h1 hq eT hqq eS n1 d1 fq sq hP sx hex hb
  go_enter Tryz.func12, Tryz.ntmps12
  go_wp2_with fail
  refine (HC.out _ hB HT.out).mono ?_
  rintro e w1 ⟨rfl, hb1⟩
  have HB1 := hide hb1
  clear hb1
  go_wp2_with fail
  refine (HPW.out _).mono ?_
  rintro e w2 ⟨rfl, hb2⟩
  have HB2 := hide (HB1.out.trans (hb2.mono HB1.out.size))
  clear hb2
  go_wp2_with fail
  refine (HPR.out _ (Nat.le_trans hB HB2.out.size) (HT.out.on HB2.out hB)).mono ?_
  rintro e w3 ⟨rfl, hb3⟩
  have HB3 := hide (HB2.out.trans (hb3.mono HB2.out.size))
  clear hb3
  go_wp2_with fail
  refine (HFL.out _ (Nat.le_trans hB HB3.out.size) (HT.out.on HB3.out hB)).mono ?_
  rintro e w4 ⟨rfl, hb4⟩
  have HB4 := hide (HB3.out.trans (hb4.mono HB3.out.size))
  clear hb4
  go_wp2_with fail
  refine bodyPost_ret (results_tmp2 rfl _ _ _) rfl ?_
  exact ⟨rfl, HB4.out⟩
open Go.RowKit Go.KP Go.KI Go.Shelf
attribute [local go_sem] Oper.semAt_some

def padS (m : Int) (j : Nat) : ByteArray := strB (List.replicate j 48 ++ Lib.decDigits m.natAbs)
theorem padS_succ (m : Int) (j : Nat) : (⟨#[48]⟩ : ByteArray) ++ padS m j = padS m (j + 1) := by
  apply bytes_eq
  unfold padS
  rw [ByteArray.data_append, Array.toList_append, strB_list, strB_list, List.replicate_succ]
  rfl
theorem padS_size (m : Int) (j : Nat) : (padS m j).size = j + (Lib.decDigits m.natAbs).length := by
  unfold padS
  rw [strB_size, List.length_append, List.length_replicate]
theorem padS_own (m : Int) (p : Nat) : padS m (p + 1 - (Lib.decDigits m.natAbs).length) = strB (own m p) := rfl
theorem padS_zero {m : Int} (h : 0 ≤ m) : iB m = padS m 0 := by
  apply bytes_eq
  rw [iB_nonneg h]
  unfold padS
  rw [strB_list, List.replicate_zero, List.nil_append]
theorem padS_neg {m : Int} (h : m < 0) : iB (-m) = padS m 0 := by
  apply bytes_eq
  rw [iB_nonneg (by omega), Int.natAbs_neg]
  unfold padS
  rw [strB_list, List.replicate_zero, List.nil_append]
def strOf : Value → ByteArray
  | .string s => s
  | _ => ⟨#[]⟩
theorem m7Print_any (s : ByteArray) (hs : s.size ≤ 1000000) (p : Int) (B : Nat) (w : World) (hB : B ≤ w.heap.size) (hT : PQ B w) :
    Calls Tryz.prog 10 #[.string s, .int .i64 p] w (Ret w (pairV (printS s.data.toList p) (chkP s.data.toList p))) := by
  have HT := hide hT
  have HC := hide (fun w hB hT => m7check_any s (by omega) B w hB hT)
  by_cases hM : chkM s.data.toList = 0
  rotate_left
  · have e : chkP s.data.toList p = chkM s.data.toList := if_pos hM
    have hqb : (chkM s.data.toList == 0) = false := by simpa using hM
    rw [show printS s.data.toList p = [] from if_neg (by rw [e]; exact hM), e, pairV_err]
    generalize chkM s.data.toList = E at *
    clear e hM hT hs
    go_enter Tryz.func10, Tryz.ntmps10
    go_wp2_with fail
    refine (HC.out _ hB HT.out).mono ?_
    rintro e w1 ⟨rfl, hb1⟩
    have HB1 := hide hb1
    clear hb1
    go_wp2_with fail
    refine bodyPost_ret (results_tmp2 rfl _ _ _) rfl ?_
    exact ⟨rfl, HB1.out⟩
  rw [hM] at HC
  have eP : chkP s.data.toList p = if p < 0 ∨ 100 < p then 2 else 0 := by unfold chkP; rw [if_neg (by simp [hM])]
  by_cases h0 : p < 0
  · rw [if_pos (.inl h0)] at eP
    rw [show printS s.data.toList p = [] from if_neg (by rw [eP]; decide), eP, pairV_err]
    clear eP hM hT hs
    go_enter Tryz.func10, Tryz.ntmps10
    go_wp2_with fail
    refine (HC.out _ hB HT.out).mono ?_
    rintro e w1 ⟨rfl, hb1⟩
    have HB1 := hide hb1
    clear hb1
    go_wp2_with fail
    refine bodyPost_ret (results_tmp2 rfl _ _ _) rfl ?_
    exact ⟨rfl, HB1.out⟩
  have g0 : (p < 0) = False := eq_false h0
  by_cases h1 : 100 < p
  · rw [if_pos (.inr h1)] at eP
    rw [show printS s.data.toList p = [] from if_neg (by rw [eP]; decide), eP, pairV_err]
    clear eP hM hT hs h0
    go_enter Tryz.func10, Tryz.ntmps10
    go_wp2_with fail
    refine (HC.out _ hB HT.out).mono ?_
    rintro e w1 ⟨rfl, hb1⟩
    have HB1 := hide hb1
    clear hb1
    go_wp2_with fail
    refine bodyPost_ret (results_tmp2 rfl _ _ _) rfl ?_
    exact ⟨rfl, HB1.out⟩
  have g1 : (100 < p) = False := eq_false h1
  rw [if_neg (fun h => h.elim h0 h1)] at eP
  obtain ⟨P, rfl⟩ : ∃ P : Nat, p = (P : Int) := ⟨p.toNat, by omega⟩
  obtain ⟨hq, n1, d1⟩ := chkM_ok hM
  obtain ⟨eT, fq, _, _⟩ := chkQ_ok hq
  have eS : s = T (valQ s.data.toList) := T_of eT
  rw [show printS s.data.toList P = decT (unitsP (valQ s.data.toList) P) P by unfold printS; rw [if_pos eP, Int.toNat_natCast], eP]
  obtain ⟨q, hqq⟩ : ∃ q, q = valQ s.data.toList := ⟨_, rfl⟩
  rw [← hqq] at eS n1 d1 fq ⊢
  have sq : sz 90 q := ⟨n1, d1⟩
  have hP : P ≤ 100 := by omega
  have HPW := hide (fun w => m7power_any P (by omega) w)
  have HPR := hide (fun w hB hT => m7product_T fq (sz_fits (pow_sz hP) (by rw [most_eq]; omega)) (mulC_of sq (pow_sz hP) (by rw [most_eq]; omega)) B w hB hT)
  have sx := sz_mul sq (pow_sz hP)
  have HNE := hide (fun w hB hT => m7nearest_T sx (by omega) B w hB hT)
  rw [near_floor] at HNE
  have hul := units_len n1 hP
  obtain ⟨m, hm⟩ : ∃ m, m = unitsP q P := ⟨_, rfl⟩
  rw [← hm] at HNE hul ⊢
  rw [← eS] at HPR
  generalize T (q * ((10 ^ P : Nat) : Rat)) = X at *
  generalize T ((10 ^ P : Nat) : Rat) = W at *
  obtain ⟨L, hL⟩ : ∃ L, L = (Lib.decDigits m.natAbs).length := ⟨_, rfl⟩
  have hL1 : 1 ≤ L := by rw [hL]; exact dec_len_pos _
  rw [← hL] at hul
  have hP0 : (0 : Int) ≤ (P : Int) := by omega
  have hP1 : (P : Int) ≤ 100 := by omega
  obtain ⟨hhp, h45⟩ := iB_head m
  have hout : decT m P = sgnT (decide (m < 0)) ++ (if P = 0 then Lib.decDigits m.natAbs else (own m P).take ((own m P).length - P) ++ 46 :: (own m P).drop ((own m P).length - P)) := by
    unfold decT sgnT
    by_cases h : m < 0 <;> simp [h]
  obtain ⟨S, hS⟩ : ∃ X, X = strB (sgnT (decide (m < 0))) := ⟨_, rfl⟩
  obtain ⟨Y, hY⟩ : ∃ X, X = strB (decT m P) := ⟨_, rfl⟩
  rw [show pairV (decT m P) 0 = .tuple #[.string Y, .int .i64 0] by rw [hY]]
  have hSs : S.size ≤ 1 := by rw [hS, strB_size]; unfold sgnT; split <;> simp
  obtain ⟨F, hF⟩ : ∃ F, F = strB (own m P) := ⟨_, rfl⟩
  have hFs : F.size = (own m P).length := by rw [hF, strB_size]
  have hol := own_len m P
  have hol2 : (own m P).length ≤ 300 := by
    unfold own
    rw [List.length_append, List.length_replicate]
    omega
  obtain ⟨k, hk⟩ : ∃ k, k = F.size - P := ⟨_, rfl⟩
  have hkP : F.size = k + P := by omega
  have HX : Hid (if P = 0 then Y = S ++ F else Y = S ++ F.extract 0 k ++ ⟨#[46]⟩ ++ F.extract k F.size) := hide (by
    by_cases hz : P = 0
    · rw [if_pos hz, hY, hout, if_pos hz, hS, hF]
      have : own m P = Lib.decDigits m.natAbs := by
        unfold own
        rw [hz, show 0 + 1 - (Lib.decDigits m.natAbs).length = 0 by omega]
        rfl
      rw [this]
      apply bytes_eq
      simp [strB]
    · rw [if_neg hz, hY, hout, if_neg hz, hS, ← hFs, ← hk]
      have e1 : F.extract k F.size = strB ((own m P).drop k) := by rw [ext_drop, hF, strB_list]
      have e2 : F.extract 0 k = strB ((own m P).take k) := by
        apply bytes_eq
        rw [strB_list, hF]
        simp [strB]
      rw [e1, e2]
      apply bytes_eq
      simp [strB])
  have HPS := hide (fun j => padS_size m j)
  have HPA := hide (fun j => padS_succ m j)
  have HEN := hide (fun j (h1 : P < L + j) (h2 : L + j ≤ max L (P + 1)) => (show padS m j = F by rw [hF, ← padS_own, ← hL, show P + 1 - L = j by omega]))
  rw [← hL] at HPS
  have hkI : IntKind.i64.wrap ((F.size : Int) - (P : Int)) = (k : Int) := by
    rw [IntWalk.i64_in _ (by omega)]
    omega
  have hkl : (k : Int) ≤ (F.size : Int) := by omega
  have hk0 : (0 : Int) ≤ (k : Int) := by omega
  have hkn : k ≤ F.size := by omega
  have hFl : F.size ≤ 300 := by omega
  have HKI := hide hkI
  have hneg : (m < 0 ∧ S = ⟨#[45]⟩) ∨ (¬ m < 0 ∧ S = ⟨#[]⟩ ∧ iB m = padS m 0) := by
    by_cases h : m < 0
    · exact .inl ⟨h, by rw [hS, decide_eq_true h]; rfl⟩
    · exact .inr ⟨h, by rw [hS, decide_eq_false h]; rfl, padS_zero (by omega)⟩
  have HDR := hide (fun h : m < 0 => (show (iB m).extract 1 (iB m).size = padS m 0 by rw [iB_neg_drop h, padS_neg h]))
  clear eP hM hT hs h0 h1 hq eT hqq eS n1 d1 fq sq hP sx hm hout hS hY hol hol2 hk hkP hkI hFs hF hL
  rcases hneg with ⟨hn, rfl⟩ | ⟨hn, rfl, h00⟩
  · rw [decide_eq_true hn] at h45
    have hd := HDR.out hn
    generalize iB m = M at *
    have hp1 : (0 : Int) < (M.size : Int) := by omega
    have hp2 : (1 : Int) ≤ (M.size : Int) := by omega
    have hp3 : 1 ≤ M.size := by omega
    clear hn HDR
    go_enter Tryz.func10, Tryz.ntmps10
    go_wp2_with fail
    refine (HC.out _ hB HT.out).mono ?_
    rintro e w1 ⟨rfl, hb1⟩
    have HB1 := hide hb1
    clear hb1
    go_wp2_with fail
    refine (HPW.out _).mono ?_
    rintro e w2 ⟨rfl, hb2⟩
    have HB2 := hide (HB1.out.trans (hb2.mono HB1.out.size))
    clear hb2
    go_wp2_with fail
    refine (HPR.out _ (Nat.le_trans hB HB2.out.size) (HT.out.on HB2.out hB)).mono ?_
    rintro e w3 ⟨rfl, hb3⟩
    have HB3 := hide (HB2.out.trans (hb3.mono HB2.out.size))
    clear hb3
    go_wp2_with fail
    refine (HNE.out _ (Nat.le_trans hB HB3.out.size) (HT.out.on HB3.out hB)).mono ?_
    rintro e w4 ⟨rfl, hb4⟩
    have HB4 := hide (HB3.out.trans (hb4.mono HB3.out.size))
    clear hb4
    go_wp2_with fail
    go_quiet (fail)
    clear hd h45 hp1 hp2 hp3
    go_wp2_with fail
    go_loopw [7] (fun s wr => ∃ j : Nat, L + j ≤ max L (P + 1) ∧ s = .string (padS m j) ∧ Hid (Below w.heap.size w wr)) (fun s _ => P + 1 - (strOf s).size)
    case atStart => exact ⟨0, by omega, rfl, (below_drewN HB4.out _)⟩
    case round =>
      obtain ⟨j, hj, rfl, hin⟩ := hrel
      have hsz := HPS.out j
      by_cases hlt : L + j ≤ P
      · have hki : (((padS m j).size : Nat) : Int) ≤ (P : Int) := by omega
        have v : (9223372036854775807 < 1 + (padS m j).size) = False := eq_false (by omega)
        have HA := hide (HPA.out j)
        have HZ := hide (And.intro hsz (HPS.out (j + 1)))
        go_wp2_with fail
        rw [HA.out]
        go_roundw
        case rel => exact ⟨j + 1, by omega, rfl, hin.out⟩
        case measure => simp [strOf, HZ.out.1, HZ.out.2]; omega
      · have hki : ((((padS m j).size : Nat) : Int) ≤ (P : Int)) = False := eq_false (by omega)
        have he := HEN.out j (by omega) hj
        rw [he] at hki hsz ⊢
        clear hlt he hsz hj
        by_cases hz : P = 0
        · have z : ((P : Int) == 0) = true := by rw [hz]; rfl
          have v : (9223372036854775807 < 1 + F.size) = False := eq_false (by omega)
          have HX2 := HX.out
          rw [if_pos hz] at HX2
          have HX3 := hide HX2
          clear HX2 hz
          go_wp2_with fail
          refine bodyPost_ret (results_tmp2 rfl _ _ _) rfl ?_
          rw [HX3.out]
          exact ⟨rfl, hin.out⟩
        · have z : ((P : Int) == 0) = false := by simpa using hz
          have HX2 := HX.out
          rw [if_neg hz] at HX2
          have HX3 := hide HX2
          clear HX2 hz
          have hkI := HKI.out
          go_wp2_with fail
          go_quiet (fail)
          go_wp2_with fail
          refine bodyPost_ret (results_tmp2 rfl _ _ _) rfl ?_
          rw [HX3.out]
          exact ⟨rfl, below_drewN hin.out _⟩
  · rw [decide_eq_false hn] at h45
    clear HDR
    generalize iB m = M at *
    subst h00
    have hp1 : (0 : Int) < ((padS m 0).size : Int) := by omega
    clear hn
    go_enter Tryz.func10, Tryz.ntmps10
    go_wp2_with fail
    refine (HC.out _ hB HT.out).mono ?_
    rintro e w1 ⟨rfl, hb1⟩
    have HB1 := hide hb1
    clear hb1
    go_wp2_with fail
    refine (HPW.out _).mono ?_
    rintro e w2 ⟨rfl, hb2⟩
    have HB2 := hide (HB1.out.trans (hb2.mono HB1.out.size))
    clear hb2
    go_wp2_with fail
    refine (HPR.out _ (Nat.le_trans hB HB2.out.size) (HT.out.on HB2.out hB)).mono ?_
    rintro e w3 ⟨rfl, hb3⟩
    have HB3 := hide (HB2.out.trans (hb3.mono HB2.out.size))
    clear hb3
    go_wp2_with fail
    refine (HNE.out _ (Nat.le_trans hB HB3.out.size) (HT.out.on HB3.out hB)).mono ?_
    rintro e w4 ⟨rfl, hb4⟩
    have HB4 := hide (HB3.out.trans (hb4.mono HB3.out.size))
    clear hb4
    go_wp2_with fail
    clear h45 hp1
    go_wp2_with fail
    go_loopw [7] (fun s wr => ∃ j : Nat, L + j ≤ max L (P + 1) ∧ s = .string (padS m j) ∧ Hid (Below w.heap.size w wr)) (fun s _ => P + 1 - (strOf s).size)
    case atStart => exact ⟨0, by omega, rfl, HB4.out⟩
    case round =>
      obtain ⟨j, hj, rfl, hin⟩ := hrel
      have hsz := HPS.out j
      by_cases hlt : L + j ≤ P
      · have hki : (((padS m j).size : Nat) : Int) ≤ (P : Int) := by omega
        have v : (9223372036854775807 < 1 + (padS m j).size) = False := eq_false (by omega)
        have HA := hide (HPA.out j)
        have HZ := hide (And.intro hsz (HPS.out (j + 1)))
        go_wp2_with fail
        rw [HA.out]
        go_roundw
        case rel => exact ⟨j + 1, by omega, rfl, hin.out⟩
        case measure => simp [strOf, HZ.out.1, HZ.out.2]; omega
      · have hki : ((((padS m j).size : Nat) : Int) ≤ (P : Int)) = False := eq_false (by omega)
        have he := HEN.out j (by omega) hj
        rw [he] at hki hsz ⊢
        clear hlt he hsz hj
        by_cases hz : P = 0
        · have z : ((P : Int) == 0) = true := by rw [hz]; rfl
          have v : (9223372036854775807 < 0 + F.size) = False := eq_false (by omega)
          have HX2 := HX.out
          rw [if_pos hz] at HX2
          have HX3 := hide HX2
          clear HX2 hz
          go_wp2_with fail
          refine bodyPost_ret (results_tmp2 rfl _ _ _) rfl ?_
          rw [HX3.out]
          exact ⟨rfl, hin.out⟩
        · have z : ((P : Int) == 0) = false := by simpa using hz
          have HX2 := HX.out
          rw [if_neg hz] at HX2
          have HX3 := hide HX2
          clear HX2 hz
          have hkI := HKI.out
          go_wp2_with fail
          go_quiet (fail)
          go_wp2_with fail
          refine bodyPost_ret (results_tmp2 rfl _ _ _) rfl ?_
          rw [HX3.out]
          exact ⟨rfl, below_drewN hin.out _⟩
end Go.Proofs.YtfcjaljaomknjaaGreatDoor
namespace Go.KI
open Go

def ledg (l : List UInt8) : List UInt8 := l.takeWhile isDg
def pdg (l : List UInt8) : List UInt8 := l.dropWhile isDg
theorem ledg_pdg (l : List UInt8) : ledg l ++ pdg l = l := List.takeWhile_append_dropWhile
theorem ledg_dg (l : List UInt8) : ∀ c ∈ ledg l, isDg c = true := by
  intro c hc
  unfold ledg at hc
  induction l with
  | nil => cases hc
  | cons x r ih =>
    by_cases h : isDg x = true
    · rw [List.takeWhile_cons, if_pos h] at hc
      rcases List.mem_cons.1 hc with e | e
      · rw [e]; exact h
      · exact ih e
    · rw [List.takeWhile_cons, if_neg h] at hc
      cases hc
theorem pdg_head {l t : List UInt8} {m : UInt8} (h : pdg l = m :: t) : isDg m = false := by
  unfold pdg at h
  induction l with
  | nil => cases h
  | cons x r ih =>
    by_cases hx : isDg x = true
    · rw [List.dropWhile_cons, if_pos hx] at h
      exact ih h
    · rw [List.dropWhile_cons, if_neg hx] at h
      injection h with h1 h2
      rw [← h1]
      simpa using hx
theorem ledg_all {a : List UInt8} (h : ∀ c ∈ a, isDg c = true) : ledg a = a ∧ pdg a = [] := by
  obtain ⟨h1, h2⟩ := tw_all (p := isDg) (a := a) (b := []) h
  rw [List.append_nil] at h1 h2
  unfold ledg pdg
  exact ⟨h1.trans (by simp), h2⟩
theorem ledg_eq {l : List UInt8} : ledg l = l ↔ ∀ c ∈ l, isDg c = true := ⟨fun h => by rw [← h]; exact ledg_dg l, fun h => (ledg_all h).1⟩
def rpE (d : List UInt8) : Int :=
  if ledg d = [] then 3 else match pdg d with
    | [] => 0
    | m :: t => if ledg t = [] ∨ ledg t ≠ t ∨ (m ≠ 46 ∧ m ≠ 47) then 3 else if m = 47 ∧ dv t = 0 then 12 else 0
def rpV (d : List UInt8) : Rat := match pdg d with
    | [] => ((dv (ledg d) : Nat) : Rat)
    | m :: t => if m = 47 then ((dv (ledg d) : Nat) : Rat) / ((dv t : Nat) : Rat) else ((dv (ledg d) : Nat) : Rat) + ((dv t : Nat) : Rat) / ((10 ^ t.length : Nat) : Rat)
theorem not_all {l : List UInt8} {m : UInt8} (hm : isDg m = false) (h : m ∈ l) : ¬ allDg l := fun g => by
  have := g.2 m h
  rw [hm] at this
  cases this
theorem all_ledg {t : List UInt8} : allDg t ↔ ¬ (ledg t = [] ∨ ledg t ≠ t) := by
  constructor
  · rintro ⟨h1, h2⟩ (h | h)
    · rw [(ledg_all h2).1] at h
      exact h1 h
    · exact h (ledg_all h2).1
  · intro h
    have h1 : ledg t ≠ [] := fun e => h (.inl e)
    have h2 : ledg t = t := Decidable.byContradiction fun e => h (.inr e)
    exact ⟨fun e => h1 (by rw [h2]; exact e), ledg_eq.1 h2⟩
theorem dv_join (a t : List UInt8) : ((dv (a ++ t) : Nat) : Rat) / ((10 ^ t.length : Nat) : Rat) = ((dv a : Nat) : Rat) + ((dv t : Nat) : Rat) / ((10 ^ t.length : Nat) : Rat) := by
  have hp : ((10 ^ t.length : Nat) : Rat) ≠ 0 := by
    rw [Ne, Rat.natCast_eq_zero_iff]
    exact Nat.ne_of_gt (Nat.pow_pos (by decide))
  rw [dv_append, Rat.natCast_add, Rat.natCast_mul, Rat.div_def, Rat.div_def]
  have := Rat.mul_inv_cancel _ hp
  grind
theorem parse_ledg (l : List UInt8) : parseE l = (if 90 < l.length then 4 else rpE (digs l)) ∧ (parseE l = 0 → parseV l = sgn (isNeg l) (rpV (digs l))) := by
  obtain ⟨d, hd⟩ : ∃ d, d = digs l := ⟨_, rfl⟩
  obtain ⟨n, hn⟩ : ∃ n, n = isNeg l := ⟨_, rfl⟩
  unfold parseE parseV
  rw [← hd, ← hn]
  by_cases h90 : 90 < l.length
  · rw [if_pos h90, if_pos h90]
    exact ⟨rfl, fun h => by cases h⟩
  rw [if_neg h90, if_neg h90]
  have hlp := ledg_pdg d
  have hla := ledg_dg d
  have i46 : isDg 46 = false := by decide
  have i47 : isDg 47 = false := by decide
  have no : ∀ c, isDg c = false → c ∉ ledg d := fun c hc hm => by
    have := hla c hm
    rw [hc] at this
    cases this
  unfold rpE rpV
  cases hp : pdg d with
  | nil =>
    rw [hp, List.append_nil] at hlp
    have n46 : 46 ∉ d := fun h => no 46 i46 (by rw [hlp]; exact h)
    have n47 : 47 ∉ d := fun h => no 47 i47 (by rw [hlp]; exact h)
    rw [if_neg n46, if_neg n46, cut_not n47, if_neg n47]
    simp only [n47, false_and, or_false, if_false]
    rw [hlp]
    have hall : allDg d ↔ ¬ d = [] := ⟨fun h => h.1, fun h => ⟨h, fun c hc => hla c (by rw [hlp]; exact hc)⟩⟩
    by_cases h0 : d = []
    · rw [if_pos h0, if_pos (fun h => hall.1 h h0)]
      exact ⟨rfl, fun h => by cases h⟩
    · rw [if_neg h0, if_neg (fun h => h (hall.2 h0))]
      refine ⟨rfl, fun _ => ?_⟩
      congr 1
      rw [Rat.div_def]
      show _ * (1 : Rat)⁻¹ = _
      grind
  | cons m t =>
    have hm := pdg_head hp
    rw [hp] at hlp
    obtain ⟨a, ha⟩ : ∃ a, a = ledg d := ⟨_, rfl⟩
    rw [← ha] at hlp hla no ⊢
    have hne : ∀ x ∈ a, x ≠ m := fun x hx e => by
      rw [e] at hx
      exact no m hm hx
    have hal : allDg a ↔ ¬ a = [] := ⟨fun h => h.1, fun h => ⟨h, hla⟩⟩
    by_cases h46 : m = 46
    · subst h46
      obtain ⟨c1, c2, c3⟩ := cut_at (b := t) hne
      rw [hlp] at c1 c2 c3
      rw [if_pos c3, if_pos c3, c1, c2]
      have k47 : ¬ ((46 : UInt8) = 47) := by decide
      show (if allDg a ∧ allDg t then (0 : Int) else 3) = (if a = [] then 3 else if ledg t = [] ∨ ledg t ≠ t ∨ ((46 : UInt8) ≠ 46 ∧ (46 : UInt8) ≠ 47) then 3 else if (46 : UInt8) = 47 ∧ dv t = 0 then 12 else 0) ∧ _
      refine ⟨?_, fun _ => ?_⟩
      case refine_2 =>
        show _ = sgn n (if (46 : UInt8) = 47 then _ else _)
        rw [if_neg k47, dv_join]
      by_cases h0 : a = []
      · rw [if_pos h0, if_neg (fun h => hal.1 h.1 h0)]
      · rw [if_neg h0]
        by_cases ht : allDg t
        · have := all_ledg.1 ht
          rw [if_pos ⟨hal.2 h0, ht⟩, if_neg (by
            rintro (h | h | h)
            · exact this (.inl h)
            · exact this (.inr h)
            · exact h.1 rfl), if_neg (fun h => k47 h.1)]
        · have : ledg t = [] ∨ ledg t ≠ t := Decidable.byContradiction fun e => ht (all_ledg.2 e)
          rw [if_neg (fun h => ht h.2), if_pos (by
            rcases this with h | h
            · exact .inl h
            · exact .inr (.inl h))]
    · by_cases h47 : m = 47
      · subst h47
        obtain ⟨c1, c2, c3⟩ := cut_at (b := t) hne
        rw [hlp] at c1 c2 c3
        show _ = (if a = [] then (3 : Int) else if ledg t = [] ∨ ledg t ≠ t ∨ ((47 : UInt8) ≠ 46 ∧ (47 : UInt8) ≠ 47) then 3 else if (47 : UInt8) = 47 ∧ dv t = 0 then 12 else 0) ∧ _
        by_cases hdot : 46 ∈ t
        · have hin : 46 ∈ d := by rw [← hlp]; simp [hdot]
          have hs : ledg t ≠ t := fun e => by
            have := ledg_eq.1 e 46 hdot
            cases this
          have hbad : ¬ allDg (ahead 46 d) := by
            refine not_all (m := 47) i47 ?_
            have h2 : ahead 46 d = a ++ ahead 46 (47 :: t) := by
              rw [← hlp]
              unfold ahead
              exact (tw_all (fun x hx => by
                have : x ≠ 46 := fun e => no 46 i46 (e ▸ hx)
                simpa using this)).1
            rw [h2]
            unfold ahead
            simp
          rw [if_pos hin, if_pos hin, if_neg (fun h => hbad h.1)]
          refine ⟨?_, fun h => by cases h⟩
          by_cases h0 : a = []
          · rw [if_pos h0]
          · rw [if_neg h0, if_pos (.inr (.inl hs))]
        · have n46 : 46 ∉ d := fun h => by
            rw [← hlp] at h
            rcases List.mem_append.1 h with h | h
            · exact no 46 i46 h
            · rcases List.mem_cons.1 h with h | h
              · cases h
              · exact hdot h
          rw [if_neg n46, if_neg n46, c1, c2]
          simp only [c3, true_and, if_true]
          refine ⟨?_, fun _ => trivial⟩
          by_cases h0 : a = []
          · rw [if_pos h0, if_pos (.inl fun h => hal.1 h h0)]
          · rw [if_neg h0]
            by_cases ht : allDg t
            · have := all_ledg.1 ht
              rw [if_neg (by
                rintro (h | h)
                · exact h (hal.2 h0)
                · exact h ht), if_neg (c := ledg t = [] ∨ ledg t ≠ t ∨ ((47 : UInt8) ≠ 46 ∧ (47 : UInt8) ≠ 47)) (by
                rintro (h | h | h)
                · exact this (.inl h)
                · exact this (.inr h)
                · exact h.2 rfl)]
            · have : ledg t = [] ∨ ledg t ≠ t := Decidable.byContradiction fun e => ht (all_ledg.2 e)
              rw [if_pos (.inr ht), if_pos (by
                rcases this with h | h
                · exact .inl h
                · exact .inr (.inl h))]
      · -- another mark
        have hr : (if a = [] then (3 : Int) else if ledg t = [] ∨ ledg t ≠ t ∨ (m ≠ 46 ∧ m ≠ 47) then 3 else if m = 47 ∧ dv t = 0 then 12 else 0) = 3 := by
          by_cases h0 : a = []
          · rw [if_pos h0]
          · rw [if_neg h0, if_pos (.inr (.inr ⟨h46, h47⟩))]
        show _ = (if a = [] then (3 : Int) else if ledg t = [] ∨ ledg t ≠ t ∨ (m ≠ 46 ∧ m ≠ 47) then 3 else if m = 47 ∧ dv t = 0 then 12 else 0) ∧ _
        rw [hr]
        have key : ∀ c, isDg c = false → c ≠ m → ¬ allDg (ahead c d) := fun c hc hcm => by
          refine not_all hm ?_
          have h2 : ahead c d = a ++ ahead c (m :: t) := by
            rw [← hlp]
            unfold ahead
            exact (tw_all (fun x hx => by
              have : x ≠ c := fun e => no c hc (e ▸ hx)
              simpa using this)).1
          rw [h2]
          unfold ahead
          have : (m != c) = true := by simpa using (Ne.symm hcm)
          simp [this]
        have k46 := key 46 i46 (Ne.symm h46)
        have k47 := key 47 i47 (Ne.symm h47)
        by_cases hin : 46 ∈ d
        · rw [if_pos hin, if_pos hin, if_neg (fun h => k46 h.1)]
          exact ⟨rfl, fun h => by cases h⟩
        · rw [if_neg hin, if_neg hin, if_pos (.inl k47)]
          exact ⟨rfl, fun h => by cases h⟩
end Go.KI
namespace Go.Proofs.YtfcjaljaomknjaaGreatDoor
open Go.RowKit Go.KP Go.KI Go.Shelf
attribute [local go_sem] Oper.semAt_some

theorem m7digits_any (s : ByteArray) (hs : s.size ≤ 1000000) (w : World) :
    Calls Tryz.prog 50 #[.string s] w (Ret w (.int .i64 ((lead s.data.toList).length : Nat))) := by
  obtain ⟨L, hL⟩ : ∃ L, L = (lead s.data.toList).length := ⟨_, rfl⟩
  have hLs : L ≤ s.size := by rw [hL, ← bytes_len]; exact lead_le _
  rw [← hL]
  have HLE := hide hL
  clear hL
  go_enter Tryz.func50, Tryz.ntmps50
  go_wp2_with fail
  go_loopw [3] (fun i wr => ∃ k : Nat, k ≤ L ∧ i = .int .i64 k ∧ wr = w) (fun i _ => s.size - (intOf i).toNat)
  case atStart => exact ⟨0, by omega, rfl, by first | rfl | trivial⟩
  case round =>
    obtain ⟨k, hkL, rfl, rfl⟩ := hrel
    by_cases hkl : k < L
    · have hlt : k < s.size := by omega
      have hki : (k : Int) < (s.size : Int) := by omega
      have hk0 : (0 : Int) ≤ (k : Int) := by omega
      obtain ⟨c, hc, hcd⟩ := lead_at (l := s.data.toList) (k := k) (by rw [← HLE.out]; exact hkl)
      have hat : s.data.toList[k]? = some (s[k]'hlt) := by
        have h1 : s.data.toList[k]? = some s.data[k] := by simp
        exact h1
      obtain ⟨y, hyv⟩ : ∃ y : Nat, y = (s[k]'hlt).toNat := ⟨_, rfl⟩
      have hyv2 : (s[k]'hlt).toNat = y := hyv.symm
      have hdg : 48 ≤ y ∧ y ≤ 57 := by
        rw [hat] at hc
        injection hc with hc
        rw [hyv, hc]
        exact isDg_iff.1 hcd
      have v0 : (48 : Int) ≤ (y : Int) := by omega
      have v1 : (y : Int) ≤ 57 := by omega
      clear hat hyv hdg hc hcd
      go_wp2_with fail
      go_roundw
      case rel => exact ⟨k + 1, by omega, by go_num, by first | rfl | trivial⟩
      case measure => simp [intOf]; omega
    · obtain rfl : k = L := by omega
      have hk0 : (0 : Int) ≤ (k : Int) := by omega
      by_cases hfin : k < s.size
      · have hki : (k : Int) < (s.size : Int) := by omega
        obtain ⟨c, hc⟩ : ∃ c, s[k]'hfin = c := ⟨_, rfl⟩
        have hat : s.data.toList[k]? = some c := by
          have h3 : s.data.toList[k]? = some s.data[k] := by simp
          rw [h3]
          exact congrArg some hc
        have hat2 : s.data.toList[(lead s.data.toList).length]? = some c := by rw [← HLE.out]; exact hat
        have h4 := lead_end hat2
        have h5 : ¬ (48 ≤ c.toNat ∧ c.toNat ≤ 57) := fun h => by
          have h6 := isDg_iff.2 h
          rw [h4] at h6
          cases h6
        obtain ⟨y, hyv⟩ : ∃ y : Nat, y = c.toNat := ⟨_, rfl⟩
        have hyv2 : (s[k]'hfin).toNat = y := by rw [hc, hyv]
        rw [← hyv] at h5
        clear hyv hc hat hat2 h4
        rcases (show y < 48 ∨ (48 ≤ y ∧ 57 < y) by omega) with v0 | ⟨v0, v1⟩
        · have v0i : ((48 : Int) ≤ (y : Int)) = False := eq_false (by omega)
          clear v0
          go_wp2_with fail
          go_ret
          exact ⟨rfl, Below.refl _ _⟩
        · have v0i : (48 : Int) ≤ (y : Int) := by omega
          have v1i : ((y : Int) ≤ 57) = False := eq_false (by omega)
          clear v0 v1
          go_wp2_with fail
          go_ret
          exact ⟨rfl, Below.refl _ _⟩
      · have hki : ((k : Int) < (s.size : Int)) = False := eq_false (by omega)
        clear hfin
        go_wp2_with fail
        go_ret
        exact ⟨rfl, Below.refl _ _⟩
open Go.RowKit Go.KP Go.KI Go.Shelf
attribute [local go_sem] Oper.semAt_some

theorem head_byte {l : List UInt8} {c : UInt8} {r : List UInt8} (h : l = c :: r) : ∃ hp : 0 < (strB l).size, ((((strB l)[0]'hp).toNat : Nat) : Int) = (c.toNat : Int) := by
  have hp : 0 < (strB l).size := by rw [strB_size, h]; simp
  refine ⟨hp, ?_⟩
  have h3 : (strB l).data.toList[0]? = some ((strB l)[0]'hp) := by
    have h1 : (strB l).data.toList[0]? = some (strB l).data[0] := by simp
    exact h1
  have h4 : (strB l).data.toList[0]? = some c := by rw [strB_list, h]; rfl
  have h5 := Option.some.inj (h3.symm.trans h4)
  rw [h5]
theorem strB_tail (c : UInt8) (r : List UInt8) : (strB (c :: r)).extract 1 (strB (c :: r)).size = strB r := by
  rw [ext_drop, strB_list]
  rfl
theorem m7whole_any (l : List UInt8) (hl : l ≠ []) (hd : ∀ c ∈ l, isDg c = true) (w : World) :
    Calls Tryz.prog 51 #[.string (strB l)] w (Ret w (.string (iB ((dv l : Nat) : Int)))) := by
  obtain ⟨R, hR⟩ : ∃ R, R = iB ((dv l : Nat) : Int) := ⟨_, rfl⟩
  rw [← hR]
  have HR := hide hR
  have H0 := hide (And.intro hl hd)
  clear hl hd hR
  go_enter Tryz.func51, Tryz.ntmps51
  go_wp2_with fail
  go_loopw [0] (fun s wr => ∃ m : List UInt8, m.length ≤ l.length ∧ s = .string (strB m) ∧ Hid (m ≠ [] ∧ (∀ c ∈ m, isDg c = true) ∧ dv m = dv l ∧ wr = w)) (fun s _ => (strOf s).size)
  case atStart => exact ⟨l, Nat.le_refl _, rfl, H0.out.1, H0.out.2, rfl, rfl⟩
  case round =>
    obtain ⟨m, hml, rfl, hin⟩ := hrel
    obtain ⟨m1, m2, m3, hw⟩ := hin.out
    subst hw
    clear hin
    cases m with
    | nil => exact absurd rfl m1
    | cons c r =>
      have hsz : (strB (c :: r)).size = r.length + 1 := by rw [strB_size, List.length_cons]
      by_cases h1 : r = []
      · subst h1
        have g1 : ((1 : Int) < ((strB [c]).size : Int)) = False := eq_false (by rw [hsz]; simp)
        have HF := hide (show strB [c] = R by
          rw [HR.out, ← m3]
          apply bytes_eq
          rw [strB_list, iB_list, Lib.itoa_nonneg]
          exact dec_of (by simp) m2 (by simp))
        clear m1 m2 m3 hsz hml
        go_wp2_with fail
        go_ret
        rw [HF.out]
        exact ⟨rfl, Below.refl _ _⟩
      · have hr : 1 ≤ r.length := by
          rcases r with _ | ⟨a, b⟩
          · exact absurd rfl h1
          · simp
        have g1 : (1 : Int) < ((strB (c :: r)).size : Int) := by omega
        obtain ⟨hp, hb⟩ := head_byte (l := c :: r) rfl
        have hp1 : (0 : Int) < ((strB (c :: r)).size : Int) := by omega
        by_cases h48 : c = 48
        · have g2 : (((((strB (c :: r))[0]'hp).toNat : Nat) : Int) == 48) = true := by rw [hb, h48]; rfl
          have hT := strB_tail c r
          have hT2 : (strB (c :: r)).extract 1 (r.length + 1) = strB r := by rw [← hsz]; exact hT
          have HS := hide (show (strB r).size < (strB (c :: r)).size by rw [hsz, strB_size]; omega)
          have HN := hide (show r ≠ [] ∧ (∀ c ∈ r, isDg c = true) ∧ dv r = dv l from ⟨h1, fun x hx => m2 x (by simp [hx]), by
            rw [← m3, h48]
            exact (dv_zeros_front 1 r).symm⟩)
          have hle : r.length ≤ l.length := by simp only [List.length_cons] at hml; omega
          have g3 : (1 : Int) ≤ ((strB (c :: r)).size : Int) := by omega
          have g4 : 1 ≤ (strB (c :: r)).size := by omega
          clear h1 hr m1 m2 m3 hml h48 hb
          generalize strB (c :: r) = X at *
          go_wp2_with fail
          go_roundw
          case rel => exact ⟨r, hle, by first | rfl | rw [hT2], HN.out.1, HN.out.2.1, HN.out.2.2, by first | rfl | trivial⟩
          case measure =>
            have := HS.out
            first
              | exact this
              | (simp [strOf]; omega)
              | (simp [strOf]; rw [strB_size] at this; omega)
              | (simp [strOf]; rw [hT]; omega)
        · have hne : c.toNat ≠ 48 := fun e => h48 (UInt8.toNat_inj.1 e)
          have g2 : (((((strB (c :: r))[0]'hp).toNat : Nat) : Int) == 48) = false := by
            rw [hb]
            simp only [beq_eq_false_iff_ne, ne_eq]
            omega
          have HF := hide (show strB (c :: r) = R by
            rw [HR.out, ← m3]
            apply bytes_eq
            rw [strB_list, iB_list, Lib.itoa_nonneg]
            exact (strip_dec (L := c :: r) (o := 0) m2 (by simp) rfl h48))
          clear h1 hr m1 m2 m3 hml h48 hb hne
          generalize strB (c :: r) = X at *
          go_wp2_with fail
          go_ret
          exact ⟨by rw [← HF.out]; rfl, Below.refl _ _⟩
end Go.Proofs.YtfcjaljaomknjaaGreatDoor
namespace Go.Proofs
open Go.Shelf
def Tryz.lays161_ren : Go.Shelf.Ren := ⟨fun | 161 => 97 | 231 => 70 | 227 => 72 | 233 => 73 | 235 => 75 | 228 => 118 | 197 => 119 | 151 => 120 | 260 => 173 | 152 => 174 | 137 => 212 | 119 => 213 | 224 => 169 | 225 => 168 | 217 => 167 | 266 => 210 | n => n, fun | 9 => 9 | 4 => 4 | 3 => 3 | 5 => 5 | 117 => 90 | 116 => 89 | 0 => 0 | 124 => 93 | 105 => 124 | 21 => 21 | 119 => 208 | 46 => 99 | 139 => 211 | 138 => 210 | n => n, fun | 3 => 2 | 4 => 3 | n => n⟩
theorem Tryz.lays161 : Go.Proofs.Lays.n161 Tryz.prog Tryz.lays161_ren := {
  mixed := by kernel_rfl
  f119 := Tryz.func213.trans (congrArg some (by kernel_rfl))
  f137 := Tryz.func212.trans (congrArg some (by kernel_rfl))
  f151 := Tryz.func120.trans (congrArg some (by kernel_rfl))
  f152 := Tryz.func174.trans (congrArg some (by kernel_rfl))
  f161 := Tryz.func97.trans (congrArg some (by kernel_rfl))
  f197 := Tryz.func119.trans (congrArg some (by kernel_rfl))
  f217 := Tryz.func167.trans (congrArg some (by kernel_rfl))
  f224 := Tryz.func169.trans (congrArg some (by kernel_rfl))
  f225 := Tryz.func168.trans (congrArg some (by kernel_rfl))
  f227 := Tryz.func72.trans (congrArg some (by kernel_rfl))
  f228 := Tryz.func118.trans (congrArg some (by kernel_rfl))
  f231 := Tryz.func70.trans (congrArg some (by kernel_rfl))
  f233 := Tryz.func73.trans (congrArg some (by kernel_rfl))
  f235 := Tryz.func75.trans (congrArg some (by kernel_rfl))
  f260 := Tryz.func173.trans (congrArg some (by kernel_rfl))
  f266 := Tryz.func210.trans (congrArg some (by kernel_rfl))
  t0 := Tryz.underlying0
  a0 := Tryz.isAgg0
  z0 := Tryz.sizeOf0
  v0 := Tryz.zeroValue0
  t3 := Tryz.underlying3
  a3 := Tryz.isAgg3
  z3 := Tryz.sizeOf3
  v3 := Tryz.zeroValue3
  t4 := Tryz.underlying4
  a4 := Tryz.isAgg4
  z4 := Tryz.sizeOf4
  v4 := Tryz.zeroValue4
  t5 := Tryz.underlying5
  a5 := Tryz.isAgg5
  z5 := Tryz.sizeOf5
  v5 := Tryz.zeroValue5
  t9 := Tryz.underlying9
  a9 := Tryz.isAgg9
  z9 := Tryz.sizeOf9
  v9 := Tryz.zeroValue9
  t21 := Tryz.underlying21
  a21 := Tryz.isAgg21
  z21 := Tryz.sizeOf21
  v21 := Tryz.zeroValue21
  t46 := Tryz.underlying99
  a46 := Tryz.isAgg99
  z46 := Tryz.sizeOf99
  v46 := Tryz.zeroValue99
  t105 := Tryz.underlying124
  a105 := Tryz.isAgg124
  z105 := Tryz.sizeOf124
  v105 := Tryz.zeroValue124
  t116 := Tryz.underlying89
  a116 := Tryz.isAgg89
  z116 := Tryz.sizeOf89
  t117 := Tryz.underlying90
  a117 := Tryz.isAgg90
  z117 := Tryz.sizeOf90
  v117 := Tryz.zeroValue90
  t119 := Tryz.underlying208
  a119 := Tryz.isAgg208
  z119 := Tryz.sizeOf208
  t124 := Tryz.underlying93
  a124 := Tryz.isAgg93
  z124 := Tryz.sizeOf93
  v124 := Tryz.zeroValue93
  t138 := Tryz.underlying210
  a138 := Tryz.isAgg210
  z138 := Tryz.sizeOf210
  v138 := Tryz.zeroValue210
  t139 := Tryz.underlying211
  a139 := Tryz.isAgg211
  z139 := Tryz.sizeOf211
  v139 := Tryz.zeroValue211
  g3 := by kernel_rfl
  g4 := by kernel_rfl }
open Go.RowKit in
theorem Tryz.strings_TrimLeft_one (s : ByteArray) (c : UInt8) (hc : c.toNat < 128) (w : World) :
    Calls Tryz.prog 97 #[.string s, .string ⟨#[c]⟩] w fun e w' => e = .returned (.string ⟨(Lib.trimLeftB s.data.toList c).toArray⟩) ∧ w' = w := Any.strings_TrimLeft_one Tryz.lays161 s c hc w
end Go.Proofs
