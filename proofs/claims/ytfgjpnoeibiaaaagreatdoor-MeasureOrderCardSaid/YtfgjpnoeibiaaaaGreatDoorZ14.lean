/-
  Texts of the integers, laid together: Tv, Tw, Tz, Ua, Ub, Uc.
-/
import Derived.Test.YtfgjpnoeibiaaaaGreatDoorZ13
namespace Go.Proofs.YtfgjpnoeibiaaaaGreatDoor
open Go.RowKit Go.KP Go.KI Go.Shelf
attribute [local go_sem] Oper.semAt_some

/-- The units that are printed. -/
def unitsP (q : Rat) (p : Nat) : Int := near2 (q.num * ((10 ^ p : Nat) : Int)) (q.den : Int)
theorem chkM_ok {l : List UInt8} (h : chkM l = 0) : chkQ l = 0 ∧ (valQ l).num.natAbs < 10 ^ 90 ∧ (valQ l).den < 10 ^ 90 := by
  unfold chkM at h
  by_cases h1 : chkQ l = 0
  · rw [if_neg (by simp [h1])] at h
    by_cases h2 : 90 < max (Lib.decDigits (valQ l).num.natAbs).length (Lib.decDigits (valQ l).den).length
    · rw [if_pos h2] at h
      cases h
    · exact ⟨h1, (dec_len_le (by omega)).1 (by omega), (dec_len_le (by omega)).1 (by omega)⟩
  · rw [if_pos h1] at h
    exact absurd h h1
theorem chkP_ok {l : List UInt8} {p : Int} (h : chkP l p = 0) : chkM l = 0 ∧ 0 ≤ p ∧ p ≤ 100 := by
  unfold chkP at h
  by_cases h1 : chkM l = 0
  · rw [if_neg (by simp [h1])] at h
    by_cases h2 : p < 0 ∨ 100 < p
    · rw [if_pos h2] at h
      cases h
    · exact ⟨h1, by omega, by omega⟩
  · rw [if_pos h1] at h
    exact absurd h h1
theorem pow_le_i {p q : Nat} (h : p ≤ q) : (10 : Nat) ^ p ≤ 10 ^ q := Nat.pow_le_pow_right (by omega) h
theorem fits_le_pow {z : Int} {k : Nat} (hk : k ≤ 300) (h : z.natAbs < 10 ^ k) : fits z := fits_small (by rw [most_eq]; exact hk) h
/-- The sizes of what is printed. -/
theorem print_fits {n : Int} {d p : Nat} (hn : n.natAbs < 10 ^ 90) (hd : d < 10 ^ 90) (hp : p ≤ 100) :
    fits n ∧ fits (d : Int) ∧ fits ((10 ^ p : Nat) : Int) ∧ fits (n * ((10 ^ p : Nat) : Int)) ∧ fits (n * ((10 ^ p : Nat) : Int) * 2) ∧ fits (n * ((10 ^ p : Nat) : Int) * 2 + (d : Int)) ∧ fits ((d : Int) * 2) := by
  have hpp := pow_le_i hp
  have h1 : (n * ((10 ^ p : Nat) : Int)).natAbs < 10 ^ (90 + 101) := by
    rw [Int.natAbs_mul, Int.natAbs_natCast]
    exact mul_pow_lt hn (Nat.lt_of_le_of_lt hpp (Nat.pow_lt_pow_right (by omega) (by omega)))
  have h2 : (n * ((10 ^ p : Nat) : Int) * 2).natAbs < 10 ^ 192 := by
    have := add_pow_lt h1 h1
    rw [Int.natAbs_mul, show (2 : Int).natAbs = 2 from rfl]
    omega
  have h3 : d < 10 ^ 192 := Nat.lt_of_lt_of_le hd (pow_le_i (by omega))
  have h4 := add_pow_lt h2 h3
  have h5 := add_pow_lt hd hd
  refine ⟨fits_le_pow (k := 90) (by omega) hn, fits_le_pow (k := 90) (by omega) (by rw [Int.natAbs_natCast]; exact hd), fits_le_pow (k := 101) (by omega) (by rw [Int.natAbs_natCast]; exact Nat.lt_of_le_of_lt hpp (Nat.pow_lt_pow_right (by omega) (by omega))), fits_le_pow (k := 90 + 101) (by omega) h1, fits_le_pow (k := 192) (by omega) h2, fits_le_pow (k := 193) (by omega) (by omega), fits_le_pow (k := 91) (by omega) (by omega)⟩
set_option maxRecDepth 100000 in
set_option maxHeartbeats 2000000 in
theorem mExact_any (s : ByteArray) (hs : s.size ≤ 1000000) (p : Int) (B : Nat) (w : World) (hB : B ≤ w.heap.size) (hT : PQ B w) :
    Calls Tryz.prog 39 #[.string s, .int .i64 p] w (Ret w (.tuple #[.bool (decide (chkP s.data.toList p = 0 ∧ ((valQ s.data.toList).num * ((10 ^ p.toNat : Nat) : Int)).fmod ((valQ s.data.toList).den : Int) = 0)), .int .i64 (chkP s.data.toList p)])) := by
  have HT := hide hT
  have HC := hide (mcheck_any s hs p B w hB hT)
  by_cases hc : chkP s.data.toList p = 0
  · obtain ⟨hM, p0, p1⟩ := chkP_ok hc
    obtain ⟨_, n1, d1⟩ := chkM_ok hM
    obtain ⟨P, hP⟩ : ∃ P : Nat, (P : Int) = p := ⟨p.toNat, by omega⟩
    rw [show checkM s.data.toList p = tripV (Lib.itoa (valQ s.data.toList).num) (Lib.itoa ((valQ s.data.toList).den : Int)) 0 from if_pos hc] at HC
    subst hP
    have dp := (valQ s.data.toList).den_pos
    obtain ⟨f1, f2, f3, f4, f5, f6, f7⟩ := print_fits n1 d1 (show P ≤ 100 by omega)
    rw [hc, Int.toNat_natCast]
    have HPW := hide (fun w => mpower_to P (by omega) w)
    have HMU := hide (fun w hB hT => mmul_to (s := strB (Lib.itoa (valQ s.data.toList).num)) (t := strB (powT P)) (strB_list _) (strB_list _) f1 f3 f4 B w hB hT)
    have HDI := hide (fun w hB hT => mdivide_to (s := strB (Lib.itoa ((valQ s.data.toList).num * ((10 ^ P : Nat) : Int)))) (t := strB (Lib.itoa ((valQ s.data.toList).den : Int))) (strB_list _) (strB_list _) f4 f2 (by omega) B w hB hT)
    obtain ⟨r, hr⟩ : ∃ r, r = ((valQ s.data.toList).num * ((10 ^ P : Nat) : Int)).fmod ((valQ s.data.toList).den : Int) := ⟨_, rfl⟩
    rw [← hr] at HDI ⊢
    obtain ⟨R, hR⟩ : ∃ X, X = strB (Lib.itoa r) := ⟨_, rfl⟩
    obtain ⟨t1, t2⟩ := lit_eq (s := R) (l := Lib.itoa r) (m := [48]) (by rw [hR, strB_list])
    have hway : ((R.toList == [48]) = true ∧ decide ((0 : Int) = 0 ∧ r = 0) = true) ∨ ((R.toList == [48]) = false ∧ decide ((0 : Int) = 0 ∧ r = 0) = false) := by
      by_cases h : r = 0
      · exact .inl ⟨t1 (by rw [h, itoa_zero]), by rw [h]; rfl⟩
      · exact .inr ⟨t2 (itoa_nz h), by simpa using h⟩
    obtain ⟨N, hN⟩ : ∃ X, X = strB (Lib.itoa (valQ s.data.toList).num) := ⟨_, rfl⟩
    obtain ⟨D, hD⟩ : ∃ X, X = strB (Lib.itoa ((valQ s.data.toList).den : Int)) := ⟨_, rfl⟩
    obtain ⟨W, hW⟩ : ∃ X, X = strB (powT P) := ⟨_, rfl⟩
    obtain ⟨M, hM2⟩ : ∃ X, X = strB (Lib.itoa ((valQ s.data.toList).num * ((10 ^ P : Nat) : Int))) := ⟨_, rfl⟩
    obtain ⟨Q, hQ⟩ : ∃ X, X = strB (Lib.itoa (((valQ s.data.toList).num * ((10 ^ P : Nat) : Int)).fdiv ((valQ s.data.toList).den : Int))) := ⟨_, rfl⟩
    have HC : Hid (Calls Tryz.prog 104 #[.string s, .int .i64 P] w (Ret w (.tuple #[.string N, .string D, .int .i64 0]))) := hide (by rw [hN, hD]; exact HC.out)
    rw [← hW] at HPW
    rw [← hN, ← hW, ← hM2] at HMU
    rw [← hD, ← hM2, ← hQ, ← hR] at HDI
    clear hc hM p0 p1 n1 d1 dp f1 f2 f3 f4 f5 f6 f7 hr hR t1 t2 hN hD hW hM2 hQ hT
    rcases hway with ⟨h1, h2⟩ | ⟨h1, h2⟩
    all_goals
      rw [h2]
      clear h2
      go_enter Tryz.func39, Tryz.ntmps39
      go_wp2_with fail
      refine HC.out.mono ?_
      rintro e w1 ⟨rfl, hb1⟩
      have HB1 := hide hb1
      clear hb1
      go_wp2_with fail
      refine (HPW.out _).mono ?_
      rintro e w2 ⟨rfl, hb2⟩
      have HB2 := hide (HB1.out.trans (hb2.mono HB1.out.size))
      clear hb2
      go_wp2_with fail
      refine (HMU.out _ (Nat.le_trans hB HB2.out.size) (HT.out.p10.on HB2.out hB)).mono ?_
      rintro e w3 ⟨rfl, hb3⟩
      have HB3 := hide (HB2.out.trans (hb3.mono HB2.out.size))
      clear hb3
      go_wp2_with fail
      refine (HDI.out _ (Nat.le_trans hB HB3.out.size) (HT.out.p10.on HB3.out hB)).mono ?_
      rintro e w4 ⟨rfl, hb4⟩
      have HB4 := hide (HB3.out.trans (hb4.mono HB3.out.size))
      clear hb4
      go_wp2_with fail
      refine bodyPost_ret (results_tmp2 rfl _ _ _) rfl ?_
      exact ⟨rfl, HB4.out⟩
  · rw [show checkM s.data.toList p = tripV [] [] (chkP s.data.toList p) from if_neg hc, tripV_err] at HC
    have hd : decide (chkP s.data.toList p = 0 ∧ ((valQ s.data.toList).num * ((10 ^ p.toNat : Nat) : Int)).fmod ((valQ s.data.toList).den : Int) = 0) = false := by simp [hc]
    rw [hd]
    have hne : (chkP s.data.toList p != 0) = true := by simpa using hc
    obtain ⟨E, hE⟩ : ∃ E, E = chkP s.data.toList p := ⟨_, rfl⟩
    rw [← hE] at HC hne ⊢
    clear hE hc hd hT
    go_enter Tryz.func39, Tryz.ntmps39
    go_wp2_with fail
    refine HC.out.mono ?_
    rintro e w1 ⟨rfl, hb1⟩
    have HB1 := hide hb1
    clear hb1
    go_wp2_with fail
    refine bodyPost_ret (results_tmp2 rfl _ _ _) rfl ?_
    exact ⟨rfl, HB1.out⟩
end Go.Proofs.YtfgjpnoeibiaaaaGreatDoor
namespace Go.Proofs.YtfgjpnoeibiaaaaGreatDoor
open Go.RowKit Go.KP Go.KI Go.Shelf
attribute [local go_sem] Oper.semAt_some

theorem isNeg_itoa (m : Int) : isNeg (Lib.itoa m) = decide (m < 0) := by
  unfold isNeg
  exact decide_eq_decide.2 (itoa_head m)
/-- What Print returns. -/
def printS (l : List UInt8) (p : Int) : List UInt8 := if chkP l p = 0 then decT (unitsP (valQ l) p.toNat) p.toNat else []
theorem near2_abs {n d : Int} (hd : 0 < d) : (near2 n d).natAbs ≤ n.natAbs + 1 := by
  obtain ⟨h1, h2⟩ := near2_spec (n := n) hd
  obtain ⟨z, hz⟩ : ∃ z, z = near2 n d := ⟨_, rfl⟩
  rw [← hz] at h1 h2 ⊢
  -- 2 d z ≤ 2 n + d < 2 d z + 2 d
  rcases Int.lt_or_le z 0 with h | h
  · obtain ⟨k, hk⟩ : ∃ k : Nat, z = -(k : Int) := ⟨z.natAbs, by omega⟩
    subst hk
    have h3 : 2 * d * -(k : Int) = -(2 * (d * k)) := by rw [Int.mul_neg, Int.mul_assoc]
    rw [h3] at h1 h2
    have h4 : (k : Int) ≤ d * k := by
      have : 1 * (k : Int) ≤ d * k := Int.mul_le_mul_of_nonneg_right (by omega) (by omega)
      omega
    have h5 : d * (k : Int) - d ≥ (k : Int) - 1 := by
      have h6 : d * (k : Int) - d = d * ((k : Int) - 1) := by rw [Int.mul_sub, Int.mul_one]
      have h7 : 1 * ((k : Int) - 1) ≤ d * ((k : Int) - 1) := Int.mul_le_mul_of_nonneg_right (by omega) (by omega)
      omega
    omega
  · obtain ⟨k, hk⟩ : ∃ k : Nat, z = (k : Int) := ⟨z.natAbs, by omega⟩
    subst hk
    rw [Int.mul_assoc] at h1 h2
    rcases Nat.eq_zero_or_pos k with h0 | h0
    · omega
    · have h5 : d * (k : Int) - d ≥ (k : Int) - 1 := by
        have h6 : d * (k : Int) - d = d * ((k : Int) - 1) := by rw [Int.mul_sub, Int.mul_one]
        have h7 : 1 * ((k : Int) - 1) ≤ d * ((k : Int) - 1) := Int.mul_le_mul_of_nonneg_right (by omega) (by omega)
        omega
      omega
/-- How long the digits of what is printed are. -/
theorem units_len {q : Rat} {p : Nat} (hn : q.num.natAbs < 10 ^ 90) (hp : p ≤ 100) : (Lib.decDigits (unitsP q p).natAbs).length ≤ 192 := by
  refine (dec_len_le (by omega)).2 ?_
  have dp := q.den_pos
  have h1 := near2_abs (n := q.num * ((10 ^ p : Nat) : Int)) (d := (q.den : Int)) (by omega)
  have h2 : (q.num * ((10 ^ p : Nat) : Int)).natAbs < 10 ^ (90 + 101) := by
    rw [Int.natAbs_mul, Int.natAbs_natCast]
    exact mul_pow_lt hn (Nat.lt_of_le_of_lt (pow_le_i hp) (Nat.pow_lt_pow_right (by omega) (by omega)))
  unfold unitsP
  have h3 := add_pow_lt h2 (show 1 < 10 ^ (90 + 101) by omega)
  exact Nat.lt_of_le_of_lt h1 h3
set_option maxRecDepth 100000 in
set_option maxHeartbeats 4000000 in
theorem mPrint_any (s : ByteArray) (hs : s.size ≤ 1000000) (p : Int) (B : Nat) (w : World) (hB : B ≤ w.heap.size) (hT : PQ B w) :
    Calls Tryz.prog 37 #[.string s, .int .i64 p] w (Ret w (pairV (printS s.data.toList p) (chkP s.data.toList p))) := by
  have HT := hide hT
  have HC := hide (mcheck_any s hs p B w hB hT)
  by_cases hc : chkP s.data.toList p = 0
  · obtain ⟨hM, p0, p1⟩ := chkP_ok hc
    obtain ⟨_, n1, d1⟩ := chkM_ok hM
    obtain ⟨P, hP⟩ : ∃ P : Nat, (P : Int) = p := ⟨p.toNat, by omega⟩
    rw [show checkM s.data.toList p = tripV (Lib.itoa (valQ s.data.toList).num) (Lib.itoa ((valQ s.data.toList).den : Int)) 0 from if_pos hc] at HC
    rw [show printS s.data.toList p = decT (unitsP (valQ s.data.toList) p.toNat) p.toNat from if_pos hc]
    subst hP
    have dp := (valQ s.data.toList).den_pos
    obtain ⟨f1, f2, f3, f4, f5, f6, f7⟩ := print_fits n1 d1 (show P ≤ 100 by omega)
    rw [hc, Int.toNat_natCast]
    have hul := units_len n1 (show P ≤ 100 by omega)
    have HPW := hide (fun w => mpower_to P (by omega) w)
    have HMU := hide (fun w hB hT => mmul_to (s := strB (Lib.itoa (valQ s.data.toList).num)) (t := strB (powT P)) (strB_list _) (strB_list _) f1 f3 f4 B w hB hT)
    have HNE := hide (fun w hB hT => mnearest_to (s := strB (Lib.itoa ((valQ s.data.toList).num * ((10 ^ P : Nat) : Int)))) (t := strB (Lib.itoa ((valQ s.data.toList).den : Int))) (strB_list _) (strB_list _) f4 f2 f5 f6 f7 (by omega) B w hB hT)
    obtain ⟨m, hm⟩ : ∃ m, m = unitsP (valQ s.data.toList) P := ⟨_, rfl⟩
    rw [show near2 ((valQ s.data.toList).num * ((10 ^ P : Nat) : Int)) ((valQ s.data.toList).den : Int) = m from hm.symm] at HNE
    rw [← hm] at hul ⊢
    have HSI := hide (fun w => msigned_any (strB (Lib.itoa m)) w)
    rw [strB_list, isNeg_itoa, digs_itoa] at HSI
    obtain ⟨N, hN⟩ : ∃ X, X = strB (Lib.itoa (valQ s.data.toList).num) := ⟨_, rfl⟩
    obtain ⟨D, hD⟩ : ∃ X, X = strB (Lib.itoa ((valQ s.data.toList).den : Int)) := ⟨_, rfl⟩
    obtain ⟨W, hW⟩ : ∃ X, X = strB (powT P) := ⟨_, rfl⟩
    obtain ⟨M, hM2⟩ : ∃ X, X = strB (Lib.itoa ((valQ s.data.toList).num * ((10 ^ P : Nat) : Int))) := ⟨_, rfl⟩
    obtain ⟨Q, hQ⟩ : ∃ X, X = strB (Lib.itoa m) := ⟨_, rfl⟩
    obtain ⟨S, hS⟩ : ∃ X, X = strB (sgnT (decide (m < 0))) := ⟨_, rfl⟩
    obtain ⟨O, hO⟩ : ∃ X, X = strB (Lib.decDigits m.natAbs) := ⟨_, rfl⟩
    have HC : Hid (Calls Tryz.prog 104 #[.string s, .int .i64 P] w (Ret w (.tuple #[.string N, .string D, .int .i64 0]))) := hide (by rw [hN, hD]; exact HC.out)
    rw [← hW] at HPW
    rw [← hN, ← hW, ← hM2] at HMU
    rw [← hD, ← hM2, ← hQ] at HNE
    rw [← hQ, ← hS, ← hO] at HSI
    have hOs : O.size = (Lib.decDigits m.natAbs).length := by rw [hO, strB_size]
    have hSs : S.size ≤ 1 := by rw [hS, strB_size]; unfold sgnT; split <;> simp
    have hO1 : 1 ≤ O.size := by rw [hOs]; exact dec_len_pos _
    have hOl : O.size ≤ 192 := by omega
    obtain ⟨X, hX⟩ : ∃ X, X = strB (decT m P) := ⟨_, rfl⟩
    rw [show pairV (decT m P) 0 = .tuple #[.string X, .int .i64 0] by rw [hX]]
    have hdt : decT m P = sgnT (decide (m < 0)) ++ (if P = 0 then Lib.decDigits m.natAbs else (own m P).take ((own m P).length - P) ++ 46 :: (own m P).drop ((own m P).length - P)) := by
      unfold decT sgnT
      by_cases h : m < 0 <;> simp [h]
    by_cases hP0 : P = 0
    · have z : ((P : Int) == 0) = true := by rw [hP0]; rfl
      have v : (9223372036854775807 < S.size + O.size) = False := eq_false (by omega)
      have HX := hide (show X = S ++ O by
        rw [hX, hdt, if_pos hP0, hS, hO]
        apply bytes_eq
        simp [strB])
      clear hc hM p0 p1 n1 d1 dp f1 f2 f3 f4 f5 f6 f7 hm hN hD hW hM2 hQ hS hO hT hOs hX hdt hP0 hul hSs hO1 hOl
      go_enter Tryz.func37, Tryz.ntmps37
      go_wp2_with fail
      refine HC.out.mono ?_
      rintro e w1 ⟨rfl, hb1⟩
      have HB1 := hide hb1
      clear hb1
      go_wp2_with fail
      refine (HPW.out _).mono ?_
      rintro e w2 ⟨rfl, hb2⟩
      have HB2 := hide (HB1.out.trans (hb2.mono HB1.out.size))
      clear hb2
      go_wp2_with fail
      refine (HMU.out _ (Nat.le_trans hB HB2.out.size) (HT.out.p10.on HB2.out hB)).mono ?_
      rintro e w3 ⟨rfl, hb3⟩
      have HB3 := hide (HB2.out.trans (hb3.mono HB2.out.size))
      clear hb3
      go_wp2_with fail
      refine (HNE.out _ (Nat.le_trans hB HB3.out.size) (HT.out.p10.on HB3.out hB)).mono ?_
      rintro e w4 ⟨rfl, hb4⟩
      have HB4 := hide (HB3.out.trans (hb4.mono HB3.out.size))
      clear hb4
      go_wp2_with fail
      refine (HSI.out _).mono ?_
      rintro e w5 ⟨rfl, hb5⟩
      have HB5 := hide (HB4.out.trans (hb5.mono HB4.out.size))
      clear hb5
      go_wp2_with fail
      refine bodyPost_ret (results_tmp2 rfl _ _ _) rfl ?_
      rw [HX.out]
      exact ⟨rfl, HB5.out⟩
    · have z : ((P : Int) == 0) = false := by simpa using hP0
      -- the digits with zeros in front
      obtain ⟨F, hF⟩ : ∃ F, F = strB (own m P) := ⟨_, rfl⟩
      obtain ⟨k, hk⟩ : ∃ k, k = F.size - P := ⟨_, rfl⟩
      have hFs : F.size = (own m P).length := by rw [hF, strB_size]
      have hol := own_len m P
      have hol2 : (own m P).length ≤ 300 := by
        unfold own
        rw [List.length_append, List.length_replicate]
        omega
      have hkP : F.size = k + P := by omega
      have HX := hide (show X = S ++ F.extract 0 k ++ ⟨#[46]⟩ ++ F.extract k F.size by
        rw [hX, hdt, if_neg hP0, hS, ← hFs, ← hk]
        have e1 : F.extract k F.size = strB ((own m P).drop k) := by rw [ext_drop, hF, strB_list]
        have e2 : F.extract 0 k = strB ((own m P).take k) := by
          apply bytes_eq
          rw [strB_list, hF]
          simp [strB]
        rw [e1, e2]
        apply bytes_eq
        simp [strB])
      have hway : (∃ u : Nat, 0 < u ∧ u ≤ 200 ∧ (P : Int) + 1 - (O.size : Int) = (u : Int) ∧ F = strB (List.replicate u 48) ++ O) ∨ (((0 : Int) < (P : Int) + 1 - (O.size : Int)) = False ∧ F = O) := by
        by_cases h : O.size < P + 1
        · refine .inl ⟨P + 1 - O.size, by omega, by omega, by omega, ?_⟩
          rw [hF, hOs, hO]
          apply bytes_eq
          simp [strB, own]
        · refine .inr ⟨eq_false (by omega), ?_⟩
          rw [hF, hO]
          unfold own
          rw [show P + 1 - (Lib.decDigits m.natAbs).length = 0 by omega]
          rfl
      have hkI : IntKind.i64.wrap ((F.size : Int) - (P : Int)) = (k : Int) := by
        rw [IntWalk.i64_in _ (by omega)]
        omega
      have hkl : (k : Int) ≤ (F.size : Int) := by omega
      have hk0 : (0 : Int) ≤ (k : Int) := by omega
      have hkn : k ≤ F.size := by omega
      have hFl : F.size ≤ 300 := by omega
      have hPi0 : (0 : Int) ≤ (P : Int) := by omega
      have hPi1 : (P : Int) ≤ 100 := by omega
      have HKS := hide hkP
      have HKI := hide hkI
      clear hc hM p0 p1 n1 d1 dp f1 f2 f3 f4 f5 f6 f7 hm hN hD hW hM2 hQ hS hO hT hX hdt hP0 hul hF hk hFs hol hol2 hkP hkI hOs
      rcases hway with ⟨u, u0, u1, u2, u3⟩ | ⟨u2, u3⟩
      · have HR := hide (fun w => repeat_any ⟨#[48]⟩ u w (by omega) (by decide))
        rw [show (⟨#[48]⟩ : ByteArray).data.toList = [48] from rfl, repeat48] at HR
        have hZs : (strB (List.replicate u 48)).size ≤ 200 := by rw [strB_size, List.length_replicate]; exact u1
        obtain ⟨Z, hZ⟩ : ∃ Z, Z = strB (List.replicate u 48) := ⟨_, rfl⟩
        rw [← hZ] at HR u3 hZs
        have HF := hide u3
        have v1 : (9223372036854775807 < Z.size + O.size) = False := eq_false (by omega)
        have u0i : (0 : Int) < (u : Int) := by omega
        clear hZ u3
        go_enter Tryz.func37, Tryz.ntmps37
        go_wp2_with fail
        refine HC.out.mono ?_
        rintro e w1 ⟨rfl, hb1⟩
        have HB1 := hide hb1
        clear hb1
        go_wp2_with fail
        refine (HPW.out _).mono ?_
        rintro e w2 ⟨rfl, hb2⟩
        have HB2 := hide (HB1.out.trans (hb2.mono HB1.out.size))
        clear hb2
        go_wp2_with fail
        refine (HMU.out _ (Nat.le_trans hB HB2.out.size) (HT.out.p10.on HB2.out hB)).mono ?_
        rintro e w3 ⟨rfl, hb3⟩
        have HB3 := hide (HB2.out.trans (hb3.mono HB2.out.size))
        clear hb3
        go_wp2_with fail
        refine (HNE.out _ (Nat.le_trans hB HB3.out.size) (HT.out.p10.on HB3.out hB)).mono ?_
        rintro e w4 ⟨rfl, hb4⟩
        have HB4 := hide (HB3.out.trans (hb4.mono HB3.out.size))
        clear hb4
        go_wp2_with fail
        refine (HSI.out _).mono ?_
        rintro e w5 ⟨rfl, hb5⟩
        have HB5 := hide (HB4.out.trans (hb5.mono HB4.out.size))
        clear hb5
        go_wp2_with fail
        refine (HR.out _).mono ?_
        rintro e w6 ⟨rfl, hb6⟩
        have HB6 := hide (HB5.out.trans (hb6.mono HB5.out.size))
        clear hb6
        go_wp2_with fail
        rw [← HF.out]
        have hkI := HKI.out
        go_quiet (fail)
        go_wp2_with fail
        refine bodyPost_ret (results_tmp2 rfl _ _ _) rfl ?_
        rw [HX.out]
        exact ⟨rfl, below_drewN HB6.out _⟩
      · have u4 : ((O.size : Int) < (P : Int) + 1) = False := eq_false (by
          intro h
          have h2 : ¬ (0 : Int) < (P : Int) + 1 - (O.size : Int) := of_eq_false u2
          omega)
        subst u3
        go_enter Tryz.func37, Tryz.ntmps37
        go_wp2_with fail
        refine HC.out.mono ?_
        rintro e w1 ⟨rfl, hb1⟩
        have HB1 := hide hb1
        clear hb1
        go_wp2_with fail
        refine (HPW.out _).mono ?_
        rintro e w2 ⟨rfl, hb2⟩
        have HB2 := hide (HB1.out.trans (hb2.mono HB1.out.size))
        clear hb2
        go_wp2_with fail
        refine (HMU.out _ (Nat.le_trans hB HB2.out.size) (HT.out.p10.on HB2.out hB)).mono ?_
        rintro e w3 ⟨rfl, hb3⟩
        have HB3 := hide (HB2.out.trans (hb3.mono HB2.out.size))
        clear hb3
        go_wp2_with fail
        refine (HNE.out _ (Nat.le_trans hB HB3.out.size) (HT.out.p10.on HB3.out hB)).mono ?_
        rintro e w4 ⟨rfl, hb4⟩
        have HB4 := hide (HB3.out.trans (hb4.mono HB3.out.size))
        clear hb4
        go_wp2_with fail
        refine (HSI.out _).mono ?_
        rintro e w5 ⟨rfl, hb5⟩
        have HB5 := hide (HB4.out.trans (hb5.mono HB4.out.size))
        clear hb5
        go_wp2_with fail
        have hkI := HKI.out
        go_quiet (fail)
        go_wp2_with fail
        refine bodyPost_ret (results_tmp2 rfl _ _ _) rfl ?_
        rw [HX.out]
        exact ⟨rfl, below_drewN HB5.out _⟩
  · rw [show checkM s.data.toList p = tripV [] [] (chkP s.data.toList p) from if_neg hc, tripV_err] at HC
    rw [show printS s.data.toList p = [] from if_neg hc, pairV_err]
    have hne : (chkP s.data.toList p != 0) = true := by simpa using hc
    obtain ⟨E, hE⟩ : ∃ E, E = chkP s.data.toList p := ⟨_, rfl⟩
    rw [← hE] at HC hne ⊢
    clear hE hc hT
    go_enter Tryz.func37, Tryz.ntmps37
    go_wp2_with fail
    refine HC.out.mono ?_
    rintro e w1 ⟨rfl, hb1⟩
    have HB1 := hide hb1
    clear hb1
    go_wp2_with fail
    refine bodyPost_ret (results_tmp2 rfl _ _ _) rfl ?_
    exact ⟨rfl, HB1.out⟩
end Go.Proofs.YtfgjpnoeibiaaaaGreatDoor
namespace Go.Proofs.YtfgjpnoeibiaaaaGreatDoor
open Go.RowKit Go.KP Go.KI Go.Shelf
attribute [local go_sem] Oper.semAt_some

theorem lit60 : (⟨#[54, 48]⟩ : ByteArray).data.toList = Lib.itoa 60 := by
  rw [show (60 : Int) = ((60 : Nat) : Int) from rfl, Lib.itoa_nonneg]
  exact dec_of (l := [54, 48]) (by decide) (by decide) (by decide)
theorem lit127 : (⟨#[49, 50, 55]⟩ : ByteArray).data.toList = Lib.itoa 127 := by
  rw [show (127 : Int) = ((127 : Nat) : Int) from rfl, Lib.itoa_nonneg]
  exact dec_of (l := [49, 50, 55]) (by decide) (by decide) (by decide)
theorem lit144 : (⟨#[49, 52, 52]⟩ : ByteArray).data.toList = Lib.itoa 144 := by
  rw [show (144 : Int) = ((144 : Nat) : Int) from rfl, Lib.itoa_nonneg]
  exact dec_of (l := [49, 52, 52]) (by decide) (by decide) (by decide)
theorem lit12 : (⟨#[49, 50]⟩ : ByteArray).data.toList = Lib.itoa 12 := by
  rw [show (12 : Int) = ((12 : Nat) : Int) from rfl, Lib.itoa_nonneg]
  exact dec_of (l := [49, 50]) (by decide) (by decide) (by decide)
theorem fits_lit {z : Int} (h : z.natAbs < 1000) : fits z := fits_le_pow (k := 3) (by omega) (by omega)
/-- The twelfths of an inch that are printed. -/
def twelfths (q : Rat) : Int := near2 (q.num * 60) ((q.den : Int) * 127)
def feetS (l : List UInt8) : List UInt8 := if chkM l = 0 then feetT (twelfths (valQ l)) else []
theorem feet_fits {n : Int} {d : Nat} (hn : n.natAbs < 10 ^ 90) (hd : d < 10 ^ 90) :
    fits n ∧ fits (d : Int) ∧ fits (n * 60) ∧ fits ((d : Int) * 127) ∧ fits (n * 60 * 2) ∧ fits (n * 60 * 2 + (d : Int) * 127) ∧ fits ((d : Int) * 127 * 2) := by
  have e : (10 : Nat) ^ 94 = 10000 * 10 ^ 90 := by rw [show 94 = 90 + 4 from rfl, Nat.pow_add, Nat.mul_comm]
  refine ⟨fits_le_pow (k := 90) (by omega) hn, fits_le_pow (k := 90) (by omega) (by rw [Int.natAbs_natCast]; exact hd), fits_le_pow (k := 94) (by omega) (by omega), fits_le_pow (k := 94) (by omega) (by omega), fits_le_pow (k := 94) (by omega) (by omega), fits_le_pow (k := 94) (by omega) (by omega), fits_le_pow (k := 94) (by omega) (by omega)⟩
theorem twelfths_len {q : Rat} (hn : q.num.natAbs < 10 ^ 90) : (twelfths q).natAbs < 10 ^ 94 := by
  have dp := q.den_pos
  have h1 := near2_abs (n := q.num * 60) (d := (q.den : Int) * 127) (by omega)
  have e : (10 : Nat) ^ 94 = 10000 * 10 ^ 90 := by rw [show 94 = 90 + 4 from rfl, Nat.pow_add, Nat.mul_comm]
  unfold twelfths
  omega
theorem nat_fdiv (u k : Nat) (hk : 0 < k) : ((u : Int)).fdiv (k : Int) = ((u / k : Nat) : Int) ∧ ((u : Int)).fmod (k : Int) = ((u % k : Nat) : Int) := by
  constructor
  · rw [Int.fdiv_eq_ediv_of_nonneg _ (by omega), Int.natCast_ediv]
  · rw [Int.fmod_eq_emod_of_nonneg _ (by omega), Int.natCast_emod]
set_option maxRecDepth 100000 in
set_option maxHeartbeats 4000000 in
theorem mFeet_any (s : ByteArray) (hs : s.size ≤ 1000000) (B : Nat) (w : World) (hB : B ≤ w.heap.size) (hT : PQ B w) :
    Calls Tryz.prog 42 #[.string s] w (Ret w (pairV (feetS s.data.toList) (chkM s.data.toList))) := by
  have HT := hide hT
  have HC := hide (mparts_any s hs B w hB hT)
  by_cases hM : chkM s.data.toList = 0
  · obtain ⟨_, n1, d1⟩ := chkM_ok hM
    rw [show partsM s.data.toList = tripV (Lib.itoa (valQ s.data.toList).num) (Lib.itoa ((valQ s.data.toList).den : Int)) 0 from if_pos hM] at HC
    rw [show feetS s.data.toList = feetT (twelfths (valQ s.data.toList)) from if_pos hM, hM]
    have dp := (valQ s.data.toList).den_pos
    obtain ⟨f1, f2, f3, f4, f5, f6, f7⟩ := feet_fits n1 d1
    have hul := twelfths_len n1
    have HM1 := hide (fun w hB hT => mmul_to (s := strB (Lib.itoa (valQ s.data.toList).num)) (t := ⟨#[54, 48]⟩) (strB_list _) lit60 f1 (fits_lit (by decide)) f3 B w hB hT)
    have HM2 := hide (fun w hB hT => mmul_to (s := strB (Lib.itoa ((valQ s.data.toList).den : Int))) (t := ⟨#[49, 50, 55]⟩) (strB_list _) lit127 f2 (fits_lit (by decide)) f4 B w hB hT)
    have HNE := hide (fun w hB hT => mnearest_to (s := strB (Lib.itoa ((valQ s.data.toList).num * 60))) (t := strB (Lib.itoa (((valQ s.data.toList).den : Int) * 127))) (strB_list _) (strB_list _) f3 f4 f5 f6 f7 (by omega) B w hB hT)
    obtain ⟨m, hm⟩ : ∃ m, m = twelfths (valQ s.data.toList) := ⟨_, rfl⟩
    rw [show near2 ((valQ s.data.toList).num * 60) (((valQ s.data.toList).den : Int) * 127) = m from hm.symm] at HNE
    rw [← hm] at hul ⊢
    have HSI := hide (fun w => msigned_any (strB (Lib.itoa m)) w)
    rw [strB_list, isNeg_itoa, digs_itoa] at HSI
    obtain ⟨u, hu⟩ : ∃ u, u = m.natAbs := ⟨_, rfl⟩
    rw [← hu] at hul HSI
    have fu : fits (u : Int) := fits_le_pow (k := 94) (by omega) (by rw [Int.natAbs_natCast]; exact hul)
    obtain ⟨q1, q2⟩ := nat_fdiv u 144 (by omega)
    obtain ⟨q3, q4⟩ := nat_fdiv (u % 144) 12 (by omega)
    have HD1 := hide (fun w hB hT => mdivide_to (s := strB (Lib.decDigits u)) (t := ⟨#[49, 52, 52]⟩) (x := (u : Int)) (y := 144) (by rw [strB_list, Lib.itoa_nonneg]) lit144 fu (fits_lit (by decide)) (by decide) B w hB hT)
    rw [show (144 : Int) = ((144 : Nat) : Int) from rfl, q1, q2] at HD1
    have HD2 := hide (fun w hB hT => mdivide_to (s := strB (Lib.itoa ((u % 144 : Nat) : Int))) (t := ⟨#[49, 50]⟩) (x := ((u % 144 : Nat) : Int)) (y := 12) (strB_list _) lit12 (fits_lit (by omega)) (fits_lit (by decide)) (by decide) B w hB hT)
    rw [show (12 : Int) = ((12 : Nat) : Int) from rfl, q3, q4] at HD2
    obtain ⟨N, hN⟩ : ∃ X, X = strB (Lib.itoa (valQ s.data.toList).num) := ⟨_, rfl⟩
    obtain ⟨D, hD⟩ : ∃ X, X = strB (Lib.itoa ((valQ s.data.toList).den : Int)) := ⟨_, rfl⟩
    obtain ⟨N2, hN2⟩ : ∃ X, X = strB (Lib.itoa ((valQ s.data.toList).num * 60)) := ⟨_, rfl⟩
    obtain ⟨D2, hD2⟩ : ∃ X, X = strB (Lib.itoa (((valQ s.data.toList).den : Int) * 127)) := ⟨_, rfl⟩
    obtain ⟨Q, hQ⟩ : ∃ X, X = strB (Lib.itoa m) := ⟨_, rfl⟩
    obtain ⟨S, hS⟩ : ∃ X, X = strB (sgnT (decide (m < 0))) := ⟨_, rfl⟩
    obtain ⟨O, hO⟩ : ∃ X, X = strB (Lib.decDigits u) := ⟨_, rfl⟩
    obtain ⟨A, hA⟩ : ∃ X, X = strB (Lib.itoa ((u / 144 : Nat) : Int)) := ⟨_, rfl⟩
    obtain ⟨R, hR⟩ : ∃ X, X = strB (Lib.itoa ((u % 144 : Nat) : Int)) := ⟨_, rfl⟩
    obtain ⟨I, hI⟩ : ∃ X, X = strB (Lib.itoa ((u % 144 / 12 : Nat) : Int)) := ⟨_, rfl⟩
    obtain ⟨T, hT2⟩ : ∃ X, X = strB (Lib.itoa ((u % 144 % 12 : Nat) : Int)) := ⟨_, rfl⟩
    have HC : Hid (Calls Tryz.prog 116 #[.string s] w (Ret w (.tuple #[.string N, .string D, .int .i64 0]))) := hide (by rw [hN, hD]; exact HC.out)
    rw [← hN, ← hN2] at HM1
    rw [← hD, ← hD2] at HM2
    rw [← hN2, ← hD2, ← hQ] at HNE
    rw [← hQ, ← hS, ← hO] at HSI
    rw [← hO, ← hA, ← hR] at HD1
    rw [← hR, ← hI, ← hT2] at HD2
    have hdl : ∀ v : Nat, v < 10 ^ 94 → (Lib.decDigits v).length ≤ 94 := fun v hv => (dec_len_le (by omega)).2 hv
    have hSs : S.size ≤ 1 := by rw [hS, strB_size]; unfold sgnT; split <;> simp
    have hAs : A.size ≤ 94 := by rw [hA, strB_size, Lib.itoa_nonneg]; exact hdl _ (by omega)
    have hIs : I.size ≤ 94 := by rw [hI, strB_size, Lib.itoa_nonneg]; exact hdl _ (by omega)
    have hTs : T.size ≤ 94 := by rw [hT2, strB_size, Lib.itoa_nonneg]; exact hdl _ (by omega)
    have v1 : (9223372036854775807 < S.size + A.size) = False := eq_false (by omega)
    have v2 : (9223372036854775807 < S.size + A.size + 1) = False := eq_false (by omega)
    have v3 : (9223372036854775807 < S.size + A.size + 1 + I.size) = False := eq_false (by omega)
    have v4 : (9223372036854775807 < S.size + A.size + 1 + I.size + 1) = False := eq_false (by omega)
    have v5 : (9223372036854775807 < S.size + A.size + 1 + I.size + 1 + T.size) = False := eq_false (by omega)
    have HX := hide (show strB (feetT m) = S ++ A ++ ⟨#[39]⟩ ++ I ++ ⟨#[34]⟩ ++ T by
      unfold feetT
      rw [← hu, hS, hA, hI, hT2, Lib.itoa_nonneg, Lib.itoa_nonneg, Lib.itoa_nonneg]
      apply bytes_eq
      simp [strB, sgnT])
    rw [show pairV (feetT m) 0 = .tuple #[.string (strB (feetT m)), .int .i64 0] from rfl, HX.out]
    clear hM n1 d1 dp f1 f2 f3 f4 f5 f6 f7 hm hN hD hN2 hD2 hQ hS hO hA hR hI hT2 hT hu hul fu q1 q2 q3 q4 hdl hSs hAs hIs hTs HX
    go_enter Tryz.func42, Tryz.ntmps42
    go_wp2_with fail
    refine HC.out.mono ?_
    rintro e w1 ⟨rfl, hb1⟩
    have HB1 := hide hb1
    clear hb1
    go_wp2_with fail
    refine (HM1.out _ (Nat.le_trans hB HB1.out.size) (HT.out.p10.on HB1.out hB)).mono ?_
    rintro e w2 ⟨rfl, hb2⟩
    have HB2 := hide (HB1.out.trans (hb2.mono HB1.out.size))
    clear hb2
    go_wp2_with fail
    refine (HM2.out _ (Nat.le_trans hB HB2.out.size) (HT.out.p10.on HB2.out hB)).mono ?_
    rintro e w3 ⟨rfl, hb3⟩
    have HB3 := hide (HB2.out.trans (hb3.mono HB2.out.size))
    clear hb3
    go_wp2_with fail
    refine (HNE.out _ (Nat.le_trans hB HB3.out.size) (HT.out.p10.on HB3.out hB)).mono ?_
    rintro e w4 ⟨rfl, hb4⟩
    have HB4 := hide (HB3.out.trans (hb4.mono HB3.out.size))
    clear hb4
    go_wp2_with fail
    refine (HSI.out _).mono ?_
    rintro e w5 ⟨rfl, hb5⟩
    have HB5 := hide (HB4.out.trans (hb5.mono HB4.out.size))
    clear hb5
    go_wp2_with fail
    refine (HD1.out _ (Nat.le_trans hB HB5.out.size) (HT.out.p10.on HB5.out hB)).mono ?_
    rintro e w6 ⟨rfl, hb6⟩
    have HB6 := hide (HB5.out.trans (hb6.mono HB5.out.size))
    clear hb6
    go_wp2_with fail
    refine (HD2.out _ (Nat.le_trans hB HB6.out.size) (HT.out.p10.on HB6.out hB)).mono ?_
    rintro e w7 ⟨rfl, hb7⟩
    have HB7 := hide (HB6.out.trans (hb7.mono HB6.out.size))
    clear hb7
    go_wp2_with fail
    refine bodyPost_ret (results_tmp2 rfl _ _ _) rfl ?_
    exact ⟨rfl, HB7.out⟩
  · rw [show partsM s.data.toList = tripV [] [] (chkM s.data.toList) from if_neg hM, tripV_err] at HC
    rw [show feetS s.data.toList = [] from if_neg hM, pairV_err]
    have hne : (chkM s.data.toList != 0) = true := by simpa using hM
    obtain ⟨E, hE⟩ : ∃ E, E = chkM s.data.toList := ⟨_, rfl⟩
    rw [← hE] at HC hne ⊢
    clear hE hM hT
    go_enter Tryz.func42, Tryz.ntmps42
    go_wp2_with fail
    refine HC.out.mono ?_
    rintro e w1 ⟨rfl, hb1⟩
    have HB1 := hide hb1
    clear hb1
    go_wp2_with fail
    refine bodyPost_ret (results_tmp2 rfl _ _ _) rfl ?_
    exact ⟨rfl, HB1.out⟩
end Go.Proofs.YtfgjpnoeibiaaaaGreatDoor
namespace Go.KI
open Go
/-- What a text of feet says. -/
def feetM (l : List UInt8) : Nat := (dv (ahead 39 (digs l)) * 12 + dv (ahead 34 (behind 39 (digs l)))) * 12 + dv (behind 34 (behind 39 (digs l)))
def feetQ (l : List UInt8) : Rat := sgn (isNeg l) (((feetM l * 127 : Nat) : Rat) / ((60 : Nat) : Rat))
def feetE (l : List UInt8) : Int := if 90 < l.length then 4 else if feetOK l then 0 else 3
def feetR (l : List UInt8) : List UInt8 := if feetE l = 0 then ratS (feetQ l) else []
theorem numeral_iff {l : List UInt8} : numeral l ↔ allDg l ∧ Lib.decDigits (dv l) = l := by
  constructor
  · intro h
    exact ⟨⟨h.1, List.all_eq_true.1 h.2.1⟩, (numeral_dec h).symm⟩
  · rintro ⟨h1, h2⟩
    rw [← h2]
    exact dec_numeral _
end Go.KI
namespace Go.Proofs.YtfgjpnoeibiaaaaGreatDoor
open Go.RowKit Go.KP Go.KI Go.Shelf
attribute [local go_sem] Oper.semAt_some

set_option maxRecDepth 100000 in
set_option maxHeartbeats 1000000 in
theorem msmall_any (s : ByteArray) (hs : s.size ≤ 1000000) (b : Bool) (hb : b = decide (smallT s.data.toList)) (w : World) :
    Calls Tryz.prog 119 #[.string s] w (Ret w (.bool b)) := by
  have HD := hide (fun b hb w => mdigits_any s hs b hb w)
  obtain ⟨t1, t2⟩ := lit_eq (s := s) (l := s.data.toList) (m := [49, 48]) rfl
  obtain ⟨u1, u2⟩ := lit_eq (s := s) (l := s.data.toList) (m := [49, 49]) rfl
  have hlen := bytes_len s
  by_cases h1 : s.size = 1
  · have z : ((s.size : Int) == 1) = true := by rw [h1]; rfl
    have n10 : s.data.toList ≠ [49, 48] := fun e => by rw [e] at hlen; simp at hlen; omega
    have n11 : s.data.toList ≠ [49, 49] := fun e => by rw [e] at hlen; simp at hlen; omega
    have e1 := t2 n10
    have e2 := u2 n11
    by_cases h2 : allDg s.data.toList
    · have hbt : b = true := by rw [hb, decide_eq_true_iff]; exact .inl ⟨by omega, h2⟩
      have HDA := hide (HD.out true (by simpa using h2))
      rw [hbt]
      clear t1 t2 u1 u2 hlen h1 n10 n11 h2 hb hbt HD
      go_enter Tryz.func119, Tryz.ntmps119
      go_wp2_with fail
      refine (HDA.out _).mono ?_
      rintro e w1 ⟨rfl, hb1⟩
      have HB1 := hide hb1
      clear hb1
      go_wp2_with fail
      go_ret
      exact ⟨rfl, HB1.out⟩
    · have hbt : b = false := by
        rw [hb, decide_eq_false_iff_not]
        rintro (h | h | h)
        · exact h2 h.2
        · exact n10 h
        · exact n11 h
      have HDA := hide (HD.out false (by simpa using h2))
      rw [hbt]
      clear t1 t2 u1 u2 hlen h1 n10 n11 h2 hb hbt HD
      go_enter Tryz.func119, Tryz.ntmps119
      go_wp2_with fail
      refine (HDA.out _).mono ?_
      rintro e w1 ⟨rfl, hb1⟩
      have HB1 := hide hb1
      clear hb1
      go_wp2_with fail
      go_ret
      exact ⟨rfl, HB1.out⟩
  · have z : ((s.size : Int) == 1) = false := by
      simp only [beq_eq_false_iff_ne, ne_eq]
      omega
    have hway : ((s.toList == [49, 48]) = true ∧ b = true) ∨ ((s.toList == [49, 48]) = false ∧ (s.toList == [49, 49]) = true ∧ b = true) ∨ ((s.toList == [49, 48]) = false ∧ (s.toList == [49, 49]) = false ∧ b = false) := by
      by_cases a1 : s.data.toList = [49, 48]
      · exact .inl ⟨t1 a1, by rw [hb, decide_eq_true_iff]; exact .inr (.inl a1)⟩
      · by_cases a2 : s.data.toList = [49, 49]
        · exact .inr (.inl ⟨t2 a1, u1 a2, by rw [hb, decide_eq_true_iff]; exact .inr (.inr a2)⟩)
        · refine .inr (.inr ⟨t2 a1, u2 a2, ?_⟩)
          rw [hb, decide_eq_false_iff_not]
          rintro (h | h | h)
          · exact h1 (by omega)
          · exact a1 h
          · exact a2 h
    clear t1 t2 u1 u2 hlen h1 hb HD
    rcases hway with ⟨e1, e2⟩ | ⟨e1, e3, e2⟩ | ⟨e1, e3, e2⟩
    all_goals
      subst e2
      go_enter Tryz.func119, Tryz.ntmps119
      go_wp2_with fail
      go_ret
      exact ⟨rfl, Below.refl _ _⟩
set_option maxRecDepth 100000 in
set_option maxHeartbeats 8000000 in
theorem mParseFeet_any (s : ByteArray) (B : Nat) (w : World) (hB : B ≤ w.heap.size) (hT : PQ B w) :
    Calls Tryz.prog 44 #[.string s] w (Ret w (pairV (feetR s.data.toList) (feetE s.data.toList))) := by
  have HT := hide hT
  by_cases h90 : 90 < s.size
  · have e : feetE s.data.toList = 4 := by unfold feetE; rw [if_pos (by rw [bytes_len]; exact h90)]
    rw [show feetR s.data.toList = [] by unfold feetR; rw [e, if_neg (by decide)], e, pairV_err]
    have hm : (90 : Int) < (s.size : Int) := by omega
    clear e h90 hT
    go_enter Tryz.func44, Tryz.ntmps44
    go_wp2_with fail
    refine bodyPost_ret (results_tmp2 rfl _ _ _) rfl ?_
    exact ⟨rfl, Below.refl _ _⟩
  have hm : ((90 : Int) < (s.size : Int)) = False := eq_false (by omega)
  have hpe : feetE s.data.toList = if feetOK s.data.toList then 0 else 3 := by
    unfold feetE
    rw [if_neg (by rw [bytes_len]; exact h90)]
  have hbad : ¬ feetOK s.data.toList → pairV (feetR s.data.toList) (feetE s.data.toList) = .tuple #[.string ⟨#[]⟩, .int .i64 3] := fun h => by
    have e : feetE s.data.toList = 3 := by rw [hpe, if_neg h]
    rw [show feetR s.data.toList = [] by unfold feetR; rw [e, if_neg (by decide)], e, pairV_err]
  have hgood : feetOK s.data.toList → pairV (feetR s.data.toList) (feetE s.data.toList) = pairV (ratS (feetQ s.data.toList)) 0 := fun h => by
    have e : feetE s.data.toList = 0 := by rw [hpe, if_pos h]
    rw [show feetR s.data.toList = ratS (feetQ s.data.toList) by unfold feetR; rw [if_pos e], e]
  have hok : feetOK s.data.toList ↔ (39 ∈ digs s.data.toList ∧ 34 ∈ KI.behind 39 (digs s.data.toList) ∧ numeral (KI.ahead 39 (digs s.data.toList)) ∧ smallT (KI.ahead 34 (KI.behind 39 (digs s.data.toList))) ∧ smallT (KI.behind 34 (KI.behind 39 (digs s.data.toList))) ∧ s.data.toList ≠ [45, 48, 39, 48, 34, 48]) := Iff.rfl
  have hq : feetQ s.data.toList = sgn (isNeg s.data.toList) (((((dv (KI.ahead 39 (digs s.data.toList)) * 12 + dv (KI.ahead 34 (KI.behind 39 (digs s.data.toList)))) * 12 + dv (KI.behind 34 (KI.behind 39 (digs s.data.toList)))) * 127 : Nat) : Rat) / ((60 : Nat) : Rat)) := rfl
  have HSI := hide (msigned_any s w)
  obtain ⟨neg, hneg⟩ : ∃ neg, neg = isNeg s.data.toList := ⟨_, rfl⟩
  obtain ⟨L, hL⟩ : ∃ L, L = digs s.data.toList := ⟨_, rfl⟩
  have hLl : L.length ≤ 90 := by rw [hL]; have := digs_le s.data.toList; rw [bytes_len] at this; omega
  rw [← hneg, ← hL] at HSI
  rw [← hL] at hok hq
  rw [← hneg] at hq
  obtain ⟨O, hO⟩ : ∃ O, O = strB L := ⟨_, rfl⟩
  have hOl : O.data.toList = L := by rw [hO, strB_list]
  have hOs : O.size ≤ 90 := by rw [← bytes_len, hOl]; exact hLl
  have HC39 := hide (fun w hT => scut_any 39 O (by omega) B w hT)
  rw [hOl] at HC39
  rw [← hO] at HSI
  obtain ⟨SG, hSG⟩ : ∃ O, O = strB (sgnT neg) := ⟨_, rfl⟩
  have HFR := hide (fun n d D h hn hd hD h0 w hB hT => mfraction_any neg n d D h hn hd hD h0 B w hB hT)
  rw [← hSG] at HSI HFR
  obtain ⟨tz1, tz2⟩ := lit_eq (s := s) (l := s.data.toList) (m := [45, 48, 39, 48, 34, 48]) rfl
  -- the parts of the text
  have hal := ahead_le 39 L
  have hbl := behind_le 39 L
  obtain ⟨a, ha⟩ : ∃ a, a = KI.ahead 39 L := ⟨_, rfl⟩
  obtain ⟨b, hb⟩ : ∃ a, a = if 39 ∈ L then KI.behind 39 L else [] := ⟨_, rfl⟩
  rw [← ha, ← hb] at HC39
  have hb39 : 39 ∈ L → KI.behind 39 L = b := fun h => by rw [hb, if_pos h]
  have hbl2 : b.length ≤ 90 := by
    rw [hb]
    split
    · omega
    · exact Nat.zero_le _
  have hsum : 39 ∈ L → a.length + b.length + 1 = L.length := fun h => by rw [ha, ← hb39 h]; exact both_le h
  rw [← ha] at hok hq hal
  obtain ⟨A, hA⟩ : ∃ O, O = strB a := ⟨_, rfl⟩
  obtain ⟨R, hR⟩ : ∃ O, O = strB b := ⟨_, rfl⟩
  have hAl : A.data.toList = a := by rw [hA, strB_list]
  have hAs : A.size = a.length := by rw [hA, strB_size]
  have hRl : R.data.toList = b := by rw [hR, strB_list]
  have hRs : R.size = b.length := by rw [hR, strB_size]
  rw [← hA, ← hR] at HC39
  have HC34 := hide (fun w hT => scut_any 34 R (by omega) B w hT)
  rw [hRl] at HC34
  have hil := ahead_le 34 b
  have htl := behind_le 34 b
  obtain ⟨i, hi⟩ : ∃ a, a = KI.ahead 34 b := ⟨_, rfl⟩
  obtain ⟨t, ht⟩ : ∃ a, a = if 34 ∈ b then KI.behind 34 b else [] := ⟨_, rfl⟩
  have ht34 : 34 ∈ b → KI.behind 34 b = t := fun h => by rw [ht, if_pos h]
  have htl2 : t.length ≤ 90 := by
    rw [ht]
    split
    · omega
    · exact Nat.zero_le _
  have hsum2 : 34 ∈ b → i.length + t.length + 1 = b.length := fun h => by rw [hi, ← ht34 h]; exact both_le h
  rw [← hi, ← ht] at HC34
  rw [← hi] at hil
  obtain ⟨I, hI⟩ : ∃ O, O = strB i := ⟨_, rfl⟩
  obtain ⟨T, hT2⟩ : ∃ O, O = strB t := ⟨_, rfl⟩
  have hIl : I.data.toList = i := by rw [hI, strB_list]
  have hIs : I.size = i.length := by rw [hI, strB_size]
  have hTl : T.data.toList = t := by rw [hT2, strB_list]
  have hTs : T.size = t.length := by rw [hT2, strB_size]
  rw [← hI, ← hT2] at HC34
  have hok2 : 39 ∈ L → 34 ∈ b → (feetOK s.data.toList ↔ numeral a ∧ smallT i ∧ smallT t ∧ s.data.toList ≠ [45, 48, 39, 48, 34, 48]) := fun h1 h2 => by
    rw [hok, hb39 h1, ht34 h2, ← hi]
    exact ⟨fun h => h.2.2, fun h => ⟨h1, h2, h⟩⟩
  have hq2 : 39 ∈ L → 34 ∈ b → feetQ s.data.toList = sgn neg (((((dv a * 12 + dv i) * 12 + dv t) * 127 : Nat) : Rat) / ((60 : Nat) : Rat)) := fun h1 h2 => by
    rw [hq, hb39 h1, ht34 h2, ← hi]
  have HDA := hide (fun x hx w => mdigits_any A (by omega) x hx w)
  rw [hAl] at HDA
  have HSM1 := hide (fun x hx w => msmall_any I (by omega) x hx w)
  rw [hIl] at HSM1
  have HSM2 := hide (fun x hx w => msmall_any T (by omega) x hx w)
  rw [hTl] at HSM2
  by_cases h39 : 39 ∈ L
  · by_cases h34 : 34 ∈ b
    · rw [show decide (39 ∈ L) = true by simpa using h39] at HC39
      rw [show decide (34 ∈ b) = true by simpa using h34] at HC34
      have hk := hok2 h39 h34
      have hqq := hq2 h39 h34
      have hsz := hsum h39
      have hsz2 := hsum2 h34
      by_cases k1 : allDg a
      · have HD := hide (HDA.out true (by simpa using k1))
        have HW := hide (fun w => mwhole_any A (by rw [hAl]; exact k1.2) w)
        rw [hAl] at HW
        obtain ⟨WA, hWA⟩ : ∃ W, W = strB (Lib.decDigits (dv a)) := ⟨_, rfl⟩
        rw [← hWA] at HW
        by_cases k2 : Lib.decDigits (dv a) = a
        · have hEq : WA = A := by rw [hWA, k2, hA]
          rw [hEq] at HW
          have hnum : numeral a := numeral_iff.2 ⟨k1, k2⟩
          have hwn : (A.toList != A.toList) = false := by simp
          by_cases k3 : smallT i
          · have HS1 := hide (HSM1.out true (by simpa using k3))
            by_cases k4 : smallT t
            · have HS2 := hide (HSM2.out true (by simpa using k4))
              by_cases k5 : s.data.toList = [45, 48, 39, 48, 34, 48]
              · have z := tz1 k5
                rw [hbad (fun h => (hk.1 h).2.2.2 k5)]
                clear k1 k2 k3 k4 k5 hk hqq hsz hsz2 hnum hWA hEq HDA HSM1 HSM2 HFR h34 h39
                clear hbad hgood hpe hok hq hok2 hq2 h90 hneg hL hLl hO hOl hOs hSG hT tz1 tz2 hal hbl ha hb hb39 hbl2 hsum hA hR hAl hAs hRl hRs hil htl hi ht ht34 htl2 hsum2 hI hT2 hIl hIs hTl hTs
                go_enter Tryz.func44, Tryz.ntmps44
                go_wp2_with fail
                refine (HSI.out).mono ?_
                rintro e w1 ⟨rfl, hb1⟩
                have HB1 := hide hb1
                clear hb1
                go_wp2_with fail
                refine (HC39.out _ (HT.out.on HB1.out hB)).mono ?_
                rintro e w2 ⟨rfl, hb2⟩
                have HB2 := hide (HB1.out.trans (hb2.mono HB1.out.size))
                clear hb2
                go_wp2_with fail
                refine (HC34.out _ (HT.out.on HB2.out hB)).mono ?_
                rintro e w3 ⟨rfl, hb3⟩
                have HB3 := hide (HB2.out.trans (hb3.mono HB2.out.size))
                clear hb3
                go_wp2_with fail
                refine (HD.out _).mono ?_
                rintro e w4 ⟨rfl, hb4⟩
                have HB4 := hide (HB3.out.trans (hb4.mono HB3.out.size))
                clear hb4
                go_wp2_with fail
                refine (HW.out _).mono ?_
                rintro e w5 ⟨rfl, hb5⟩
                have HB5 := hide (HB4.out.trans (hb5.mono HB4.out.size))
                clear hb5
                go_wp2_with fail
                refine (HS1.out _).mono ?_
                rintro e w6 ⟨rfl, hb6⟩
                have HB6 := hide (HB5.out.trans (hb6.mono HB5.out.size))
                clear hb6
                go_wp2_with fail
                refine (HS2.out _).mono ?_
                rintro e w7 ⟨rfl, hb7⟩
                have HB7 := hide (HB6.out.trans (hb7.mono HB6.out.size))
                clear hb7
                go_wp2_with fail
                refine bodyPost_ret (results_tmp2 rfl _ _ _) rfl ?_
                exact ⟨rfl, HB7.out⟩
              · have z := tz2 k5
                rw [hgood (hk.2 ⟨hnum, k3, k4, k5⟩), hqq]
                obtain ⟨i1, i2⟩ := smallT_dec k3
                obtain ⟨t1, t2⟩ := smallT_dec k4
                obtain ⟨U, hU⟩ : ∃ U, U = dv a := ⟨_, rfl⟩
                obtain ⟨V, hV⟩ : ∃ U, U = dv i := ⟨_, rfl⟩
                obtain ⟨Z, hZ⟩ : ∃ U, U = dv t := ⟨_, rfl⟩
                have hUb : U < 10 ^ 87 := by
                  rw [hU]
                  refine Nat.lt_of_lt_of_le (dv_lt _ k1.2) (Nat.pow_le_pow_right (by omega) ?_)
                  have l1 : 1 ≤ i.length := by rw [i1]; exact dec_len_pos _
                  omega
                rw [← hV] at i1 i2
                rw [← hZ] at t1 t2
                rw [← hU] at k2
                rw [← hU, ← hV, ← hZ]
                have p1 : (10 : Nat) ^ 91 = 10000 * 10 ^ 87 := by rw [show 91 = 87 + 4 from rfl, Nat.pow_add, Nat.mul_comm]
                have p2 : (10 : Nat) ^ 92 = 100000 * 10 ^ 87 := by rw [show 92 = 87 + 5 from rfl, Nat.pow_add, Nat.mul_comm]
                have p3 : 100 < 10 ^ 87 := by decide
                have gA : A.data.toList = Lib.itoa (U : Int) := by rw [hAl, Lib.itoa_nonneg, k2]
                have gI : I.data.toList = Lib.itoa (V : Int) := by rw [hIl, Lib.itoa_nonneg, ← i1]
                have gT : T.data.toList = Lib.itoa (Z : Int) := by rw [hTl, Lib.itoa_nonneg, ← t1]
                have c1 : (U : Int) * 12 = ((U * 12 : Nat) : Int) := by omega
                have c2 : ((U * 12 : Nat) : Int) + (V : Int) = ((U * 12 + V : Nat) : Int) := by omega
                have c3 : ((U * 12 + V : Nat) : Int) * 12 = (((U * 12 + V) * 12 : Nat) : Int) := by omega
                have c4 : (((U * 12 + V) * 12 : Nat) : Int) + (Z : Int) = (((U * 12 + V) * 12 + Z : Nat) : Int) := by omega
                have c5 : (((U * 12 + V) * 12 + Z : Nat) : Int) * 127 = ((((U * 12 + V) * 12 + Z) * 127 : Nat) : Int) := by omega
                have fN : ∀ v : Nat, v < 10 ^ 92 → fits (v : Int) := fun v h => fits_le_pow (k := 92) (by omega) (by rw [Int.natAbs_natCast]; exact h)
                have HM1 := hide (fun w hB hT => mmul_to (s := A) (t := ⟨#[49, 50]⟩) gA lit12 (fN _ (by omega)) (fits_lit (by decide)) (by rw [c1]; exact fN _ (by omega)) B w hB hT)
                rw [c1] at HM1
                have HA1 := hide (fun w hB hT => Add_good (s := strB (Lib.itoa ((U * 12 : Nat) : Int))) (t := I) (strB_list _) gI (fN _ (by omega)) (fN _ (by omega)) (by rw [c2]; exact fN _ (by omega)) B w hB hT)
                rw [c2] at HA1
                have HM2 := hide (fun w hB hT => mmul_to (s := strB (Lib.itoa ((U * 12 + V : Nat) : Int))) (t := ⟨#[49, 50]⟩) (strB_list _) lit12 (fN _ (by omega)) (fits_lit (by decide)) (by rw [c3]; exact fN _ (by omega)) B w hB hT)
                rw [c3] at HM2
                have HA2 := hide (fun w hB hT => Add_good (s := strB (Lib.itoa (((U * 12 + V) * 12 : Nat) : Int))) (t := T) (strB_list _) gT (fN _ (by omega)) (fN _ (by omega)) (by rw [c4]; exact fN _ (by omega)) B w hB hT)
                rw [c4] at HA2
                have HM3 := hide (fun w hB hT => mmul_to (s := strB (Lib.itoa (((U * 12 + V) * 12 + Z : Nat) : Int))) (t := ⟨#[49, 50, 55]⟩) (strB_list _) lit127 (fN _ (by omega)) (fits_lit (by decide)) (by rw [c5]; exact fN _ (by omega)) B w hB hT)
                rw [c5] at HM3
                have hwl : (((U * 12 + V) * 12 + Z) * 127) < 10 ^ 92 := by omega
                obtain ⟨K, hK⟩ : ∃ K, K = ((U * 12 + V) * 12 + Z) * 127 := ⟨_, rfl⟩
                rw [← hK] at HM3 hwl ⊢
                have HF := hide (fun w hB hT => HFR.out (strB (Lib.itoa (K : Int))) ⟨#[54, 48]⟩ 60 (by rw [strB_list, Lib.itoa_nonneg]; exact decDigits_dg _) (by rw [strB_size, Lib.itoa_nonneg]; exact (dec_len_le (by omega)).2 hwl) (by rw [lit60, show (60 : Int) = ((60 : Nat) : Int) from rfl, Lib.itoa_nonneg]) (by decide) (by decide) w hB hT)
                rw [strB_list, Lib.itoa_nonneg, dv_decDigits] at HF
                have hKt : strB (Lib.decDigits K) = strB (Lib.itoa (K : Int)) := by rw [Lib.itoa_nonneg]
                rw [hKt] at HF
                obtain ⟨X, hX⟩ : ∃ X, X = strB (ratS (sgn neg ((K : Nat) / ((60 : Nat) : Rat)))) := ⟨_, rfl⟩
                rw [show pairV (ratS (sgn neg ((K : Nat) / ((60 : Nat) : Rat)))) 0 = .tuple #[.string X, .int .i64 0] by rw [hX]]
                rw [← hX] at HF
                obtain ⟨E1, hE1⟩ : ∃ X, X = strB (Lib.itoa ((U * 12 : Nat) : Int)) := ⟨_, rfl⟩
                obtain ⟨E2, hE2⟩ : ∃ X, X = strB (Lib.itoa ((U * 12 + V : Nat) : Int)) := ⟨_, rfl⟩
                obtain ⟨E3, hE3⟩ : ∃ X, X = strB (Lib.itoa (((U * 12 + V) * 12 : Nat) : Int)) := ⟨_, rfl⟩
                obtain ⟨E4, hE4⟩ : ∃ X, X = strB (Lib.itoa (((U * 12 + V) * 12 + Z : Nat) : Int)) := ⟨_, rfl⟩
                obtain ⟨E5, hE5⟩ : ∃ X, X = strB (Lib.itoa (K : Int)) := ⟨_, rfl⟩
                have HA1 : Hid (∀ w, B ≤ w.heap.size → P10 B w → Calls Tryz.prog 89 #[.string E1, .string I] w (Ret w (.tuple #[.string E2, .int .i64 0]))) := hide (by rw [hE1, hE2]; exact HA1.out)
                have HA2 : Hid (∀ w, B ≤ w.heap.size → P10 B w → Calls Tryz.prog 89 #[.string E3, .string T] w (Ret w (.tuple #[.string E4, .int .i64 0]))) := hide (by rw [hE3, hE4]; exact HA2.out)
                rw [← hE1] at HM1
                rw [← hE2, ← hE3] at HM2
                rw [← hE4, ← hE5] at HM3
                rw [← hE5] at HF
                clear k1 k2 k3 k4 k5 hk hqq hsz hsz2 hnum hWA hEq HDA HSM1 HSM2 HFR h34 h39 i1 i2 t1 t2 hU hV hZ hUb p1 p2 p3 gA gI gT c1 c2 c3 c4 c5 fN hwl hK hKt hX hE1 hE2 hE3 hE4 hE5
                clear hbad hgood hpe hok hq hok2 hq2 h90 hneg hL hLl hO hOl hOs hSG hT tz1 tz2 hal hbl ha hb hb39 hbl2 hsum hA hR hAl hAs hRl hRs hil htl hi ht ht34 htl2 hsum2 hI hT2 hIl hIs hTl hTs
                go_enter Tryz.func44, Tryz.ntmps44
                go_wp2_with fail
                refine (HSI.out).mono ?_
                rintro e w1 ⟨rfl, hb1⟩
                have HB1 := hide hb1
                clear hb1
                go_wp2_with fail
                refine (HC39.out _ (HT.out.on HB1.out hB)).mono ?_
                rintro e w2 ⟨rfl, hb2⟩
                have HB2 := hide (HB1.out.trans (hb2.mono HB1.out.size))
                clear hb2
                go_wp2_with fail
                refine (HC34.out _ (HT.out.on HB2.out hB)).mono ?_
                rintro e w3 ⟨rfl, hb3⟩
                have HB3 := hide (HB2.out.trans (hb3.mono HB2.out.size))
                clear hb3
                go_wp2_with fail
                refine (HD.out _).mono ?_
                rintro e w4 ⟨rfl, hb4⟩
                have HB4 := hide (HB3.out.trans (hb4.mono HB3.out.size))
                clear hb4
                go_wp2_with fail
                refine (HW.out _).mono ?_
                rintro e w5 ⟨rfl, hb5⟩
                have HB5 := hide (HB4.out.trans (hb5.mono HB4.out.size))
                clear hb5
                go_wp2_with fail
                refine (HS1.out _).mono ?_
                rintro e w6 ⟨rfl, hb6⟩
                have HB6 := hide (HB5.out.trans (hb6.mono HB5.out.size))
                clear hb6
                go_wp2_with fail
                refine (HS2.out _).mono ?_
                rintro e w7 ⟨rfl, hb7⟩
                have HB7 := hide (HB6.out.trans (hb7.mono HB6.out.size))
                clear hb7
                go_wp2_with fail
                refine (HM1.out _ (Nat.le_trans hB HB7.out.size) (HT.out.p10.on HB7.out hB)).mono ?_
                rintro e w8 ⟨rfl, hb8⟩
                have HB8 := hide (HB7.out.trans (hb8.mono HB7.out.size))
                clear hb8
                go_wp2_with fail
                refine (HA1.out _ (Nat.le_trans hB HB8.out.size) (HT.out.p10.on HB8.out hB)).mono ?_
                rintro e w9 ⟨rfl, hb9⟩
                have HB9 := hide (HB8.out.trans (hb9.mono HB8.out.size))
                clear hb9
                go_wp2_with fail
                refine (HM2.out _ (Nat.le_trans hB HB9.out.size) (HT.out.p10.on HB9.out hB)).mono ?_
                rintro e w10 ⟨rfl, hb10⟩
                have HB10 := hide (HB9.out.trans (hb10.mono HB9.out.size))
                clear hb10
                go_wp2_with fail
                refine (HA2.out _ (Nat.le_trans hB HB10.out.size) (HT.out.p10.on HB10.out hB)).mono ?_
                rintro e w11 ⟨rfl, hb11⟩
                have HB11 := hide (HB10.out.trans (hb11.mono HB10.out.size))
                clear hb11
                go_wp2_with fail
                refine (HM3.out _ (Nat.le_trans hB HB11.out.size) (HT.out.p10.on HB11.out hB)).mono ?_
                rintro e w12 ⟨rfl, hb12⟩
                have HB12 := hide (HB11.out.trans (hb12.mono HB11.out.size))
                clear hb12
                go_wp2_with fail
                refine (HF.out _ (Nat.le_trans hB HB12.out.size) (HT.out.on HB12.out hB)).mono ?_
                rintro e w13 ⟨rfl, hb13⟩
                have HB13 := hide (HB12.out.trans (hb13.mono HB12.out.size))
                clear hb13
                go_wp2_with fail
                refine bodyPost_ret (results_tmp2 rfl _ _ _) rfl ?_
                exact ⟨rfl, HB13.out⟩
            · have HS2 := hide (HSM2.out false (by simpa using k4))
              rw [hbad (fun h => k4 (hk.1 h).2.2.1)]
              clear k1 k2 k3 k4 hk hqq hsz hsz2 hnum hWA hEq HDA HSM1 HSM2 HFR h34 h39
              clear hbad hgood hpe hok hq hok2 hq2 h90 hneg hL hLl hO hOl hOs hSG hT tz1 tz2 hal hbl ha hb hb39 hbl2 hsum hA hR hAl hAs hRl hRs hil htl hi ht ht34 htl2 hsum2 hI hT2 hIl hIs hTl hTs
              go_enter Tryz.func44, Tryz.ntmps44
              go_wp2_with fail
              refine (HSI.out).mono ?_
              rintro e w1 ⟨rfl, hb1⟩
              have HB1 := hide hb1
              clear hb1
              go_wp2_with fail
              refine (HC39.out _ (HT.out.on HB1.out hB)).mono ?_
              rintro e w2 ⟨rfl, hb2⟩
              have HB2 := hide (HB1.out.trans (hb2.mono HB1.out.size))
              clear hb2
              go_wp2_with fail
              refine (HC34.out _ (HT.out.on HB2.out hB)).mono ?_
              rintro e w3 ⟨rfl, hb3⟩
              have HB3 := hide (HB2.out.trans (hb3.mono HB2.out.size))
              clear hb3
              go_wp2_with fail
              refine (HD.out _).mono ?_
              rintro e w4 ⟨rfl, hb4⟩
              have HB4 := hide (HB3.out.trans (hb4.mono HB3.out.size))
              clear hb4
              go_wp2_with fail
              refine (HW.out _).mono ?_
              rintro e w5 ⟨rfl, hb5⟩
              have HB5 := hide (HB4.out.trans (hb5.mono HB4.out.size))
              clear hb5
              go_wp2_with fail
              refine (HS1.out _).mono ?_
              rintro e w6 ⟨rfl, hb6⟩
              have HB6 := hide (HB5.out.trans (hb6.mono HB5.out.size))
              clear hb6
              go_wp2_with fail
              refine (HS2.out _).mono ?_
              rintro e w7 ⟨rfl, hb7⟩
              have HB7 := hide (HB6.out.trans (hb7.mono HB6.out.size))
              clear hb7
              go_wp2_with fail
              refine bodyPost_ret (results_tmp2 rfl _ _ _) rfl ?_
              exact ⟨rfl, HB7.out⟩
          · have HS1 := hide (HSM1.out false (by simpa using k3))
            rw [hbad (fun h => k3 (hk.1 h).2.1)]
            clear k1 k2 k3 hk hqq hsz hsz2 hnum hWA hEq HDA HSM1 HSM2 HFR h34 h39
            clear hbad hgood hpe hok hq hok2 hq2 h90 hneg hL hLl hO hOl hOs hSG hT tz1 tz2 hal hbl ha hb hb39 hbl2 hsum hA hR hAl hAs hRl hRs hil htl hi ht ht34 htl2 hsum2 hI hT2 hIl hIs hTl hTs
            go_enter Tryz.func44, Tryz.ntmps44
            go_wp2_with fail
            refine (HSI.out).mono ?_
            rintro e w1 ⟨rfl, hb1⟩
            have HB1 := hide hb1
            clear hb1
            go_wp2_with fail
            refine (HC39.out _ (HT.out.on HB1.out hB)).mono ?_
            rintro e w2 ⟨rfl, hb2⟩
            have HB2 := hide (HB1.out.trans (hb2.mono HB1.out.size))
            clear hb2
            go_wp2_with fail
            refine (HC34.out _ (HT.out.on HB2.out hB)).mono ?_
            rintro e w3 ⟨rfl, hb3⟩
            have HB3 := hide (HB2.out.trans (hb3.mono HB2.out.size))
            clear hb3
            go_wp2_with fail
            refine (HD.out _).mono ?_
            rintro e w4 ⟨rfl, hb4⟩
            have HB4 := hide (HB3.out.trans (hb4.mono HB3.out.size))
            clear hb4
            go_wp2_with fail
            refine (HW.out _).mono ?_
            rintro e w5 ⟨rfl, hb5⟩
            have HB5 := hide (HB4.out.trans (hb5.mono HB4.out.size))
            clear hb5
            go_wp2_with fail
            refine (HS1.out _).mono ?_
            rintro e w6 ⟨rfl, hb6⟩
            have HB6 := hide (HB5.out.trans (hb6.mono HB5.out.size))
            clear hb6
            go_wp2_with fail
            refine bodyPost_ret (results_tmp2 rfl _ _ _) rfl ?_
            exact ⟨rfl, HB6.out⟩
        · have hwn : (WA.toList != A.toList) = true := by
            rw [ByteArray.toList_eq, ByteArray.toList_eq, hWA, strB_list, hAl]
            simpa using k2
          have hwe : (WA.toList == A.toList) = false := by
            rw [ByteArray.toList_eq, ByteArray.toList_eq, hWA, strB_list, hAl]
            simpa using k2
          rw [hbad (fun h => k2 (numeral_iff.1 (hk.1 h).1).2)]
          clear k1 k2 hk hqq hsz hsz2 hWA HDA HSM1 HSM2 HFR h34 h39
          clear hbad hgood hpe hok hq hok2 hq2 h90 hneg hL hLl hO hOl hOs hSG hT tz1 tz2 hal hbl ha hb hb39 hbl2 hsum hA hR hAl hAs hRl hRs hil htl hi ht ht34 htl2 hsum2 hI hT2 hIl hIs hTl hTs
          go_enter Tryz.func44, Tryz.ntmps44
          go_wp2_with fail
          refine (HSI.out).mono ?_
          rintro e w1 ⟨rfl, hb1⟩
          have HB1 := hide hb1
          clear hb1
          go_wp2_with fail
          refine (HC39.out _ (HT.out.on HB1.out hB)).mono ?_
          rintro e w2 ⟨rfl, hb2⟩
          have HB2 := hide (HB1.out.trans (hb2.mono HB1.out.size))
          clear hb2
          go_wp2_with fail
          refine (HC34.out _ (HT.out.on HB2.out hB)).mono ?_
          rintro e w3 ⟨rfl, hb3⟩
          have HB3 := hide (HB2.out.trans (hb3.mono HB2.out.size))
          clear hb3
          go_wp2_with fail
          refine (HD.out _).mono ?_
          rintro e w4 ⟨rfl, hb4⟩
          have HB4 := hide (HB3.out.trans (hb4.mono HB3.out.size))
          clear hb4
          go_wp2_with fail
          refine (HW.out _).mono ?_
          rintro e w5 ⟨rfl, hb5⟩
          have HB5 := hide (HB4.out.trans (hb5.mono HB4.out.size))
          clear hb5
          go_wp2_with fail
          refine bodyPost_ret (results_tmp2 rfl _ _ _) rfl ?_
          exact ⟨rfl, HB5.out⟩
      · have HD := hide (HDA.out false (by simpa using k1))
        rw [hbad (fun h => k1 (numeral_iff.1 (hk.1 h).1).1)]
        clear k1 hk hqq hsz hsz2 HDA HSM1 HSM2 HFR h34 h39
        clear hbad hgood hpe hok hq hok2 hq2 h90 hneg hL hLl hO hOl hOs hSG hT tz1 tz2 hal hbl ha hb hb39 hbl2 hsum hA hR hAl hAs hRl hRs hil htl hi ht ht34 htl2 hsum2 hI hT2 hIl hIs hTl hTs
        go_enter Tryz.func44, Tryz.ntmps44
        go_wp2_with fail
        refine (HSI.out).mono ?_
        rintro e w1 ⟨rfl, hb1⟩
        have HB1 := hide hb1
        clear hb1
        go_wp2_with fail
        refine (HC39.out _ (HT.out.on HB1.out hB)).mono ?_
        rintro e w2 ⟨rfl, hb2⟩
        have HB2 := hide (HB1.out.trans (hb2.mono HB1.out.size))
        clear hb2
        go_wp2_with fail
        refine (HC34.out _ (HT.out.on HB2.out hB)).mono ?_
        rintro e w3 ⟨rfl, hb3⟩
        have HB3 := hide (HB2.out.trans (hb3.mono HB2.out.size))
        clear hb3
        go_wp2_with fail
        refine (HD.out _).mono ?_
        rintro e w4 ⟨rfl, hb4⟩
        have HB4 := hide (HB3.out.trans (hb4.mono HB3.out.size))
        clear hb4
        go_wp2_with fail
        refine bodyPost_ret (results_tmp2 rfl _ _ _) rfl ?_
        exact ⟨rfl, HB4.out⟩
    · rw [show decide (39 ∈ L) = true by simpa using h39] at HC39
      rw [show decide (34 ∈ b) = false by simpa using h34] at HC34
      rw [hbad (fun h => h34 (by have := (hok.1 h).2.1; rwa [hb39 h39] at this))]
      clear HDA HSM1 HSM2 HFR h34 h39
      clear hbad hgood hpe hok hq hok2 hq2 h90 hneg hL hLl hO hOl hOs hSG hT tz1 tz2 hal hbl ha hb hb39 hbl2 hsum hA hR hAl hAs hRl hRs hil htl hi ht ht34 htl2 hsum2 hI hT2 hIl hIs hTl hTs
      go_enter Tryz.func44, Tryz.ntmps44
      go_wp2_with fail
      refine (HSI.out).mono ?_
      rintro e w1 ⟨rfl, hb1⟩
      have HB1 := hide hb1
      clear hb1
      go_wp2_with fail
      refine (HC39.out _ (HT.out.on HB1.out hB)).mono ?_
      rintro e w2 ⟨rfl, hb2⟩
      have HB2 := hide (HB1.out.trans (hb2.mono HB1.out.size))
      clear hb2
      go_wp2_with fail
      refine (HC34.out _ (HT.out.on HB2.out hB)).mono ?_
      rintro e w3 ⟨rfl, hb3⟩
      have HB3 := hide (HB2.out.trans (hb3.mono HB2.out.size))
      clear hb3
      go_wp2_with fail
      refine bodyPost_ret (results_tmp2 rfl _ _ _) rfl ?_
      exact ⟨rfl, HB3.out⟩
  · rw [show decide (39 ∈ L) = false by simpa using h39] at HC39
    obtain ⟨is, his⟩ : ∃ is, is = decide (34 ∈ b) := ⟨_, rfl⟩
    rw [← his] at HC34
    rw [hbad (fun h => h39 (hok.1 h).1)]
    clear HDA HSM1 HSM2 HFR h39 his
    clear hbad hgood hpe hok hq hok2 hq2 h90 hneg hL hLl hO hOl hOs hSG hT tz1 tz2 hal hbl ha hb hb39 hbl2 hsum hA hR hAl hAs hRl hRs hil htl hi ht ht34 htl2 hsum2 hI hT2 hIl hIs hTl hTs
    go_enter Tryz.func44, Tryz.ntmps44
    go_wp2_with fail
    refine (HSI.out).mono ?_
    rintro e w1 ⟨rfl, hb1⟩
    have HB1 := hide hb1
    clear hb1
    go_wp2_with fail
    refine (HC39.out _ (HT.out.on HB1.out hB)).mono ?_
    rintro e w2 ⟨rfl, hb2⟩
    have HB2 := hide (HB1.out.trans (hb2.mono HB1.out.size))
    clear hb2
    go_wp2_with fail
    refine (HC34.out _ (HT.out.on HB2.out hB)).mono ?_
    rintro e w3 ⟨rfl, hb3⟩
    have HB3 := hide (HB2.out.trans (hb3.mono HB2.out.size))
    clear hb3
    go_wp2_with fail
    refine bodyPost_ret (results_tmp2 rfl _ _ _) rfl ?_
    exact ⟨rfl, HB3.out⟩
end Go.Proofs.YtfgjpnoeibiaaaaGreatDoor
namespace Go.KI
open Go
theorem dec_lit {l : List UInt8} (h0 : l ≠ []) (hd : ∀ c ∈ l, isDg c = true) (h1 : 1 < l.length → l.head? ≠ some 48) {u : Nat} (hu : dv l = u) : Lib.decDigits u = l := by
  rw [← hu]
  exact (dec_of h0 hd h1).symm
theorem sz_90 {q : Rat} (h : sz 90 q) : fitsQ q := sz_fits h (by rw [most_eq]; omega)
theorem chkM_short {q : Rat} (h : sz 90 q) : chkM (ratS q) = 0 := by
  unfold chkM
  rw [ratS_num, if_neg (by simp [chkQ_fits (sz_90 h)]), if_neg]
  have h1 := (dec_len_le (u := q.num.natAbs) (n := 90) (by omega)).2 h.1
  have h2 := (dec_len_le (u := q.den) (n := 90) (by omega)).2 h.2
  omega
end Go.KI
namespace Go.Proofs.YtfgjpnoeibiaaaaGreatDoor
open Go.RowKit Go.KP Go.KI Go.Shelf
attribute [local go_sem] Oper.semAt_some

theorem chkP_short {q : Rat} (h : sz 90 q) {p : Nat} (hp : p ≤ 100) : chkP (ratS q) (p : Int) = 0 := by
  unfold chkP
  rw [if_neg (by simp [chkM_short h]), if_neg (by omega)]
theorem mPrint_to {s : ByteArray} {q : Rat} {p : Nat} (h : s.data.toList = ratS q) (f : sz 90 q) (hp : p ≤ 100) (B : Nat) (w : World) (hB : B ≤ w.heap.size) (hT : PQ B w) :
    Calls Tryz.prog 37 #[.string s, .int .i64 p] w (Ret w (.tuple #[.string (strB (decT (unitsP q p) p)), .int .i64 0])) := by
  have h1 := mPrint_any s (good_len h (sz_90 f)) (p : Int) B w hB hT
  unfold printS at h1
  rw [h, chkP_short f hp, if_pos rfl, ratS_num, Int.toNat_natCast] at h1
  exact h1
theorem mExact_to {s : ByteArray} {q : Rat} {p : Nat} (h : s.data.toList = ratS q) (f : sz 90 q) (hp : p ≤ 100) (B : Nat) (w : World) (hB : B ≤ w.heap.size) (hT : PQ B w) :
    Calls Tryz.prog 39 #[.string s, .int .i64 p] w (Ret w (.tuple #[.bool (decide ((q.num * ((10 ^ p : Nat) : Int)).fmod (q.den : Int) = 0)), .int .i64 0])) := by
  have h1 := mExact_any s (good_len h (sz_90 f)) (p : Int) B w hB hT
  rw [h, chkP_short f hp, ratS_num, Int.toNat_natCast] at h1
  simpa using h1
theorem mFeet_to {s : ByteArray} {q : Rat} (h : s.data.toList = ratS q) (f : sz 90 q) (B : Nat) (w : World) (hB : B ≤ w.heap.size) (hT : PQ B w) :
    Calls Tryz.prog 42 #[.string s] w (Ret w (.tuple #[.string (strB (feetT (twelfths q))), .int .i64 0])) := by
  have h1 := mFeet_any s (good_len h (sz_90 f)) B w hB hT
  unfold feetS at h1
  rw [h, chkM_short f, if_pos rfl, ratS_num] at h1
  exact h1
theorem mParse_to {s : ByteArray} {q : Rat} (h1 : parseE s.data.toList = 0) (h2 : parseV s.data.toList = q) (B : Nat) (w : World) (hB : B ≤ w.heap.size) (hT : PQ B w) :
    Calls Tryz.prog 32 #[.string s] w (Ret w (.tuple #[.string (strB (ratS q)), .int .i64 0])) := by
  have h := mParse_any s B w hB hT
  unfold parseS at h
  rw [h1, if_pos rfl, h2] at h
  exact h
theorem mParseFeet_to {s : ByteArray} {q : Rat} (h1 : feetOK s.data.toList) (hl : s.size ≤ 90) (h2 : feetQ s.data.toList = q) (B : Nat) (w : World) (hB : B ≤ w.heap.size) (hT : PQ B w) :
    Calls Tryz.prog 44 #[.string s] w (Ret w (.tuple #[.string (strB (ratS q)), .int .i64 0])) := by
  have h := mParseFeet_any s B w hB hT
  have e : feetE s.data.toList = 0 := by unfold feetE; rw [bytes_len, if_neg (by omega), if_pos h1]
  unfold feetR at h
  rw [e, if_pos rfl, h2] at h
  exact h
abbrev q52 : Rat := ⟨5, 2, by decide, by decide⟩
abbrev qm52 : Rat := ⟨-5, 2, by decide, by decide⟩
abbrev q13 : Rat := ⟨1, 3, by decide, by decide⟩
abbrev q1275 : Rat := ⟨127, 5, by decide, by decide⟩
theorem dig1 (u : Nat) (h : u < 10) : Lib.decDigits u = [UInt8.ofNat (48 + u)] := Lib.decDigits_one h
theorem t52 : (⟨#[53, 47, 50]⟩ : ByteArray).data.toList = ratS q52 := by
  unfold ratS
  rw [if_neg (by decide), show q52.num = ((5 : Nat) : Int) from rfl, Lib.itoa_nonneg, dig1 5 (by omega), show q52.den = 2 from rfl, dig1 2 (by omega)]
  rfl
theorem tm52 : (⟨#[45, 53, 47, 50]⟩ : ByteArray).data.toList = ratS qm52 := by
  unfold ratS
  rw [if_neg (by decide), show qm52.num = -((5 : Nat) : Int) from rfl, Lib.itoa_neg 5 (by omega), dig1 5 (by omega), show qm52.den = 2 from rfl, dig1 2 (by omega)]
  rfl
theorem t13 : (⟨#[49, 47, 51]⟩ : ByteArray).data.toList = ratS q13 := by
  unfold ratS
  rw [if_neg (by decide), show q13.num = ((1 : Nat) : Int) from rfl, Lib.itoa_nonneg, dig1 1 (by omega), show q13.den = 3 from rfl, dig1 3 (by omega)]
  rfl
theorem t1275 : (⟨#[49, 50, 55, 47, 53]⟩ : ByteArray).data.toList = ratS q1275 := by
  unfold ratS
  rw [if_neg (by decide), show q1275.num = ((127 : Nat) : Int) from rfl, Lib.itoa_nonneg, dec_lit (l := [49, 50, 55]) (by decide) (by decide) (by decide) (u := 127) rfl, show q1275.den = 5 from rfl, dig1 5 (by omega)]
  rfl
theorem t1000 : (⟨#[49, 48, 48, 48]⟩ : ByteArray).data.toList = ratS ((1000 : Nat) : Rat) := by
  rw [ratS_nat, dec_lit (l := [49, 48, 48, 48]) (by decide) (by decide) (by decide) (u := 1000) rfl]
theorem p52 : strB (decT (unitsP q52 0) 0) = ⟨#[51]⟩ := by
  rw [show unitsP q52 0 = 3 from by decide]
  unfold decT
  rw [if_neg (by decide), if_pos rfl, show (3 : Int).natAbs = 3 from rfl, dig1 3 (by omega)]
  rfl
theorem pm52 : strB (decT (unitsP qm52 0) 0) = ⟨#[45, 50]⟩ := by
  rw [show unitsP qm52 0 = -2 from by decide]
  unfold decT
  rw [if_pos (by decide), if_pos rfl, show (-2 : Int).natAbs = 2 from rfl, dig1 2 (by omega)]
  rfl
theorem p13 : strB (decT (unitsP q13 2) 2) = ⟨#[48, 46, 51, 51]⟩ := by
  rw [show unitsP q13 2 = 33 from by decide]
  unfold decT own
  rw [show (33 : Int).natAbs = 33 from rfl, dec_lit (l := [51, 51]) (by decide) (by decide) (by decide) (u := 33) rfl, if_neg (by decide), if_neg (by decide)]
  rfl
theorem f1000 : strB (feetT (twelfths ((1000 : Nat) : Rat))) = ⟨#[51, 39, 51, 34, 52]⟩ := by
  rw [show twelfths ((1000 : Nat) : Rat) = 472 from by decide]
  unfold feetT
  rw [show (472 : Int).natAbs = 472 from rfl, dig1 (472 / 144) (by omega), dig1 (472 % 144 % 12) (by omega)]
  rfl
theorem f010 : feetOK (⟨#[48, 39, 49, 34, 48]⟩ : ByteArray).data.toList := by
  show feetOK [48, 39, 49, 34, 48]
  decide
theorem fq010 : feetQ (⟨#[48, 39, 49, 34, 48]⟩ : ByteArray).data.toList = q1275 := by
  show feetQ [48, 39, 49, 34, 48] = q1275
  decide +kernel
theorem mx2 (w : World) : (Builtin.max_ #[31, 31] 31 #[.int .i64 0, .int .i64 0]).run Tryz.prog w = .ok (.int .i64 0) w := by kernel_rfl
theorem mx3 (w : World) : (Builtin.max_ #[31, 31, 31] 31 #[.int .i64 0, .int .i64 0, .int .i64 0]).run Tryz.prog w = .ok (.int .i64 0) w := by kernel_rfl
theorem mx4 (w : World) : (Builtin.max_ #[31, 31, 31, 31] 31 #[.int .i64 0, .int .i64 0, .int .i64 0, .int .i64 0]).run Tryz.prog w = .ok (.int .i64 0) w := by kernel_rfl
theorem mx5 (w : World) : (Builtin.max_ #[31, 31, 31, 31, 31] 31 #[.int .i64 0, .int .i64 0, .int .i64 0, .int .i64 0, .int .i64 0]).run Tryz.prog w = .ok (.int .i64 0) w := by kernel_rfl
theorem mx6 (w : World) : (Builtin.max_ #[31, 31, 31, 31, 31, 31] 31 #[.int .i64 0, .int .i64 0, .int .i64 0, .int .i64 0, .int .i64 0, .int .i64 0]).run Tryz.prog w = .ok (.int .i64 0) w := by kernel_rfl
theorem mx7 (w : World) : (Builtin.max_ #[31, 31, 31, 31, 31, 31, 31] 31 #[.int .i64 0, .int .i64 0, .int .i64 0, .int .i64 0, .int .i64 0, .int .i64 0, .int .i64 0]).run Tryz.prog w = .ok (.int .i64 0) w := by kernel_rfl
theorem mx8 (w : World) : (Builtin.max_ #[31, 31, 31, 31, 31, 31, 31, 31] 31 #[.int .i64 0, .int .i64 0, .int .i64 0, .int .i64 0, .int .i64 0, .int .i64 0, .int .i64 0, .int .i64 0]).run Tryz.prog w = .ok (.int .i64 0) w := by kernel_rfl
set_option maxRecDepth 100000 in
set_option maxHeartbeats 4000000 in
theorem mawake_any (B : Nat) (w : World) (hB : B ≤ w.heap.size) (hT : PQ B w) :
    Calls Tryz.prog 31 #[] w (Ret w (.bool true)) := by
  have HT := hide hT
  have H1 := hide (mPrint_to t52 (by exact ⟨by decide +kernel, by decide +kernel⟩) (p := 0) (by omega) B w hB hT)
  rw [p52] at H1
  have H2 := hide (fun w hB hT => mPrint_to tm52 (by exact ⟨by decide +kernel, by decide +kernel⟩) (p := 0) (by omega) B w hB hT)
  rw [pm52] at H2
  have H3 := hide (fun w hB hT => mPrint_to t13 (by exact ⟨by decide +kernel, by decide +kernel⟩) (p := 2) (by omega) B w hB hT)
  rw [p13] at H3
  have H4 := hide (fun w hB hT => mFeet_to t1000 (by exact sz_nat (by decide +kernel) (by omega)) B w hB hT)
  rw [f1000] at H4
  have H5 := hide (fun w hB hT => mParseFeet_to f010 (by decide) fq010 B w hB hT)
  rw [show strB (ratS q1275) = ⟨#[49, 50, 55, 47, 53]⟩ by rw [← t1275]; rfl] at H5
  have hmx := mx4
  clear hT
  go_enter Tryz.func31, Tryz.ntmps31
  go_wp2_with fail
  refine H1.out.mono ?_
  rintro e w1 ⟨rfl, hb1⟩
  have HB1 := hide hb1
  clear hb1
  go_wp2_with fail
  refine (H2.out _ (Nat.le_trans hB HB1.out.size) (HT.out.on HB1.out hB)).mono ?_
  rintro e w2 ⟨rfl, hb2⟩
  have HB2 := hide (HB1.out.trans (hb2.mono HB1.out.size))
  clear hb2
  go_wp2_with fail
  refine (H3.out _ (Nat.le_trans hB HB2.out.size) (HT.out.on HB2.out hB)).mono ?_
  rintro e w3 ⟨rfl, hb3⟩
  have HB3 := hide (HB2.out.trans (hb3.mono HB2.out.size))
  clear hb3
  go_wp2_with fail
  refine (H4.out _ (Nat.le_trans hB HB3.out.size) (HT.out.on HB3.out hB)).mono ?_
  rintro e w4 ⟨rfl, hb4⟩
  have HB4 := hide (HB3.out.trans (hb4.mono HB3.out.size))
  clear hb4
  go_wp2_with fail
  refine (H5.out _ (Nat.le_trans hB HB4.out.size) (HT.out.on HB4.out hB)).mono ?_
  rintro e w5 ⟨rfl, hb5⟩
  have HB5 := hide (HB4.out.trans (hb5.mono HB4.out.size))
  clear hb5
  go_wp2_with fail
  go_ret
  exact ⟨rfl, HB5.out⟩
/-- Is a number fine? -/
def fineQ (l : List UInt8) : Prop := l.length ≤ 30 ∧ chkQ l = 0
instance (l : List UInt8) : Decidable (fineQ l) := inferInstanceAs (Decidable (_ ∧ _))
set_option maxRecDepth 100000 in
theorem mfine_any (s : ByteArray) (b : Bool) (hb : b = decide (fineQ s.data.toList)) (B : Nat) (w : World) (hB : B ≤ w.heap.size) (hT : PQ B w) :
    Calls Tryz.prog 30 #[.string s] w (Ret w (.bool b)) := by
  have hfe : fineQ s.data.toList ↔ (s.size ≤ 30 ∧ chkQ s.data.toList = 0) := by unfold fineQ; rw [bytes_len]
  by_cases h30 : s.size ≤ 30
  · have HC := hide (qCheck_any s (by omega) B w hB hT)
    have h30i : (s.size : Int) ≤ 30 := by omega
    have hway : ((chkQ s.data.toList == 0) = true ∧ b = true) ∨ ((chkQ s.data.toList == 0) = false ∧ b = false) := by
      by_cases h : chkQ s.data.toList = 0
      · exact .inl ⟨by rw [h]; rfl, by rw [hb, decide_eq_true_iff]; exact hfe.2 ⟨h30, h⟩⟩
      · exact .inr ⟨by simpa using h, by rw [hb, decide_eq_false_iff_not]; exact fun e => h (hfe.1 e).2⟩
    obtain ⟨E, hE⟩ : ∃ E, E = chkQ s.data.toList := ⟨_, rfl⟩
    rw [← hE] at HC hway
    clear hb hE hT h30 hfe
    rcases hway with ⟨h1, h2⟩ | ⟨h1, h2⟩
    all_goals
      subst h2
      go_enter Tryz.func30, Tryz.ntmps30
      go_wp2_with fail
      refine HC.out.mono ?_
      rintro e w1 ⟨rfl, hb1⟩
      have HB1 := hide hb1
      clear hb1
      go_wp2_with fail
      go_ret
      exact ⟨rfl, HB1.out⟩
  · have hbf : b = false := by rw [hb, decide_eq_false_iff_not]; exact fun e => h30 (hfe.1 e).1
    subst hbf
    have h30i : ((s.size : Int) ≤ 30) = False := eq_false (by omega)
    clear hb hT h30 hfe
    go_enter Tryz.func30, Tryz.ntmps30
    go_wp2_with fail
    go_ret
    exact ⟨rfl, Below.refl _ _⟩
/-- A fine number is the text of a number with few digits. -/
theorem fine_num {l : List UInt8} (h : fineQ l) : l = ratS (valQ l) ∧ sz 30 (valQ l) := ⟨(chkQ_ok h.2).1, chkQ_sz h.2 h.1 (by omega)⟩
end Go.Proofs.YtfgjpnoeibiaaaaGreatDoor
namespace Go.KI
open Go
theorem near2_mul (k : Int) {d : Int} (hd : 0 < d) : near2 (k * d) d = k := by
  obtain ⟨h1, h2⟩ := near2_spec (n := k * d) hd
  obtain ⟨z, hz⟩ : ∃ z, z = near2 (k * d) d := ⟨_, rfl⟩
  rw [← hz] at h1 h2 ⊢
  rw [Int.mul_comm k d, Int.mul_assoc] at h1 h2
  rcases Int.lt_trichotomy z k with h | h | h
  · have h3 : d * (z + 1) ≤ d * k := Int.mul_le_mul_of_nonneg_left (by omega) (by omega)
    rw [Int.mul_add, Int.mul_one] at h3
    omega
  · exact h
  · have h3 : d * (k + 1) ≤ d * z := Int.mul_le_mul_of_nonneg_left (by omega) (by omega)
    rw [Int.mul_add, Int.mul_one] at h3
    omega
theorem pow10_pos (p : Nat) : 0 < 10 ^ p := Nat.pow_pos (by omega)
/-- A fraction of units. -/
theorem units_divInt (m : Int) (p : Nat) : (m : Rat) / ((10 ^ p : Nat) : Rat) = Rat.divInt m ((10 ^ p : Nat) : Int) := (Rat.divInt_eq_div m ((10 ^ p : Nat) : Int)).symm
theorem eq_units (q : Rat) (m : Int) (p : Nat) : q = (m : Rat) / ((10 ^ p : Nat) : Rat) ↔ q.num * ((10 ^ p : Nat) : Int) = m * (q.den : Int) := by
  rw [units_divInt]
  have h := @Rat.divInt_eq_divInt_iff (q.den : Int) ((10 ^ p : Nat) : Int) q.num m (den_ne q) (by have := pow10_pos p; omega)
  rw [Rat.num_divInt_den] at h
  exact h
theorem decT_len (m : Int) (p k : Nat) (h : (Lib.decDigits m.natAbs).length ≤ k) : (decT m p).length ≤ p + k + 3 := by
  unfold decT
  have h2 : (own m p).length ≤ p + 1 + k := by
    unfold own
    rw [List.length_append, List.length_replicate]
    omega
  have h1 : (if m < 0 then [45] else [] : List UInt8).length ≤ 1 := by split <;> simp
  obtain ⟨A, hA⟩ : ∃ A, A = (if m < 0 then [45] else [] : List UInt8) := ⟨_, rfl⟩
  rw [← hA] at h1 ⊢
  rw [List.length_append]
  by_cases hp : p = 0
  · rw [if_pos hp]
    omega
  · rw [if_neg hp, List.length_append, List.length_cons, List.length_take, List.length_drop]
    omega
end Go.KI
namespace Go.Proofs.YtfgjpnoeibiaaaaGreatDoor
open Go.RowKit Go.KP Go.KI Go.Shelf
attribute [local go_sem] Oper.semAt_some

theorem exact_iff (q : Rat) (p : Nat) : (q.num * ((10 ^ p : Nat) : Int)).fmod (q.den : Int) = 0 ↔ q = (unitsP q p : Rat) / ((10 ^ p : Nat) : Rat) := by
  have dp := q.den_pos
  rw [eq_units]
  constructor
  · intro h
    obtain ⟨k, hk⟩ := Int.dvd_of_fmod_eq_zero h
    have e : unitsP q p = k := by
      unfold unitsP
      rw [hk, Int.mul_comm]
      exact near2_mul k (by omega)
    rw [e, hk, Int.mul_comm]
  · intro h
    rw [h]
    exact Int.fmod_eq_zero_of_dvd ⟨unitsP q p, Int.mul_comm _ _⟩
theorem exact_more (q : Rat) (p : Nat) (h : (q.num * ((10 ^ p : Nat) : Int)).fmod (q.den : Int) = 0) : (q.num * ((10 ^ (p + 1) : Nat) : Int)).fmod (q.den : Int) = 0 := by
  obtain ⟨k, hk⟩ := Int.dvd_of_fmod_eq_zero h
  refine Int.fmod_eq_zero_of_dvd ⟨k * 10, ?_⟩
  have e : ((10 ^ (p + 1) : Nat) : Int) = ((10 ^ p : Nat) : Int) * 10 := by
    rw [Nat.pow_succ, Int.natCast_mul]
    rfl
  rw [e, ← Int.mul_assoc, hk, Int.mul_assoc]
/-- What is printed of a short number is read as so many units. -/
theorem units_text {q : Rat} (h : sz 30 q) {p : Nat} (hp : p ≤ 21) : (decT (unitsP q p) p).length ≤ 90 ∧ (Lib.decDigits (unitsP q p).natAbs).length ≤ 53 := by
  have dp := q.den_pos
  have h1 := near2_abs (n := q.num * ((10 ^ p : Nat) : Int)) (d := (q.den : Int)) (by omega)
  have h2 : (q.num * ((10 ^ p : Nat) : Int)).natAbs < 10 ^ (30 + 22) := by
    rw [Int.natAbs_mul, Int.natAbs_natCast]
    exact mul_pow_lt h.1 (Nat.lt_of_le_of_lt (pow_le_i hp) (Nat.pow_lt_pow_right (by omega) (by omega)))
  have h3 := add_pow_lt h2 (show 1 < 10 ^ (30 + 22) by omega)
  have h4 : (Lib.decDigits (unitsP q p).natAbs).length ≤ 53 := (dec_len_le (by omega)).2 (by unfold unitsP; exact Nat.lt_of_le_of_lt h1 h3)
  have h5 := decT_len (unitsP q p) p 53 h4
  exact ⟨by omega, h4⟩
theorem sz_30_90 {q : Rat} (h : sz 30 q) : sz 90 q := sz_mono h (by omega)
set_option maxRecDepth 100000 in
set_option maxHeartbeats 4000000 in
theorem lawExact_any (s : ByteArray) (m : Nat) (hm : m < 256) (B : Nat) (w : World) (hB : B ≤ w.heap.size) (hT : PQ B w) :
    Calls Tryz.prog 8 #[.string s, .int .u8 m] w (Ret w (.bool true)) := by
  have HT := hide hT
  have HFI := hide (fun b hb => mfine_any s b hb B w hB hT)
  have HAW := hide (fun w hB hT => mawake_any B w hB hT)
  obtain ⟨p, hp⟩ : ∃ p, p = m % 21 := ⟨_, rfl⟩
  have hpb : p ≤ 20 := by omega
  have hmp : (m : Int) % 21 = (p : Int) := by omega
  have hm0 : 0 ≤ (m : Int) := by omega
  have hm1 : (m : Int) ≤ 255 := by omega
  have hp1 : (p : Int) ≤ 20 := by omega
  have hp0 : 0 ≤ (p : Int) := by omega
  by_cases hf : fineQ s.data.toList
  · have HF := hide (HFI.out true (by simpa using hf))
    obtain ⟨h1, h2⟩ := fine_num hf
    obtain ⟨q, hq⟩ : ∃ q, q = valQ s.data.toList := ⟨_, rfl⟩
    rw [← hq] at h1 h2
    have s9 := sz_30_90 h2
    have HE1 := hide (fun w hB hT => mExact_to h1 s9 (p := p) (by omega) B w hB hT)
    have HE2 := hide (fun w hB hT => mExact_to h1 s9 (p := p + 1) (by omega) B w hB hT)
    have HPR := hide (fun w hB hT => mPrint_to h1 s9 (p := p) (by omega) B w hB hT)
    obtain ⟨ut, _⟩ := units_text h2 (p := p) (by omega)
    obtain ⟨pe, pv⟩ := parse_decT (unitsP q p) p ut
    have HPA := hide (fun w hB hT => mParse_to (s := strB (decT (unitsP q p) p)) (q := (unitsP q p : Rat) / ((10 ^ p : Nat) : Rat)) (by rw [strB_list]; exact pe) (by rw [strB_list]; exact pv) B w hB hT)
    have hiff := exact_iff q p
    have hmore := exact_more q p
    obtain ⟨b1, hb1⟩ : ∃ b, b = decide ((q.num * ((10 ^ p : Nat) : Int)).fmod (q.den : Int) = 0) := ⟨_, rfl⟩
    obtain ⟨b2, hb2⟩ : ∃ b, b = decide ((q.num * ((10 ^ (p + 1) : Nat) : Int)).fmod (q.den : Int) = 0) := ⟨_, rfl⟩
    obtain ⟨D, hD⟩ : ∃ D, D = strB (decT (unitsP q p) p) := ⟨_, rfl⟩
    obtain ⟨Y, hY⟩ : ∃ D, D = strB (ratS ((unitsP q p : Rat) / ((10 ^ p : Nat) : Rat))) := ⟨_, rfl⟩
    rw [← hb1] at HE1
    rw [← hb2] at HE2
    rw [← hD] at HPR
    rw [← hD, ← hY] at HPA
    have hway : (b1 = true ∧ b2 = true ∧ Y = s) ∨ (b1 = false ∧ (s.toList == Y.toList) = false) := by
      by_cases h : (q.num * ((10 ^ p : Nat) : Int)).fmod (q.den : Int) = 0
      · refine .inl ⟨by rw [hb1, decide_eq_true_iff]; exact h, by rw [hb2, decide_eq_true_iff]; exact hmore h, ?_⟩
        apply bytes_eq
        rw [hY, strB_list, ← hiff.1 h, ← h1]
      · refine .inr ⟨by rw [hb1, decide_eq_false_iff_not]; exact h, ?_⟩
        rw [ByteArray.toList_eq, ByteArray.toList_eq, hY, strB_list]
        refine beq_false_of_ne fun e => h (hiff.2 ?_)
        rw [h1] at e
        exact ratS_inj e
    have hpp : (p : Int) + 1 = ((p + 1 : Nat) : Int) := rfl
    have HPP := hide hpp
    have hmx := mx4
    clear hf h1 h2 hq s9 ut pe pv hiff hmore hb1 hb2 hD hY hT hp hpb hpp HFI hm
    rcases hway with ⟨e1, e2, e3⟩ | ⟨e1, e3⟩
    case' inl =>
      subst e1
      subst e2
      subst e3
    case' inr => subst e1
    all_goals
      go_enter Tryz.func8, Tryz.ntmps8
      go_wp2_with fail
      refine HF.out.mono ?_
      rintro e w1 ⟨rfl, hb1⟩
      have HB1 := hide hb1
      clear hb1
      go_wp2_with fail
      refine (HE1.out _ (Nat.le_trans hB HB1.out.size) (HT.out.on HB1.out hB)).mono ?_
      rintro e w2 ⟨rfl, hb2⟩
      have HB2 := hide (HB1.out.trans (hb2.mono HB1.out.size))
      clear hb2
      go_wp2_with fail
      rw [HPP.out]
      refine (HE2.out _ (Nat.le_trans hB HB2.out.size) (HT.out.on HB2.out hB)).mono ?_
      rintro e w3 ⟨rfl, hb3⟩
      have HB3 := hide (HB2.out.trans (hb3.mono HB2.out.size))
      clear hb3
      go_wp2_with fail
      refine (HPR.out _ (Nat.le_trans hB HB3.out.size) (HT.out.on HB3.out hB)).mono ?_
      rintro e w4 ⟨rfl, hb4⟩
      have HB4 := hide (HB3.out.trans (hb4.mono HB3.out.size))
      clear hb4
      go_wp2_with fail
      refine (HPA.out _ (Nat.le_trans hB HB4.out.size) (HT.out.on HB4.out hB)).mono ?_
      rintro e w5 ⟨rfl, hb5⟩
      have HB5 := hide (HB4.out.trans (hb5.mono HB4.out.size))
      clear hb5
      go_wp2_with fail
      refine (HAW.out _ (Nat.le_trans hB HB5.out.size) (HT.out.on HB5.out hB)).mono ?_
      rintro e w6 ⟨rfl, hb6⟩
      have HB6 := hide (HB5.out.trans (hb6.mono HB5.out.size))
      clear hb6
      go_wp2_with fail
      go_ret
      exact ⟨rfl, HB6.out⟩
  · have HF := hide (HFI.out false (by simpa using hf))
    clear hf hT hp hpb HFI hm
    go_enter Tryz.func8, Tryz.ntmps8
    go_wp2_with fail
    refine HF.out.mono ?_
    rintro e w1 ⟨rfl, hb1⟩
    have HB1 := hide hb1
    clear hb1
    go_wp2_with fail
    refine (HAW.out _ (Nat.le_trans hB HB1.out.size) (HT.out.on HB1.out hB)).mono ?_
    rintro e w2 ⟨rfl, hb2⟩
    have HB2 := hide (HB1.out.trans (hb2.mono HB1.out.size))
    clear hb2
    go_wp2_with fail
    go_ret
    exact ⟨rfl, HB2.out⟩
end Go.Proofs.YtfgjpnoeibiaaaaGreatDoor
