/-
  Texts laid together.
-/
import Derived.Test.YtfcjaljaomknjaaGreatDoorME16
import Derived.Test.YtfcjaljaomknjaaGreatDoorME17
import Derived.Test.YtfcjaljaomknjaaGreatDoorME18
set_option maxRecDepth 100000
set_option maxHeartbeats 8000000
namespace Go.Proofs.YtfcjaljaomknjaaGreatDoor
open Go.RowKit Go.KP Go.KI Go.Shelf
attribute [local go_sem] Oper.semAt_some

theorem lit60 : (⟨#[54, 48]⟩ : ByteArray).data.toList = Lib.itoa 60 := by
  rw [show (60 : Int) = ((60 : Nat) : Int) from rfl, Lib.itoa_nonneg]
  exact dec_of (l := [54, 48]) (by decide) (by decide) (by decide)
theorem lit127 : (⟨#[49, 50, 55]⟩ : ByteArray).data.toList = Lib.itoa 127 := by
  rw [show (127 : Int) = ((127 : Nat) : Int) from rfl, Lib.itoa_nonneg]
  exact dec_of (l := [49, 50, 55]) (by decide) (by decide) (by decide)
theorem lit144 : (⟨#[49, 52, 52]⟩ : ByteArray).data.toList = Lib.itoa 144 := by
  rw [show (144 : Int) = ((144 : Nat) : Int) from rfl, Lib.itoa_nonneg]
  exact dec_of (l := [49, 52, 52]) (by decide) (by decide) (by decide)
theorem lit12 : (⟨#[49, 50]⟩ : ByteArray).data.toList = Lib.itoa 12 := by
  rw [show (12 : Int) = ((12 : Nat) : Int) from rfl, Lib.itoa_nonneg]
  exact dec_of (l := [49, 50]) (by decide) (by decide) (by decide)
theorem fits_lit {z : Int} (h : z.natAbs < 1000) : fits z := fits_le_pow (k := 3) (by omega) (by omega)
def twelfths (q : Rat) : Int := near2 (q.num * 60) ((q.den : Int) * 127)
def feetS (l : List UInt8) : List UInt8 := if chkM l = 0 then feetT (twelfths (valQ l)) else []
theorem feet_fits {n : Int} {d : Nat} (hn : n.natAbs < 10 ^ 90) (hd : d < 10 ^ 90) :
    fits n ∧ fits (d : Int) ∧ fits (n * 60) ∧ fits ((d : Int) * 127) ∧ fits (n * 60 * 2) ∧ fits (n * 60 * 2 + (d : Int) * 127) ∧ fits ((d : Int) * 127 * 2) := by
  have e : (10 : Nat) ^ 94 = 10000 * 10 ^ 90 := by rw [show 94 = 90 + 4 from rfl, Nat.pow_add, Nat.mul_comm]
  refine ⟨fits_le_pow (k := 90) (by omega) hn, fits_le_pow (k := 90) (by omega) (by rw [Int.natAbs_natCast]; exact hd), fits_le_pow (k := 94) (by omega) (by omega), fits_le_pow (k := 94) (by omega) (by omega), fits_le_pow (k := 94) (by omega) (by omega), fits_le_pow (k := 94) (by omega) (by omega), fits_le_pow (k := 94) (by omega) (by omega)⟩
theorem twelfths_len {q : Rat} (hn : q.num.natAbs < 10 ^ 90) : (twelfths q).natAbs < 10 ^ 94 := by
  have dp := q.den_pos
  have h1 := near2_abs (n := q.num * 60) (d := (q.den : Int) * 127) (by omega)
  have e : (10 : Nat) ^ 94 = 10000 * 10 ^ 90 := by rw [show 94 = 90 + 4 from rfl, Nat.pow_add, Nat.mul_comm]
  unfold twelfths
  omega
theorem nat_fdiv (u k : Nat) (hk : 0 < k) : ((u : Int)).fdiv (k : Int) = ((u / k : Nat) : Int) ∧ ((u : Int)).fmod (k : Int) = ((u % k : Nat) : Int) := by
  constructor
  · rw [Int.fdiv_eq_ediv_of_nonneg _ (by omega), Int.natCast_ediv]
  · rw [Int.fmod_eq_emod_of_nonneg _ (by omega), Int.natCast_emod]
theorem mFeet_any (s : ByteArray) (hs : s.size ≤ 1000000) (B : Nat) (w : World) (hB : B ≤ w.heap.size) (hT : PQ B w) :
    Calls Tryz.prog 15 #[.string s] w (Ret w (pairV (feetS s.data.toList) (chkM s.data.toList))) := by
  have HT := hide hT
  have HC := hide (mparts_any s hs B w hB hT)
  by_cases hM : chkM s.data.toList = 0
  · obtain ⟨_, n1, d1⟩ := chkM_ok hM
    rw [show partsM s.data.toList = tripV (Lib.itoa (valQ s.data.toList).num) (Lib.itoa ((valQ s.data.toList).den : Int)) 0 from if_pos hM] at HC
    rw [show feetS s.data.toList = feetT (twelfths (valQ s.data.toList)) from if_pos hM, hM]
    have dp := (valQ s.data.toList).den_pos
    obtain ⟨f1, f2, f3, f4, f5, f6, f7⟩ := feet_fits n1 d1
    have hul := twelfths_len n1
    have HM1 := hide (fun w hB hT => mmul_to (s := strB (Lib.itoa (valQ s.data.toList).num)) (t := ⟨#[54, 48]⟩) (strB_list _) lit60 f1 (fits_lit (by decide)) f3 B w hB hT)
    have HM2 := hide (fun w hB hT => mmul_to (s := strB (Lib.itoa ((valQ s.data.toList).den : Int))) (t := ⟨#[49, 50, 55]⟩) (strB_list _) lit127 f2 (fits_lit (by decide)) f4 B w hB hT)
    have HNE := hide (fun w hB hT => mnearest_to (s := strB (Lib.itoa ((valQ s.data.toList).num * 60))) (t := strB (Lib.itoa (((valQ s.data.toList).den : Int) * 127))) (strB_list _) (strB_list _) f3 f4 f5 f6 f7 (by omega) B w hB hT)
    obtain ⟨m, hm⟩ : ∃ m, m = twelfths (valQ s.data.toList) := ⟨_, rfl⟩
    rw [show near2 ((valQ s.data.toList).num * 60) (((valQ s.data.toList).den : Int) * 127) = m from hm.symm] at HNE
    rw [← hm] at hul ⊢
    have HSI := hide (fun w => msigned_any (strB (Lib.itoa m)) w)
    rw [strB_list, isNeg_itoa, digs_itoa] at HSI
    obtain ⟨u, hu⟩ : ∃ u, u = m.natAbs := ⟨_, rfl⟩
    rw [← hu] at hul HSI
    have fu : fits (u : Int) := fits_le_pow (k := 94) (by omega) (by rw [Int.natAbs_natCast]; exact hul)
    obtain ⟨q1, q2⟩ := nat_fdiv u 144 (by omega)
    obtain ⟨q3, q4⟩ := nat_fdiv (u % 144) 12 (by omega)
    have HD1 := hide (fun w hB hT => mdivide_to (s := strB (Lib.decDigits u)) (t := ⟨#[49, 52, 52]⟩) (x := (u : Int)) (y := 144) (by rw [strB_list, Lib.itoa_nonneg]) lit144 fu (fits_lit (by decide)) (by decide) B w hB hT)
    rw [show (144 : Int) = ((144 : Nat) : Int) from rfl, q1, q2] at HD1
    have HD2 := hide (fun w hB hT => mdivide_to (s := strB (Lib.itoa ((u % 144 : Nat) : Int))) (t := ⟨#[49, 50]⟩) (x := ((u % 144 : Nat) : Int)) (y := 12) (strB_list _) lit12 (fits_lit (by omega)) (fits_lit (by decide)) (by decide) B w hB hT)
    rw [show (12 : Int) = ((12 : Nat) : Int) from rfl, q3, q4] at HD2
    obtain ⟨N, hN⟩ : ∃ X, X = strB (Lib.itoa (valQ s.data.toList).num) := ⟨_, rfl⟩
    obtain ⟨D, hD⟩ : ∃ X, X = strB (Lib.itoa ((valQ s.data.toList).den : Int)) := ⟨_, rfl⟩
    obtain ⟨N2, hN2⟩ : ∃ X, X = strB (Lib.itoa ((valQ s.data.toList).num * 60)) := ⟨_, rfl⟩
    obtain ⟨D2, hD2⟩ : ∃ X, X = strB (Lib.itoa (((valQ s.data.toList).den : Int) * 127)) := ⟨_, rfl⟩
    obtain ⟨Q, hQ⟩ : ∃ X, X = strB (Lib.itoa m) := ⟨_, rfl⟩
    obtain ⟨S, hS⟩ : ∃ X, X = strB (sgnT (decide (m < 0))) := ⟨_, rfl⟩
    obtain ⟨O, hO⟩ : ∃ X, X = strB (Lib.decDigits u) := ⟨_, rfl⟩
    obtain ⟨A, hA⟩ : ∃ X, X = strB (Lib.itoa ((u / 144 : Nat) : Int)) := ⟨_, rfl⟩
    obtain ⟨R, hR⟩ : ∃ X, X = strB (Lib.itoa ((u % 144 : Nat) : Int)) := ⟨_, rfl⟩
    obtain ⟨I, hI⟩ : ∃ X, X = strB (Lib.itoa ((u % 144 / 12 : Nat) : Int)) := ⟨_, rfl⟩
    obtain ⟨T, hT2⟩ : ∃ X, X = strB (Lib.itoa ((u % 144 % 12 : Nat) : Int)) := ⟨_, rfl⟩
    have HC : Hid (Calls Tryz.prog 54 #[.string s] w (Ret w (.tuple #[.string N, .string D, .int .i64 0]))) := hide (by rw [hN, hD]; exact HC.out)
    rw [← hN, ← hN2] at HM1
    rw [← hD, ← hD2] at HM2
    rw [← hN2, ← hD2, ← hQ] at HNE
    rw [← hQ, ← hS, ← hO] at HSI
    rw [← hO, ← hA, ← hR] at HD1
    rw [← hR, ← hI, ← hT2] at HD2
    have hdl : ∀ v : Nat, v < 10 ^ 94 → (Lib.decDigits v).length ≤ 94 := fun v hv => (dec_len_le (by omega)).2 hv
    have hSs : S.size ≤ 1 := by rw [hS, strB_size]; unfold sgnT; split <;> simp
    have hAs : A.size ≤ 94 := by rw [hA, strB_size, Lib.itoa_nonneg]; exact hdl _ (by omega)
    have hIs : I.size ≤ 94 := by rw [hI, strB_size, Lib.itoa_nonneg]; exact hdl _ (by omega)
    have hTs : T.size ≤ 94 := by rw [hT2, strB_size, Lib.itoa_nonneg]; exact hdl _ (by omega)
    have v1 : (9223372036854775807 < S.size + A.size) = False := eq_false (by omega)
    have v2 : (9223372036854775807 < S.size + A.size + 1) = False := eq_false (by omega)
    have v3 : (9223372036854775807 < S.size + A.size + 1 + I.size) = False := eq_false (by omega)
    have v4 : (9223372036854775807 < S.size + A.size + 1 + I.size + 1) = False := eq_false (by omega)
    have v5 : (9223372036854775807 < S.size + A.size + 1 + I.size + 1 + T.size) = False := eq_false (by omega)
    have HX := hide (show strB (feetT m) = S ++ A ++ ⟨#[39]⟩ ++ I ++ ⟨#[34]⟩ ++ T by
      unfold feetT
      rw [← hu, hS, hA, hI, hT2, Lib.itoa_nonneg, Lib.itoa_nonneg, Lib.itoa_nonneg]
      apply bytes_eq
      simp [strB, sgnT])
    rw [show pairV (feetT m) 0 = .tuple #[.string (strB (feetT m)), .int .i64 0] from rfl, HX.out]
    clear hM n1 d1 dp f1 f2 f3 f4 f5 f6 f7 hm hN hD hN2 hD2 hQ hS hO hA hR hI hT2 hT hu hul fu q1 q2 q3 q4 hdl hSs hAs hIs hTs HX
    go_enter Tryz.func15, Tryz.ntmps15
    go_wp2_with fail
    refine HC.out.mono ?_
    rintro e w1 ⟨rfl, hb1⟩
    have HB1 := hide hb1
    clear hb1
    go_wp2_with fail
    refine (HM1.out _ (Nat.le_trans hB HB1.out.size) (HT.out.p10.on HB1.out hB)).mono ?_
    rintro e w2 ⟨rfl, hb2⟩
    have HB2 := hide (HB1.out.trans (hb2.mono HB1.out.size))
    clear hb2
    go_wp2_with fail
    refine (HM2.out _ (Nat.le_trans hB HB2.out.size) (HT.out.p10.on HB2.out hB)).mono ?_
    rintro e w3 ⟨rfl, hb3⟩
    have HB3 := hide (HB2.out.trans (hb3.mono HB2.out.size))
    clear hb3
    go_wp2_with fail
    refine (HNE.out _ (Nat.le_trans hB HB3.out.size) (HT.out.p10.on HB3.out hB)).mono ?_
    rintro e w4 ⟨rfl, hb4⟩
    have HB4 := hide (HB3.out.trans (hb4.mono HB3.out.size))
    clear hb4
    go_wp2_with fail
    refine (HSI.out _).mono ?_
    rintro e w5 ⟨rfl, hb5⟩
    have HB5 := hide (HB4.out.trans (hb5.mono HB4.out.size))
    clear hb5
    go_wp2_with fail
    refine (HD1.out _ (Nat.le_trans hB HB5.out.size) (HT.out.p10.on HB5.out hB)).mono ?_
    rintro e w6 ⟨rfl, hb6⟩
    have HB6 := hide (HB5.out.trans (hb6.mono HB5.out.size))
    clear hb6
    go_wp2_with fail
    refine (HD2.out _ (Nat.le_trans hB HB6.out.size) (HT.out.p10.on HB6.out hB)).mono ?_
    rintro e w7 ⟨rfl, hb7⟩
    have HB7 := hide (HB6.out.trans (hb7.mono HB6.out.size))
    clear hb7
    go_wp2_with fail
    refine bodyPost_ret (results_tmp2 rfl _ _ _) rfl ?_
    exact ⟨rfl, HB7.out⟩
  · rw [show partsM s.data.toList = tripV [] [] (chkM s.data.toList) from if_neg hM, tripV_err] at HC
    rw [show feetS s.data.toList = [] from if_neg hM, pairV_err]
    have hne : (chkM s.data.toList != 0) = true := by simpa using hM
    obtain ⟨E, hE⟩ : ∃ E, E = chkM s.data.toList := ⟨_, rfl⟩
    rw [← hE] at HC hne ⊢
    clear hE hM hT
    go_enter Tryz.func15, Tryz.ntmps15
    go_wp2_with fail
    refine HC.out.mono ?_
    rintro e w1 ⟨rfl, hb1⟩
    have HB1 := hide hb1
    clear hb1
    go_wp2_with fail
    refine bodyPost_ret (results_tmp2 rfl _ _ _) rfl ?_
    exact ⟨rfl, HB1.out⟩
end Go.Proofs.YtfcjaljaomknjaaGreatDoor
namespace Go.KI
open Go
def feetM (l : List UInt8) : Nat := (dv (ahead 39 (digs l)) * 12 + dv (ahead 34 (behind 39 (digs l)))) * 12 + dv (behind 34 (behind 39 (digs l)))
def feetQ (l : List UInt8) : Rat := sgn (isNeg l) (((feetM l * 127 : Nat) : Rat) / ((60 : Nat) : Rat))
def feetE (l : List UInt8) : Int := if 90 < l.length then 4 else if feetOK l then 0 else 3
def feetR (l : List UInt8) : List UInt8 := if feetE l = 0 then ratS (feetQ l) else []
theorem numeral_iff {l : List UInt8} : numeral l ↔ allDg l ∧ Lib.decDigits (dv l) = l := by
  constructor
  · intro h
    exact ⟨⟨h.1, List.all_eq_true.1 h.2.1⟩, (numeral_dec h).symm⟩
  · rintro ⟨h1, h2⟩
    rw [← h2]
    exact dec_numeral _
end Go.KI
namespace Go.Proofs.YtfcjaljaomknjaaGreatDoor
open Go.RowKit Go.KP Go.KI Go.Shelf
attribute [local go_sem] Oper.semAt_some

theorem msmall_any (s : ByteArray) (hs : s.size ≤ 1000000) (b : Bool) (hb : b = decide (smallT s.data.toList)) (w : World) :
    Calls Tryz.prog 58 #[.string s] w (Ret w (.bool b)) := by
  have HD := hide (fun b hb w => mdigits_any s hs b hb w)
  obtain ⟨t1, t2⟩ := lit_eq (s := s) (l := s.data.toList) (m := [49, 48]) rfl
  obtain ⟨u1, u2⟩ := lit_eq (s := s) (l := s.data.toList) (m := [49, 49]) rfl
  have hlen := bytes_len s
  by_cases h1 : s.size = 1
  · have z : ((s.size : Int) == 1) = true := by rw [h1]; rfl
    have n10 : s.data.toList ≠ [49, 48] := fun e => by rw [e] at hlen; simp at hlen; omega
    have n11 : s.data.toList ≠ [49, 49] := fun e => by rw [e] at hlen; simp at hlen; omega
    have e1 := t2 n10
    have e2 := u2 n11
    by_cases h2 : allDg s.data.toList
    · have hbt : b = true := by rw [hb, decide_eq_true_iff]; exact .inl ⟨by omega, h2⟩
      have HDA := hide (HD.out true (by simpa using h2))
      rw [hbt]
      clear t1 t2 u1 u2 hlen h1 n10 n11 h2 hb hbt HD
      go_enter Tryz.func58, Tryz.ntmps58
      go_wp2_with fail
      refine (HDA.out _).mono ?_
      rintro e w1 ⟨rfl, hb1⟩
      have HB1 := hide hb1
      clear hb1
      go_wp2_with fail
      go_ret
      exact ⟨rfl, HB1.out⟩
    · have hbt : b = false := by
        rw [hb, decide_eq_false_iff_not]
        rintro (h | h | h)
        · exact h2 h.2
        · exact n10 h
        · exact n11 h
      have HDA := hide (HD.out false (by simpa using h2))
      rw [hbt]
      clear t1 t2 u1 u2 hlen h1 n10 n11 h2 hb hbt HD
      go_enter Tryz.func58, Tryz.ntmps58
      go_wp2_with fail
      refine (HDA.out _).mono ?_
      rintro e w1 ⟨rfl, hb1⟩
      have HB1 := hide hb1
      clear hb1
      go_wp2_with fail
      go_ret
      exact ⟨rfl, HB1.out⟩
  · have z : ((s.size : Int) == 1) = false := by
      simp only [beq_eq_false_iff_ne, ne_eq]
      omega
    have hway : ((s.toList == [49, 48]) = true ∧ b = true) ∨ ((s.toList == [49, 48]) = false ∧ (s.toList == [49, 49]) = true ∧ b = true) ∨ ((s.toList == [49, 48]) = false ∧ (s.toList == [49, 49]) = false ∧ b = false) := by
      by_cases a1 : s.data.toList = [49, 48]
      · exact .inl ⟨t1 a1, by rw [hb, decide_eq_true_iff]; exact .inr (.inl a1)⟩
      · by_cases a2 : s.data.toList = [49, 49]
        · exact .inr (.inl ⟨t2 a1, u1 a2, by rw [hb, decide_eq_true_iff]; exact .inr (.inr a2)⟩)
        · refine .inr (.inr ⟨t2 a1, u2 a2, ?_⟩)
          rw [hb, decide_eq_false_iff_not]
          rintro (h | h | h)
          · exact h1 (by omega)
          · exact a1 h
          · exact a2 h
    clear t1 t2 u1 u2 hlen h1 hb HD
    rcases hway with ⟨e1, e2⟩ | ⟨e1, e3, e2⟩ | ⟨e1, e3, e2⟩
    all_goals
      subst e2
      go_enter Tryz.func58, Tryz.ntmps58
      go_wp2_with fail
      go_ret
      exact ⟨rfl, Below.refl _ _⟩
theorem mParseFeet_any (s : ByteArray) (B : Nat) (w : World) (hB : B ≤ w.heap.size) (hT : PQ B w) :
    Calls Tryz.prog 17 #[.string s] w (Ret w (pairV (feetR s.data.toList) (feetE s.data.toList))) := by
  have HT := hide hT
  by_cases h90 : 90 < s.size
  · have e : feetE s.data.toList = 4 := by unfold feetE; rw [if_pos (by rw [bytes_len]; exact h90)]
    rw [show feetR s.data.toList = [] by unfold feetR; rw [e, if_neg (by decide)], e, pairV_err]
    have hm : (90 : Int) < (s.size : Int) := by omega
    clear e h90 hT
    go_enter Tryz.func17, Tryz.ntmps17
    go_wp2_with fail
    refine bodyPost_ret (results_tmp2 rfl _ _ _) rfl ?_
    exact ⟨rfl, Below.refl _ _⟩
  have hm : ((90 : Int) < (s.size : Int)) = False := eq_false (by omega)
  have hpe : feetE s.data.toList = if feetOK s.data.toList then 0 else 3 := by
    unfold feetE
    rw [if_neg (by rw [bytes_len]; exact h90)]
  have hbad : ¬ feetOK s.data.toList → pairV (feetR s.data.toList) (feetE s.data.toList) = .tuple #[.string ⟨#[]⟩, .int .i64 3] := fun h => by
    have e : feetE s.data.toList = 3 := by rw [hpe, if_neg h]
    rw [show feetR s.data.toList = [] by unfold feetR; rw [e, if_neg (by decide)], e, pairV_err]
  have hgood : feetOK s.data.toList → pairV (feetR s.data.toList) (feetE s.data.toList) = pairV (ratS (feetQ s.data.toList)) 0 := fun h => by
    have e : feetE s.data.toList = 0 := by rw [hpe, if_pos h]
    rw [show feetR s.data.toList = ratS (feetQ s.data.toList) by unfold feetR; rw [if_pos e], e]
  have hok : feetOK s.data.toList ↔ (39 ∈ digs s.data.toList ∧ 34 ∈ KI.behind 39 (digs s.data.toList) ∧ numeral (KI.ahead 39 (digs s.data.toList)) ∧ smallT (KI.ahead 34 (KI.behind 39 (digs s.data.toList))) ∧ smallT (KI.behind 34 (KI.behind 39 (digs s.data.toList))) ∧ s.data.toList ≠ [45, 48, 39, 48, 34, 48]) := Iff.rfl
  have hq : feetQ s.data.toList = sgn (isNeg s.data.toList) (((((dv (KI.ahead 39 (digs s.data.toList)) * 12 + dv (KI.ahead 34 (KI.behind 39 (digs s.data.toList)))) * 12 + dv (KI.behind 34 (KI.behind 39 (digs s.data.toList)))) * 127 : Nat) : Rat) / ((60 : Nat) : Rat)) := rfl
  have HSI := hide (msigned_any s w)
  obtain ⟨neg, hneg⟩ : ∃ neg, neg = isNeg s.data.toList := ⟨_, rfl⟩
  obtain ⟨L, hL⟩ : ∃ L, L = digs s.data.toList := ⟨_, rfl⟩
  have hLl : L.length ≤ 90 := by rw [hL]; have := digs_le s.data.toList; rw [bytes_len] at this; omega
  rw [← hneg, ← hL] at HSI
  rw [← hL] at hok hq
  rw [← hneg] at hq
  obtain ⟨O, hO⟩ : ∃ O, O = strB L := ⟨_, rfl⟩
  have hOl : O.data.toList = L := by rw [hO, strB_list]
  have hOs : O.size ≤ 90 := by rw [← bytes_len, hOl]; exact hLl
  have HC39 := hide (fun w hT => scut_any 39 O (by omega) B w hT)
  rw [hOl] at HC39
  rw [← hO] at HSI
  obtain ⟨SG, hSG⟩ : ∃ O, O = strB (sgnT neg) := ⟨_, rfl⟩
  have HFR := hide (fun n d D h hn hd hD h0 w hB hT => mfraction_any neg n d D h hn hd hD h0 B w hB hT)
  rw [← hSG] at HSI HFR
  obtain ⟨tz1, tz2⟩ := lit_eq (s := s) (l := s.data.toList) (m := [45, 48, 39, 48, 34, 48]) rfl
  have hal := ahead_le 39 L
  have hbl := behind_le 39 L
  obtain ⟨a, ha⟩ : ∃ a, a = KI.ahead 39 L := ⟨_, rfl⟩
  obtain ⟨b, hb⟩ : ∃ a, a = if 39 ∈ L then KI.behind 39 L else [] := ⟨_, rfl⟩
  rw [← ha, ← hb] at HC39
  have hb39 : 39 ∈ L → KI.behind 39 L = b := fun h => by rw [hb, if_pos h]
  have hbl2 : b.length ≤ 90 := by
    rw [hb]
    split
    · omega
    · exact Nat.zero_le _
  have hsum : 39 ∈ L → a.length + b.length + 1 = L.length := fun h => by rw [ha, ← hb39 h]; exact both_le h
  rw [← ha] at hok hq hal
  obtain ⟨A, hA⟩ : ∃ O, O = strB a := ⟨_, rfl⟩
  obtain ⟨R, hR⟩ : ∃ O, O = strB b := ⟨_, rfl⟩
  have hAl : A.data.toList = a := by rw [hA, strB_list]
  have hAs : A.size = a.length := by rw [hA, strB_size]
  have hRl : R.data.toList = b := by rw [hR, strB_list]
  have hRs : R.size = b.length := by rw [hR, strB_size]
  rw [← hA, ← hR] at HC39
  have HC34 := hide (fun w hT => scut_any 34 R (by omega) B w hT)
  rw [hRl] at HC34
  have hil := ahead_le 34 b
  have htl := behind_le 34 b
  obtain ⟨i, hi⟩ : ∃ a, a = KI.ahead 34 b := ⟨_, rfl⟩
  obtain ⟨t, ht⟩ : ∃ a, a = if 34 ∈ b then KI.behind 34 b else [] := ⟨_, rfl⟩
  have ht34 : 34 ∈ b → KI.behind 34 b = t := fun h => by rw [ht, if_pos h]
  have htl2 : t.length ≤ 90 := by
    rw [ht]
    split
    · omega
    · exact Nat.zero_le _
  have hsum2 : 34 ∈ b → i.length + t.length + 1 = b.length := fun h => by rw [hi, ← ht34 h]; exact both_le h
  rw [← hi, ← ht] at HC34
  rw [← hi] at hil
  obtain ⟨I, hI⟩ : ∃ O, O = strB i := ⟨_, rfl⟩
  obtain ⟨T, hT2⟩ : ∃ O, O = strB t := ⟨_, rfl⟩
  have hIl : I.data.toList = i := by rw [hI, strB_list]
  have hIs : I.size = i.length := by rw [hI, strB_size]
  have hTl : T.data.toList = t := by rw [hT2, strB_list]
  have hTs : T.size = t.length := by rw [hT2, strB_size]
  rw [← hI, ← hT2] at HC34
  have hok2 : 39 ∈ L → 34 ∈ b → (feetOK s.data.toList ↔ numeral a ∧ smallT i ∧ smallT t ∧ s.data.toList ≠ [45, 48, 39, 48, 34, 48]) := fun h1 h2 => by
    rw [hok, hb39 h1, ht34 h2, ← hi]
    exact ⟨fun h => h.2.2, fun h => ⟨h1, h2, h⟩⟩
  have hq2 : 39 ∈ L → 34 ∈ b → feetQ s.data.toList = sgn neg (((((dv a * 12 + dv i) * 12 + dv t) * 127 : Nat) : Rat) / ((60 : Nat) : Rat)) := fun h1 h2 => by
    rw [hq, hb39 h1, ht34 h2, ← hi]
  have HDA := hide (fun x hx w => mdigits_any A (by omega) x hx w)
  rw [hAl] at HDA
  have HSM1 := hide (fun x hx w => msmall_any I (by omega) x hx w)
  rw [hIl] at HSM1
  have HSM2 := hide (fun x hx w => msmall_any T (by omega) x hx w)
  rw [hTl] at HSM2
  by_cases h39 : 39 ∈ L
  · by_cases h34 : 34 ∈ b
    · rw [show decide (39 ∈ L) = true by simpa using h39] at HC39
      rw [show decide (34 ∈ b) = true by simpa using h34] at HC34
      have hk := hok2 h39 h34
      have hqq := hq2 h39 h34
      have hsz := hsum h39
      have hsz2 := hsum2 h34
      by_cases k1 : allDg a
      · have HD := hide (HDA.out true (by simpa using k1))
        have HW := hide (fun w => mwhole_any A (by rw [hAl]; exact k1.2) w)
        rw [hAl] at HW
        obtain ⟨WA, hWA⟩ : ∃ W, W = strB (Lib.decDigits (dv a)) := ⟨_, rfl⟩
        rw [← hWA] at HW
        by_cases k2 : Lib.decDigits (dv a) = a
        · have hEq : WA = A := by rw [hWA, k2, hA]
          rw [hEq] at HW
          have hnum : numeral a := numeral_iff.2 ⟨k1, k2⟩
          have hwn : (A.toList != A.toList) = false := by simp
          by_cases k3 : smallT i
          · have HS1 := hide (HSM1.out true (by simpa using k3))
            by_cases k4 : smallT t
            · have HS2 := hide (HSM2.out true (by simpa using k4))
              by_cases k5 : s.data.toList = [45, 48, 39, 48, 34, 48]
              · have z := tz1 k5
                rw [hbad (fun h => (hk.1 h).2.2.2 k5)]
                clear k1 k2 k3 k4 k5 hk hqq hsz hsz2 hnum hWA hEq HDA HSM1 HSM2 HFR h34 h39
                clear hbad hgood hpe hok hq hok2 hq2 h90 hneg hL hLl hO hOl hOs hSG hT tz1 tz2 hal hbl ha hb hb39 hbl2 hsum hA hR hAl hAs hRl hRs hil htl hi ht ht34 htl2 hsum2 hI hT2 hIl hIs hTl hTs
                go_enter Tryz.func17, Tryz.ntmps17
                go_wp2_with fail
                refine (HSI.out).mono ?_
                rintro e w1 ⟨rfl, hb1⟩
                have HB1 := hide hb1
                clear hb1
                go_wp2_with fail
                refine (HC39.out _ (HT.out.on HB1.out hB)).mono ?_
                rintro e w2 ⟨rfl, hb2⟩
                have HB2 := hide (HB1.out.trans (hb2.mono HB1.out.size))
                clear hb2
                go_wp2_with fail
                refine (HC34.out _ (HT.out.on HB2.out hB)).mono ?_
                rintro e w3 ⟨rfl, hb3⟩
                have HB3 := hide (HB2.out.trans (hb3.mono HB2.out.size))
                clear hb3
                go_wp2_with fail
                refine (HD.out _).mono ?_
                rintro e w4 ⟨rfl, hb4⟩
                have HB4 := hide (HB3.out.trans (hb4.mono HB3.out.size))
                clear hb4
                go_wp2_with fail
                refine (HW.out _).mono ?_
                rintro e w5 ⟨rfl, hb5⟩
                have HB5 := hide (HB4.out.trans (hb5.mono HB4.out.size))
                clear hb5
                go_wp2_with fail
                refine (HS1.out _).mono ?_
                rintro e w6 ⟨rfl, hb6⟩
                have HB6 := hide (HB5.out.trans (hb6.mono HB5.out.size))
                clear hb6
                go_wp2_with fail
                refine (HS2.out _).mono ?_
                rintro e w7 ⟨rfl, hb7⟩
                have HB7 := hide (HB6.out.trans (hb7.mono HB6.out.size))
                clear hb7
                go_wp2_with fail
                refine bodyPost_ret (results_tmp2 rfl _ _ _) rfl ?_
                exact ⟨rfl, HB7.out⟩
              · have z := tz2 k5
                rw [hgood (hk.2 ⟨hnum, k3, k4, k5⟩), hqq]
                obtain ⟨i1, i2⟩ := smallT_dec k3
                obtain ⟨t1, t2⟩ := smallT_dec k4
                obtain ⟨U, hU⟩ : ∃ U, U = dv a := ⟨_, rfl⟩
                obtain ⟨V, hV⟩ : ∃ U, U = dv i := ⟨_, rfl⟩
                obtain ⟨Z, hZ⟩ : ∃ U, U = dv t := ⟨_, rfl⟩
                have hUb : U < 10 ^ 87 := by
                  rw [hU]
                  refine Nat.lt_of_lt_of_le (dv_lt _ k1.2) (Nat.pow_le_pow_right (by omega) ?_)
                  have l1 : 1 ≤ i.length := by rw [i1]; exact dec_len_pos _
                  omega
                rw [← hV] at i1 i2
                rw [← hZ] at t1 t2
                rw [← hU] at k2
                rw [← hU, ← hV, ← hZ]
                have p1 : (10 : Nat) ^ 91 = 10000 * 10 ^ 87 := by rw [show 91 = 87 + 4 from rfl, Nat.pow_add, Nat.mul_comm]
                have p2 : (10 : Nat) ^ 92 = 100000 * 10 ^ 87 := by rw [show 92 = 87 + 5 from rfl, Nat.pow_add, Nat.mul_comm]
                have p3 : 100 < 10 ^ 87 := by decide
                have gA : A.data.toList = Lib.itoa (U : Int) := by rw [hAl, Lib.itoa_nonneg, k2]
                have gI : I.data.toList = Lib.itoa (V : Int) := by rw [hIl, Lib.itoa_nonneg, ← i1]
                have gT : T.data.toList = Lib.itoa (Z : Int) := by rw [hTl, Lib.itoa_nonneg, ← t1]
                have c1 : (U : Int) * 12 = ((U * 12 : Nat) : Int) := by omega
                have c2 : ((U * 12 : Nat) : Int) + (V : Int) = ((U * 12 + V : Nat) : Int) := by omega
                have c3 : ((U * 12 + V : Nat) : Int) * 12 = (((U * 12 + V) * 12 : Nat) : Int) := by omega
                have c4 : (((U * 12 + V) * 12 : Nat) : Int) + (Z : Int) = (((U * 12 + V) * 12 + Z : Nat) : Int) := by omega
                have c5 : (((U * 12 + V) * 12 + Z : Nat) : Int) * 127 = ((((U * 12 + V) * 12 + Z) * 127 : Nat) : Int) := by omega
                have fN : ∀ v : Nat, v < 10 ^ 92 → fits (v : Int) := fun v h => fits_le_pow (k := 92) (by omega) (by rw [Int.natAbs_natCast]; exact h)
                have HM1 := hide (fun w hB hT => mmul_to (s := A) (t := ⟨#[49, 50]⟩) gA lit12 (fN _ (by omega)) (fits_lit (by decide)) (by rw [c1]; exact fN _ (by omega)) B w hB hT)
                rw [c1] at HM1
                have HA1 := hide (fun w hB hT => Add_good (s := strB (Lib.itoa ((U * 12 : Nat) : Int))) (t := I) (strB_list _) gI (fN _ (by omega)) (fN _ (by omega)) (by rw [c2]; exact fN _ (by omega)) B w hB hT)
                rw [c2] at HA1
                have HM2 := hide (fun w hB hT => mmul_to (s := strB (Lib.itoa ((U * 12 + V : Nat) : Int))) (t := ⟨#[49, 50]⟩) (strB_list _) lit12 (fN _ (by omega)) (fits_lit (by decide)) (by rw [c3]; exact fN _ (by omega)) B w hB hT)
                rw [c3] at HM2
                have HA2 := hide (fun w hB hT => Add_good (s := strB (Lib.itoa (((U * 12 + V) * 12 : Nat) : Int))) (t := T) (strB_list _) gT (fN _ (by omega)) (fN _ (by omega)) (by rw [c4]; exact fN _ (by omega)) B w hB hT)
                rw [c4] at HA2
                have HM3 := hide (fun w hB hT => mmul_to (s := strB (Lib.itoa (((U * 12 + V) * 12 + Z : Nat) : Int))) (t := ⟨#[49, 50, 55]⟩) (strB_list _) lit127 (fN _ (by omega)) (fits_lit (by decide)) (by rw [c5]; exact fN _ (by omega)) B w hB hT)
                rw [c5] at HM3
                have hwl : (((U * 12 + V) * 12 + Z) * 127) < 10 ^ 92 := by omega
                obtain ⟨K, hK⟩ : ∃ K, K = ((U * 12 + V) * 12 + Z) * 127 := ⟨_, rfl⟩
                rw [← hK] at HM3 hwl ⊢
                have HF := hide (fun w hB hT => HFR.out (strB (Lib.itoa (K : Int))) ⟨#[54, 48]⟩ 60 (by rw [strB_list, Lib.itoa_nonneg]; exact decDigits_dg _) (by rw [strB_size, Lib.itoa_nonneg]; exact (dec_len_le (by omega)).2 hwl) (by rw [lit60, show (60 : Int) = ((60 : Nat) : Int) from rfl, Lib.itoa_nonneg]) (by decide) (by decide) w hB hT)
                rw [strB_list, Lib.itoa_nonneg, dv_decDigits] at HF
                have hKt : strB (Lib.decDigits K) = strB (Lib.itoa (K : Int)) := by rw [Lib.itoa_nonneg]
                rw [hKt] at HF
                obtain ⟨X, hX⟩ : ∃ X, X = strB (ratS (sgn neg ((K : Nat) / ((60 : Nat) : Rat)))) := ⟨_, rfl⟩
                rw [show pairV (ratS (sgn neg ((K : Nat) / ((60 : Nat) : Rat)))) 0 = .tuple #[.string X, .int .i64 0] by rw [hX]]
                rw [← hX] at HF
                obtain ⟨E1, hE1⟩ : ∃ X, X = strB (Lib.itoa ((U * 12 : Nat) : Int)) := ⟨_, rfl⟩
                obtain ⟨E2, hE2⟩ : ∃ X, X = strB (Lib.itoa ((U * 12 + V : Nat) : Int)) := ⟨_, rfl⟩
                obtain ⟨E3, hE3⟩ : ∃ X, X = strB (Lib.itoa (((U * 12 + V) * 12 : Nat) : Int)) := ⟨_, rfl⟩
                obtain ⟨E4, hE4⟩ : ∃ X, X = strB (Lib.itoa (((U * 12 + V) * 12 + Z : Nat) : Int)) := ⟨_, rfl⟩
                obtain ⟨E5, hE5⟩ : ∃ X, X = strB (Lib.itoa (K : Int)) := ⟨_, rfl⟩
                have HA1 : Hid (∀ w, B ≤ w.heap.size → P10 B w → Calls Tryz.prog 59 #[.string E1, .string I] w (Ret w (.tuple #[.string E2, .int .i64 0]))) := hide (by rw [hE1, hE2]; exact HA1.out)
                have HA2 : Hid (∀ w, B ≤ w.heap.size → P10 B w → Calls Tryz.prog 59 #[.string E3, .string T] w (Ret w (.tuple #[.string E4, .int .i64 0]))) := hide (by rw [hE3, hE4]; exact HA2.out)
                rw [← hE1] at HM1
                rw [← hE2, ← hE3] at HM2
                rw [← hE4, ← hE5] at HM3
                rw [← hE5] at HF
                clear k1 k2 k3 k4 k5 hk hqq hsz hsz2 hnum hWA hEq HDA HSM1 HSM2 HFR h34 h39 i1 i2 t1 t2 hU hV hZ hUb p1 p2 p3 gA gI gT c1 c2 c3 c4 c5 fN hwl hK hKt hX hE1 hE2 hE3 hE4 hE5
                clear hbad hgood hpe hok hq hok2 hq2 h90 hneg hL hLl hO hOl hOs hSG hT tz1 tz2 hal hbl ha hb hb39 hbl2 hsum hA hR hAl hAs hRl hRs hil htl hi ht ht34 htl2 hsum2 hI hT2 hIl hIs hTl hTs
                go_enter Tryz.func17, Tryz.ntmps17
                go_wp2_with fail
                refine (HSI.out).mono ?_
                rintro e w1 ⟨rfl, hb1⟩
                have HB1 := hide hb1
                clear hb1
                go_wp2_with fail
                refine (HC39.out _ (HT.out.on HB1.out hB)).mono ?_
                rintro e w2 ⟨rfl, hb2⟩
                have HB2 := hide (HB1.out.trans (hb2.mono HB1.out.size))
                clear hb2
                go_wp2_with fail
                refine (HC34.out _ (HT.out.on HB2.out hB)).mono ?_
                rintro e w3 ⟨rfl, hb3⟩
                have HB3 := hide (HB2.out.trans (hb3.mono HB2.out.size))
                clear hb3
                go_wp2_with fail
                refine (HD.out _).mono ?_
                rintro e w4 ⟨rfl, hb4⟩
                have HB4 := hide (HB3.out.trans (hb4.mono HB3.out.size))
                clear hb4
                go_wp2_with fail
                refine (HW.out _).mono ?_
                rintro e w5 ⟨rfl, hb5⟩
                have HB5 := hide (HB4.out.trans (hb5.mono HB4.out.size))
                clear hb5
                go_wp2_with fail
                refine (HS1.out _).mono ?_
                rintro e w6 ⟨rfl, hb6⟩
                have HB6 := hide (HB5.out.trans (hb6.mono HB5.out.size))
                clear hb6
                go_wp2_with fail
                refine (HS2.out _).mono ?_
                rintro e w7 ⟨rfl, hb7⟩
                have HB7 := hide (HB6.out.trans (hb7.mono HB6.out.size))
                clear hb7
                go_wp2_with fail
                refine (HM1.out _ (Nat.le_trans hB HB7.out.size) (HT.out.p10.on HB7.out hB)).mono ?_
                rintro e w8 ⟨rfl, hb8⟩
                have HB8 := hide (HB7.out.trans (hb8.mono HB7.out.size))
                clear hb8
                go_wp2_with fail
                refine (HA1.out _ (Nat.le_trans hB HB8.out.size) (HT.out.p10.on HB8.out hB)).mono ?_
                rintro e w9 ⟨rfl, hb9⟩
                have HB9 := hide (HB8.out.trans (hb9.mono HB8.out.size))
                clear hb9
                go_wp2_with fail
                refine (HM2.out _ (Nat.le_trans hB HB9.out.size) (HT.out.p10.on HB9.out hB)).mono ?_
                rintro e w10 ⟨rfl, hb10⟩
                have HB10 := hide (HB9.out.trans (hb10.mono HB9.out.size))
                clear hb10
                go_wp2_with fail
                refine (HA2.out _ (Nat.le_trans hB HB10.out.size) (HT.out.p10.on HB10.out hB)).mono ?_
                rintro e w11 ⟨rfl, hb11⟩
                have HB11 := hide (HB10.out.trans (hb11.mono HB10.out.size))
                clear hb11
                go_wp2_with fail
                refine (HM3.out _ (Nat.le_trans hB HB11.out.size) (HT.out.p10.on HB11.out hB)).mono ?_
                rintro e w12 ⟨rfl, hb12⟩
                have HB12 := hide (HB11.out.trans (hb12.mono HB11.out.size))
                clear hb12
                go_wp2_with fail
                refine (HF.out _ (Nat.le_trans hB HB12.out.size) (HT.out.on HB12.out hB)).mono ?_
                rintro e w13 ⟨rfl, hb13⟩
                have HB13 := hide (HB12.out.trans (hb13.mono HB12.out.size))
                clear hb13
                go_wp2_with fail
                refine bodyPost_ret (results_tmp2 rfl _ _ _) rfl ?_
                exact ⟨rfl, HB13.out⟩
            · have HS2 := hide (HSM2.out false (by simpa using k4))
              rw [hbad (fun h => k4 (hk.1 h).2.2.1)]
              clear k1 k2 k3 k4 hk hqq hsz hsz2 hnum hWA hEq HDA HSM1 HSM2 HFR h34 h39
              clear hbad hgood hpe hok hq hok2 hq2 h90 hneg hL hLl hO hOl hOs hSG hT tz1 tz2 hal hbl ha hb hb39 hbl2 hsum hA hR hAl hAs hRl hRs hil htl hi ht ht34 htl2 hsum2 hI hT2 hIl hIs hTl hTs
              go_enter Tryz.func17, Tryz.ntmps17
              go_wp2_with fail
              refine (HSI.out).mono ?_
              rintro e w1 ⟨rfl, hb1⟩
              have HB1 := hide hb1
              clear hb1
              go_wp2_with fail
              refine (HC39.out _ (HT.out.on HB1.out hB)).mono ?_
              rintro e w2 ⟨rfl, hb2⟩
              have HB2 := hide (HB1.out.trans (hb2.mono HB1.out.size))
              clear hb2
              go_wp2_with fail
              refine (HC34.out _ (HT.out.on HB2.out hB)).mono ?_
              rintro e w3 ⟨rfl, hb3⟩
              have HB3 := hide (HB2.out.trans (hb3.mono HB2.out.size))
              clear hb3
              go_wp2_with fail
              refine (HD.out _).mono ?_
              rintro e w4 ⟨rfl, hb4⟩
              have HB4 := hide (HB3.out.trans (hb4.mono HB3.out.size))
              clear hb4
              go_wp2_with fail
              refine (HW.out _).mono ?_
              rintro e w5 ⟨rfl, hb5⟩
              have HB5 := hide (HB4.out.trans (hb5.mono HB4.out.size))
              clear hb5
              go_wp2_with fail
              refine (HS1.out _).mono ?_
              rintro e w6 ⟨rfl, hb6⟩
              have HB6 := hide (HB5.out.trans (hb6.mono HB5.out.size))
              clear hb6
              go_wp2_with fail
              refine (HS2.out _).mono ?_
              rintro e w7 ⟨rfl, hb7⟩
              have HB7 := hide (HB6.out.trans (hb7.mono HB6.out.size))
              clear hb7
              go_wp2_with fail
              refine bodyPost_ret (results_tmp2 rfl _ _ _) rfl ?_
              exact ⟨rfl, HB7.out⟩
          · have HS1 := hide (HSM1.out false (by simpa using k3))
            rw [hbad (fun h => k3 (hk.1 h).2.1)]
            clear k1 k2 k3 hk hqq hsz hsz2 hnum hWA hEq HDA HSM1 HSM2 HFR h34 h39
            clear hbad hgood hpe hok hq hok2 hq2 h90 hneg hL hLl hO hOl hOs hSG hT tz1 tz2 hal hbl ha hb hb39 hbl2 hsum hA hR hAl hAs hRl hRs hil htl hi ht ht34 htl2 hsum2 hI hT2 hIl hIs hTl hTs
            go_enter Tryz.func17, Tryz.ntmps17
            go_wp2_with fail
            refine (HSI.out).mono ?_
            rintro e w1 ⟨rfl, hb1⟩
            have HB1 := hide hb1
            clear hb1
            go_wp2_with fail
            refine (HC39.out _ (HT.out.on HB1.out hB)).mono ?_
            rintro e w2 ⟨rfl, hb2⟩
            have HB2 := hide (HB1.out.trans (hb2.mono HB1.out.size))
            clear hb2
            go_wp2_with fail
            refine (HC34.out _ (HT.out.on HB2.out hB)).mono ?_
            rintro e w3 ⟨rfl, hb3⟩
            have HB3 := hide (HB2.out.trans (hb3.mono HB2.out.size))
            clear hb3
            go_wp2_with fail
            refine (HD.out _).mono ?_
            rintro e w4 ⟨rfl, hb4⟩
            have HB4 := hide (HB3.out.trans (hb4.mono HB3.out.size))
            clear hb4
            go_wp2_with fail
            refine (HW.out _).mono ?_
            rintro e w5 ⟨rfl, hb5⟩
            have HB5 := hide (HB4.out.trans (hb5.mono HB4.out.size))
            clear hb5
            go_wp2_with fail
            refine (HS1.out _).mono ?_
            rintro e w6 ⟨rfl, hb6⟩
            have HB6 := hide (HB5.out.trans (hb6.mono HB5.out.size))
            clear hb6
            go_wp2_with fail
            refine bodyPost_ret (results_tmp2 rfl _ _ _) rfl ?_
            exact ⟨rfl, HB6.out⟩
        · have hwn : (WA.toList != A.toList) = true := by
            rw [ByteArray.toList_eq, ByteArray.toList_eq, hWA, strB_list, hAl]
            simpa using k2
          have hwe : (WA.toList == A.toList) = false := by
            rw [ByteArray.toList_eq, ByteArray.toList_eq, hWA, strB_list, hAl]
            simpa using k2
          rw [hbad (fun h => k2 (numeral_iff.1 (hk.1 h).1).2)]
          clear k1 k2 hk hqq hsz hsz2 hWA HDA HSM1 HSM2 HFR h34 h39
          clear hbad hgood hpe hok hq hok2 hq2 h90 hneg hL hLl hO hOl hOs hSG hT tz1 tz2 hal hbl ha hb hb39 hbl2 hsum hA hR hAl hAs hRl hRs hil htl hi ht ht34 htl2 hsum2 hI hT2 hIl hIs hTl hTs
          go_enter Tryz.func17, Tryz.ntmps17
          go_wp2_with fail
          refine (HSI.out).mono ?_
          rintro e w1 ⟨rfl, hb1⟩
          have HB1 := hide hb1
          clear hb1
          go_wp2_with fail
          refine (HC39.out _ (HT.out.on HB1.out hB)).mono ?_
          rintro e w2 ⟨rfl, hb2⟩
          have HB2 := hide (HB1.out.trans (hb2.mono HB1.out.size))
          clear hb2
          go_wp2_with fail
          refine (HC34.out _ (HT.out.on HB2.out hB)).mono ?_
          rintro e w3 ⟨rfl, hb3⟩
          have HB3 := hide (HB2.out.trans (hb3.mono HB2.out.size))
          clear hb3
          go_wp2_with fail
          refine (HD.out _).mono ?_
          rintro e w4 ⟨rfl, hb4⟩
          have HB4 := hide (HB3.out.trans (hb4.mono HB3.out.size))
          clear hb4
          go_wp2_with fail
          refine (HW.out _).mono ?_
          rintro e w5 ⟨rfl, hb5⟩
          have HB5 := hide (HB4.out.trans (hb5.mono HB4.out.size))
          clear hb5
          go_wp2_with fail
          refine bodyPost_ret (results_tmp2 rfl _ _ _) rfl ?_
          exact ⟨rfl, HB5.out⟩
      · have HD := hide (HDA.out false (by simpa using k1))
        rw [hbad (fun h => k1 (numeral_iff.1 (hk.1 h).1).1)]
        clear k1 hk hqq hsz hsz2 HDA HSM1 HSM2 HFR h34 h39
        clear hbad hgood hpe hok hq hok2 hq2 h90 hneg hL hLl hO hOl hOs hSG hT tz1 tz2 hal hbl ha hb hb39 hbl2 hsum hA hR hAl hAs hRl hRs hil htl hi ht ht34 htl2 hsum2 hI hT2 hIl hIs hTl hTs
        go_enter Tryz.func17, Tryz.ntmps17
        go_wp2_with fail
        refine (HSI.out).mono ?_
        rintro e w1 ⟨rfl, hb1⟩
        have HB1 := hide hb1
        clear hb1
        go_wp2_with fail
        refine (HC39.out _ (HT.out.on HB1.out hB)).mono ?_
        rintro e w2 ⟨rfl, hb2⟩
        have HB2 := hide (HB1.out.trans (hb2.mono HB1.out.size))
        clear hb2
        go_wp2_with fail
        refine (HC34.out _ (HT.out.on HB2.out hB)).mono ?_
        rintro e w3 ⟨rfl, hb3⟩
        have HB3 := hide (HB2.out.trans (hb3.mono HB2.out.size))
        clear hb3
        go_wp2_with fail
        refine (HD.out _).mono ?_
        rintro e w4 ⟨rfl, hb4⟩
        have HB4 := hide (HB3.out.trans (hb4.mono HB3.out.size))
        clear hb4
        go_wp2_with fail
        refine bodyPost_ret (results_tmp2 rfl _ _ _) rfl ?_
        exact ⟨rfl, HB4.out⟩
    · rw [show decide (39 ∈ L) = true by simpa using h39] at HC39
      rw [show decide (34 ∈ b) = false by simpa using h34] at HC34
      rw [hbad (fun h => h34 (by have := (hok.1 h).2.1; rwa [hb39 h39] at this))]
      clear HDA HSM1 HSM2 HFR h34 h39
      clear hbad hgood hpe hok hq hok2 hq2 h90 hneg hL hLl hO hOl hOs hSG hT tz1 tz2 hal hbl ha hb hb39 hbl2 hsum hA hR hAl hAs hRl hRs hil htl hi ht ht34 htl2 hsum2 hI hT2 hIl hIs hTl hTs
      go_enter Tryz.func17, Tryz.ntmps17
      go_wp2_with fail
      refine (HSI.out).mono ?_
      rintro e w1 ⟨rfl, hb1⟩
      have HB1 := hide hb1
      clear hb1
      go_wp2_with fail
      refine (HC39.out _ (HT.out.on HB1.out hB)).mono ?_
      rintro e w2 ⟨rfl, hb2⟩
      have HB2 := hide (HB1.out.trans (hb2.mono HB1.out.size))
      clear hb2
      go_wp2_with fail
      refine (HC34.out _ (HT.out.on HB2.out hB)).mono ?_
      rintro e w3 ⟨rfl, hb3⟩
      have HB3 := hide (HB2.out.trans (hb3.mono HB2.out.size))
      clear hb3
      go_wp2_with fail
      refine bodyPost_ret (results_tmp2 rfl _ _ _) rfl ?_
      exact ⟨rfl, HB3.out⟩
  · rw [show decide (39 ∈ L) = false by simpa using h39] at HC39
    obtain ⟨is, his⟩ : ∃ is, is = decide (34 ∈ b) := ⟨_, rfl⟩
    rw [← his] at HC34
    rw [hbad (fun h => h39 (hok.1 h).1)]
    clear HDA HSM1 HSM2 HFR h39 his
    clear hbad hgood hpe hok hq hok2 hq2 h90 hneg hL hLl hO hOl hOs hSG hT tz1 tz2 hal hbl ha hb hb39 hbl2 hsum hA hR hAl hAs hRl hRs hil htl hi ht ht34 htl2 hsum2 hI hT2 hIl hIs hTl hTs
    go_enter Tryz.func17, Tryz.ntmps17
    go_wp2_with fail
    refine (HSI.out).mono ?_
    rintro e w1 ⟨rfl, hb1⟩
    have HB1 := hide hb1
    clear hb1
    go_wp2_with fail
    refine (HC39.out _ (HT.out.on HB1.out hB)).mono ?_
    rintro e w2 ⟨rfl, hb2⟩
    have HB2 := hide (HB1.out.trans (hb2.mono HB1.out.size))
    clear hb2
    go_wp2_with fail
    refine (HC34.out _ (HT.out.on HB2.out hB)).mono ?_
    rintro e w3 ⟨rfl, hb3⟩
    have HB3 := hide (HB2.out.trans (hb3.mono HB2.out.size))
    clear hb3
    go_wp2_with fail
    refine bodyPost_ret (results_tmp2 rfl _ _ _) rfl ?_
    exact ⟨rfl, HB3.out⟩
end Go.Proofs.YtfcjaljaomknjaaGreatDoor
namespace Go.KI
open Go
theorem dec_lit {l : List UInt8} (h0 : l ≠ []) (hd : ∀ c ∈ l, isDg c = true) (h1 : 1 < l.length → l.head? ≠ some 48) {u : Nat} (hu : dv l = u) : Lib.decDigits u = l := by
  rw [← hu]
  exact (dec_of h0 hd h1).symm
theorem sz_90 {q : Rat} (h : sz 90 q) : fitsQ q := sz_fits h (by rw [most_eq]; omega)
theorem chkM_short {q : Rat} (h : sz 90 q) : chkM (ratS q) = 0 := by
  unfold chkM
  rw [ratS_num, if_neg (by simp [chkQ_fits (sz_90 h)]), if_neg]
  have h1 := (dec_len_le (u := q.num.natAbs) (n := 90) (by omega)).2 h.1
  have h2 := (dec_len_le (u := q.den) (n := 90) (by omega)).2 h.2
  omega
end Go.KI
namespace Go.Proofs.YtfcjaljaomknjaaGreatDoor
open Go.RowKit Go.KP Go.KI Go.Shelf
attribute [local go_sem] Oper.semAt_some

theorem chkP_short {q : Rat} (h : sz 90 q) {p : Nat} (hp : p ≤ 100) : chkP (ratS q) (p : Int) = 0 := by
  unfold chkP
  rw [if_neg (by simp [chkM_short h]), if_neg (by omega)]
theorem mPrint_to {s : ByteArray} {q : Rat} {p : Nat} (h : s.data.toList = ratS q) (f : sz 90 q) (hp : p ≤ 100) (B : Nat) (w : World) (hB : B ≤ w.heap.size) (hT : PQ B w) :
    Calls Tryz.prog 9 #[.string s, .int .i64 p] w (Ret w (.tuple #[.string (strB (decT (unitsP q p) p)), .int .i64 0])) := by
  have h1 := mPrint_any s (good_len h (sz_90 f)) (p : Int) B w hB hT
  unfold printS at h1
  rw [h, chkP_short f hp, if_pos rfl, ratS_num, Int.toNat_natCast] at h1
  exact h1
theorem mFeet_to {s : ByteArray} {q : Rat} (h : s.data.toList = ratS q) (f : sz 90 q) (B : Nat) (w : World) (hB : B ≤ w.heap.size) (hT : PQ B w) :
    Calls Tryz.prog 15 #[.string s] w (Ret w (.tuple #[.string (strB (feetT (twelfths q))), .int .i64 0])) := by
  have h1 := mFeet_any s (good_len h (sz_90 f)) B w hB hT
  unfold feetS at h1
  rw [h, chkM_short f, if_pos rfl, ratS_num] at h1
  exact h1
theorem mParseFeet_to {s : ByteArray} {q : Rat} (h1 : feetOK s.data.toList) (hl : s.size ≤ 90) (h2 : feetQ s.data.toList = q) (B : Nat) (w : World) (hB : B ≤ w.heap.size) (hT : PQ B w) :
    Calls Tryz.prog 17 #[.string s] w (Ret w (.tuple #[.string (strB (ratS q)), .int .i64 0])) := by
  have h := mParseFeet_any s B w hB hT
  have e : feetE s.data.toList = 0 := by unfold feetE; rw [bytes_len, if_neg (by omega), if_pos h1]
  unfold feetR at h
  rw [e, if_pos rfl, h2] at h
  exact h
abbrev q52 : Rat := ⟨5, 2, by decide, by decide⟩
abbrev qm52 : Rat := ⟨-5, 2, by decide, by decide⟩
abbrev q13 : Rat := ⟨1, 3, by decide, by decide⟩
abbrev q1275 : Rat := ⟨127, 5, by decide, by decide⟩
theorem dig1 (u : Nat) (h : u < 10) : Lib.decDigits u = [UInt8.ofNat (48 + u)] := Lib.decDigits_one h
theorem t52 : (⟨#[53, 47, 50]⟩ : ByteArray).data.toList = ratS q52 := by
  unfold ratS
  rw [if_neg (by decide), show q52.num = ((5 : Nat) : Int) from rfl, Lib.itoa_nonneg, dig1 5 (by omega), show q52.den = 2 from rfl, dig1 2 (by omega)]
  rfl
theorem tm52 : (⟨#[45, 53, 47, 50]⟩ : ByteArray).data.toList = ratS qm52 := by
  unfold ratS
  rw [if_neg (by decide), show qm52.num = -((5 : Nat) : Int) from rfl, Lib.itoa_neg 5 (by omega), dig1 5 (by omega), show qm52.den = 2 from rfl, dig1 2 (by omega)]
  rfl
theorem t13 : (⟨#[49, 47, 51]⟩ : ByteArray).data.toList = ratS q13 := by
  unfold ratS
  rw [if_neg (by decide), show q13.num = ((1 : Nat) : Int) from rfl, Lib.itoa_nonneg, dig1 1 (by omega), show q13.den = 3 from rfl, dig1 3 (by omega)]
  rfl
theorem t1275 : (⟨#[49, 50, 55, 47, 53]⟩ : ByteArray).data.toList = ratS q1275 := by
  unfold ratS
  rw [if_neg (by decide), show q1275.num = ((127 : Nat) : Int) from rfl, Lib.itoa_nonneg, dec_lit (l := [49, 50, 55]) (by decide) (by decide) (by decide) (u := 127) rfl, show q1275.den = 5 from rfl, dig1 5 (by omega)]
  rfl
theorem t1000 : (⟨#[49, 48, 48, 48]⟩ : ByteArray).data.toList = ratS ((1000 : Nat) : Rat) := by
  rw [ratS_nat, dec_lit (l := [49, 48, 48, 48]) (by decide) (by decide) (by decide) (u := 1000) rfl]
theorem p52 : strB (decT (unitsP q52 0) 0) = ⟨#[51]⟩ := by
  rw [show unitsP q52 0 = 3 from by decide]
  unfold decT
  rw [if_neg (by decide), if_pos rfl, show (3 : Int).natAbs = 3 from rfl, dig1 3 (by omega)]
  rfl
theorem pm52 : strB (decT (unitsP qm52 0) 0) = ⟨#[45, 50]⟩ := by
  rw [show unitsP qm52 0 = -2 from by decide]
  unfold decT
  rw [if_pos (by decide), if_pos rfl, show (-2 : Int).natAbs = 2 from rfl, dig1 2 (by omega)]
  rfl
theorem p13 : strB (decT (unitsP q13 2) 2) = ⟨#[48, 46, 51, 51]⟩ := by
  rw [show unitsP q13 2 = 33 from by decide]
  unfold decT own
  rw [show (33 : Int).natAbs = 33 from rfl, dec_lit (l := [51, 51]) (by decide) (by decide) (by decide) (u := 33) rfl, if_neg (by decide), if_neg (by decide)]
  rfl
theorem f1000 : strB (feetT (twelfths ((1000 : Nat) : Rat))) = ⟨#[51, 39, 51, 34, 52]⟩ := by
  rw [show twelfths ((1000 : Nat) : Rat) = 472 from by decide]
  unfold feetT
  rw [show (472 : Int).natAbs = 472 from rfl, dig1 (472 / 144) (by omega), dig1 (472 % 144 % 12) (by omega)]
  rfl
theorem f010 : feetOK (⟨#[48, 39, 49, 34, 48]⟩ : ByteArray).data.toList := by
  show feetOK [48, 39, 49, 34, 48]
  decide
theorem fq010 : feetQ (⟨#[48, 39, 49, 34, 48]⟩ : ByteArray).data.toList = q1275 := by
  show feetQ [48, 39, 49, 34, 48] = q1275
  decide +kernel
theorem mx4 (w : World) : (Builtin.max_ #[25, 25, 25, 25] 25 #[.int .i64 0, .int .i64 0, .int .i64 0, .int .i64 0]).run Tryz.prog w = .ok (.int .i64 0) w := by kernel_rfl
theorem mawake_any (B : Nat) (w : World) (hB : B ≤ w.heap.size) (hT : PQ B w) :
    Calls Tryz.prog 8 #[] w (Ret w (.bool true)) := by
  have HT := hide hT
  have H1 := hide (mPrint_to t52 (by exact ⟨by decide +kernel, by decide +kernel⟩) (p := 0) (by omega) B w hB hT)
  rw [p52] at H1
  have H2 := hide (fun w hB hT => mPrint_to tm52 (by exact ⟨by decide +kernel, by decide +kernel⟩) (p := 0) (by omega) B w hB hT)
  rw [pm52] at H2
  have H3 := hide (fun w hB hT => mPrint_to t13 (by exact ⟨by decide +kernel, by decide +kernel⟩) (p := 2) (by omega) B w hB hT)
  rw [p13] at H3
  have H4 := hide (fun w hB hT => mFeet_to t1000 (by exact sz_nat (by decide +kernel) (by omega)) B w hB hT)
  rw [f1000] at H4
  have H5 := hide (fun w hB hT => mParseFeet_to f010 (by decide) fq010 B w hB hT)
  rw [show strB (ratS q1275) = ⟨#[49, 50, 55, 47, 53]⟩ by rw [← t1275]; rfl] at H5
  have hmx := mx4
  clear hT
  go_enter Tryz.func8, Tryz.ntmps8
  go_wp2_with fail
  refine H1.out.mono ?_
  rintro e w1 ⟨rfl, hb1⟩
  have HB1 := hide hb1
  clear hb1
  go_wp2_with fail
  refine (H2.out _ (Nat.le_trans hB HB1.out.size) (HT.out.on HB1.out hB)).mono ?_
  rintro e w2 ⟨rfl, hb2⟩
  have HB2 := hide (HB1.out.trans (hb2.mono HB1.out.size))
  clear hb2
  go_wp2_with fail
  refine (H3.out _ (Nat.le_trans hB HB2.out.size) (HT.out.on HB2.out hB)).mono ?_
  rintro e w3 ⟨rfl, hb3⟩
  have HB3 := hide (HB2.out.trans (hb3.mono HB2.out.size))
  clear hb3
  go_wp2_with fail
  refine (H4.out _ (Nat.le_trans hB HB3.out.size) (HT.out.on HB3.out hB)).mono ?_
  rintro e w4 ⟨rfl, hb4⟩
  have HB4 := hide (HB3.out.trans (hb4.mono HB3.out.size))
  clear hb4
  go_wp2_with fail
  refine (H5.out _ (Nat.le_trans hB HB4.out.size) (HT.out.on HB4.out hB)).mono ?_
  rintro e w5 ⟨rfl, hb5⟩
  have HB5 := hide (HB4.out.trans (hb5.mono HB4.out.size))
  clear hb5
  go_wp2_with fail
  go_ret
  exact ⟨rfl, HB5.out⟩
def fineQ (l : List UInt8) : Prop := l.length ≤ 30 ∧ chkQ l = 0
instance (l : List UInt8) : Decidable (fineQ l) := inferInstanceAs (Decidable (_ ∧ _))
open Go.RowKit Go.KP Go.KI Go.Shelf
attribute [local go_sem] Oper.semAt_some

def greatM (s : ByteArray) : Bool := decide ((40 < s.size ∧ chkM s.data.toList = 0) ∨ 330 < s.size)
theorem greatM_no {s : ByteArray} (h : greatM s = false) : s.size ≤ 330 := by
  unfold greatM at h
  have := of_decide_eq_false h
  omega
theorem m7Great_any (s : ByteArray) (hss : s.size ≤ 9223372036854775807) (B : Nat) (w : World) (hB : B ≤ w.heap.size) (hT : PQ B w) :
    Calls Tryz.prog 7 #[.string s] w (Ret w (.bool (greatM s))) := by
  have HC := hide (m7check_any s hss B w hB hT)
  clear hT
  obtain ⟨g, hg⟩ : ∃ g, g = greatM s := ⟨_, rfl⟩
  rw [← hg]
  unfold greatM at hg
  obtain ⟨c, hc⟩ : ∃ c, c = chkM s.data.toList := ⟨_, rfl⟩
  rw [← hc] at hg HC
  clear hc
  by_cases h40 : 40 < s.size
  · have m40 : (40 : Int) < (s.size : Int) := by omega
    by_cases hc : c = 0
    · have hg1 : g = true := by rw [hg]; exact decide_eq_true (.inl ⟨h40, hc⟩)
      subst hg1
      have t0 : (c == 0) = true := by rw [hc]; rfl
      clear hg hc
      go_enter Tryz.func7, Tryz.ntmps7
      go_wp2_with fail
      refine HC.out.mono ?_
      rintro e w1 ⟨rfl, hb1⟩
      have HB1 := hide hb1
      clear hb1
      go_wp2_with fail
      refine bodyPost_ret (results_tmp rfl _ _ _) rfl ?_
      exact ⟨rfl, HB1.out⟩
    · have t0 : (c == 0) = false := beq_false_of_ne hc
      by_cases h3 : 330 < s.size
      · have hg1 : g = true := by rw [hg]; exact decide_eq_true (.inr h3)
        subst hg1
        have m3 : (330 : Int) < (s.size : Int) := by omega
        clear hg hc
        go_enter Tryz.func7, Tryz.ntmps7
        go_wp2_with fail
        refine HC.out.mono ?_
        rintro e w1 ⟨rfl, hb1⟩
        have HB1 := hide hb1
        clear hb1
        go_wp2_with fail
        refine bodyPost_ret (results_tmp rfl _ _ _) rfl ?_
        exact ⟨rfl, HB1.out⟩
      · have hg1 : g = false := by rw [hg]; exact decide_eq_false (fun h => by rcases h with ⟨_, h⟩ | h; exact hc h; exact h3 h)
        subst hg1
        have m3 : ((330 : Int) < (s.size : Int)) = False := eq_false (by omega)
        clear hg hc
        go_enter Tryz.func7, Tryz.ntmps7
        go_wp2_with fail
        refine HC.out.mono ?_
        rintro e w1 ⟨rfl, hb1⟩
        have HB1 := hide hb1
        clear hb1
        go_wp2_with fail
        refine bodyPost_ret (results_tmp rfl _ _ _) rfl ?_
        exact ⟨rfl, HB1.out⟩
  · have m40 : ((40 : Int) < (s.size : Int)) = False := eq_false (by omega)
    have m3 : ((330 : Int) < (s.size : Int)) = False := eq_false (by omega)
    have hg1 : g = false := by rw [hg]; exact decide_eq_false (fun h => by rcases h with ⟨h, _⟩ | h <;> omega)
    subst hg1
    clear hg
    go_enter Tryz.func7, Tryz.ntmps7
    go_wp2_with fail
    refine bodyPost_ret (results_tmp rfl _ _ _) rfl ?_
    exact ⟨rfl, Below.refl _ _⟩
theorem measureDecimals_any (a s : ByteArray) (ha : a.size ≤ 9223372036854775807) (p : Int) (B : Nat) (w : World) (hB : B ≤ w.heap.size) (hT : PQ B w) :
    Calls Tryz.prog 3 #[.string a, .int .i64 p, .string s] w (Ret w (.bool true)) := by
  have HT := hide (hT.mono hB)
  clear hT hB B
  have HG := hide (m7Great_any a ha w.heap.size w (Nat.le_refl _) HT.out)
  have HAW := hide (fun w2 (h : Below w.heap.size w w2) => mawake_any w.heap.size w2 h.size (HT.out.on h (Nat.le_refl _)))
  by_cases hg : greatM a = true
  · rw [hg] at HG
    clear hg ha
    go_enter Tryz.func3, Tryz.ntmps3
    go_wp2_with fail
    refine HG.out.mono ?_
    rintro e w1 ⟨rfl, hb1⟩
    have HB1 := hide hb1
    clear hb1
    go_wp2_with fail
    refine (HAW.out _ HB1.out).mono ?_
    rintro e w2 ⟨rfl, hb2⟩
    have HB2 := hide (HB1.out.trans (hb2.mono HB1.out.size))
    clear hb2
    go_wp2_with fail
    refine bodyPost_ret (results_tmp rfl _ _ _) rfl ?_
    exact ⟨rfl, HB2.out⟩
  have hg0 : greatM a = false := by simpa using hg
  rw [hg0] at HG
  have hA : a.size ≤ 330 := greatM_no hg0
  clear hg hg0
  by_cases h120 : 120 < s.size
  · have m120 : (120 : Int) < (s.size : Int) := by omega
    clear ha
    go_enter Tryz.func3, Tryz.ntmps3
    go_wp2_with fail
    refine HG.out.mono ?_
    rintro e w1 ⟨rfl, hb1⟩
    have HB1 := hide hb1
    clear hb1
    go_wp2_with fail
    refine (HAW.out _ HB1.out).mono ?_
    rintro e w2 ⟨rfl, hb2⟩
    have HB2 := hide (HB1.out.trans (hb2.mono HB1.out.size))
    clear hb2
    go_wp2_with fail
    refine bodyPost_ret (results_tmp rfl _ _ _) rfl ?_
    exact ⟨rfl, HB2.out⟩
  have m120 : ((120 : Int) < (s.size : Int)) = False := eq_false (by omega)
  have H1 := hide (fun w2 (h : Below w.heap.size w w2) => mPrint_any a (by omega) p w.heap.size w2 h.size (HT.out.on h (Nat.le_refl _)))
  have H2 := hide (fun w2 (h : Below w.heap.size w w2) => m7Print_any a (by omega) p w.heap.size w2 h.size (HT.out.on h (Nat.le_refl _)))
  have H3 := hide (fun w2 (h : Below w.heap.size w w2) => mExact_any a (by omega) p w.heap.size w2 h.size (HT.out.on h (Nat.le_refl _)))
  have H4 := hide (fun w2 (h : Below w.heap.size w w2) => m7Exact_any a (by omega) p w.heap.size w2 h.size (HT.out.on h (Nat.le_refl _)))
  have H5 := hide (fun w2 (h : Below w.heap.size w w2) => mParse_any s w.heap.size w2 h.size (HT.out.on h (Nat.le_refl _)))
  have H6 := hide (fun w2 (h : Below w.heap.size w w2) => m7Parse_any s w.heap.size w2 h.size (HT.out.on h (Nat.le_refl _)))
  unfold pairV at H1 H2 H5 H6
  generalize strB (printS a.data.toList p) = X at H1 H2
  generalize decide (chkP a.data.toList p = 0 ∧ ((valQ a.data.toList).num * ((10 ^ p.toNat : Nat) : Int)).fmod ((valQ a.data.toList).den : Int) = 0) = U at H3 H4
  generalize chkP a.data.toList p = E at H1 H2 H3 H4
  generalize strB (parseS s.data.toList) = Y at H5 H6
  generalize parseE s.data.toList = G at H5 H6
  clear ha hA h120
  go_enter Tryz.func3, Tryz.ntmps3
  go_wp2_with fail
  refine HG.out.mono ?_
  rintro e w1 ⟨rfl, hb1⟩
  have HB1 := hide hb1
  clear hb1
  go_wp2_with fail
  refine (H1.out _ HB1.out).mono ?_
  rintro e w2 ⟨rfl, hb2⟩
  have HB2 := hide (HB1.out.trans (hb2.mono HB1.out.size))
  clear hb2
  go_wp2_with fail
  refine (H2.out _ HB2.out).mono ?_
  rintro e w3 ⟨rfl, hb3⟩
  have HB3 := hide (HB2.out.trans (hb3.mono HB2.out.size))
  clear hb3
  go_wp2_with fail
  refine (H3.out _ HB3.out).mono ?_
  rintro e w4 ⟨rfl, hb4⟩
  have HB4 := hide (HB3.out.trans (hb4.mono HB3.out.size))
  clear hb4
  go_wp2_with fail
  refine (H4.out _ HB4.out).mono ?_
  rintro e w5 ⟨rfl, hb5⟩
  have HB5 := hide (HB4.out.trans (hb5.mono HB4.out.size))
  clear hb5
  go_wp2_with fail
  refine (H5.out _ HB5.out).mono ?_
  rintro e w6 ⟨rfl, hb6⟩
  have HB6 := hide (HB5.out.trans (hb6.mono HB5.out.size))
  clear hb6
  go_wp2_with fail
  refine (H6.out _ HB6.out).mono ?_
  rintro e w7 ⟨rfl, hb7⟩
  have HB7 := hide (HB6.out.trans (hb7.mono HB6.out.size))
  clear hb7
  go_wp2_with fail
  refine (HAW.out _ HB7.out).mono ?_
  rintro e w8 ⟨rfl, hb8⟩
  have HB8 := hide (HB7.out.trans (hb8.mono HB7.out.size))
  clear hb8
  go_wp2_with fail
  refine bodyPost_ret (results_tmp rfl _ _ _) rfl ?_
  exact ⟨rfl, HB8.out⟩
end Go.Proofs.YtfcjaljaomknjaaGreatDoor
