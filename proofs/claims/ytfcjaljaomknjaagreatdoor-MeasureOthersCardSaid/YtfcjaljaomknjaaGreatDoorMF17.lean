/-
  Texts laid together.
-/
import Derived.Test.YtfcjaljaomknjaaGreatDoorMF16
import Derived.Test.YtfcjaljaomknjaaGreatDoorMF15
import Derived.Test.YtfcjaljaomknjaaGreatDoorMF1
import Derived.Test.YtfcjaljaomknjaaGreatDoorMF5
import Derived.Lib.Join
import Derived.Lib.TrimUEq
set_option maxRecDepth 100000
set_option maxHeartbeats 16000000
namespace Go.Proofs.YtfcjaljaomknjaaGreatDoor
open Go.RowKit Go.KP Go.KI Go.Shelf
attribute [local go_sem] Oper.semAt_some

theorem lit60 : (⟨#[54, 48]⟩ : ByteArray).data.toList = Lib.itoa 60 := by
  rw [show (60 : Int) = ((60 : Nat) : Int) from rfl, Lib.itoa_nonneg]
  exact dec_of (l := [54, 48]) (by decide) (by decide) (by decide)
theorem lit127 : (⟨#[49, 50, 55]⟩ : ByteArray).data.toList = Lib.itoa 127 := by
  rw [show (127 : Int) = ((127 : Nat) : Int) from rfl, Lib.itoa_nonneg]
  exact dec_of (l := [49, 50, 55]) (by decide) (by decide) (by decide)
theorem lit144 : (⟨#[49, 52, 52]⟩ : ByteArray).data.toList = Lib.itoa 144 := by
  rw [show (144 : Int) = ((144 : Nat) : Int) from rfl, Lib.itoa_nonneg]
  exact dec_of (l := [49, 52, 52]) (by decide) (by decide) (by decide)
theorem lit12 : (⟨#[49, 50]⟩ : ByteArray).data.toList = Lib.itoa 12 := by
  rw [show (12 : Int) = ((12 : Nat) : Int) from rfl, Lib.itoa_nonneg]
  exact dec_of (l := [49, 50]) (by decide) (by decide) (by decide)
theorem fits_lit {z : Int} (h : z.natAbs < 1000) : fits z := fits_le_pow (k := 3) (by omega) (by omega)
def twelfths (q : Rat) : Int := near2 (q.num * 60) ((q.den : Int) * 127)
def feetS (l : List UInt8) : List UInt8 := if chkM l = 0 then feetT (twelfths (valQ l)) else []
theorem feet_fits {n : Int} {d : Nat} (hn : n.natAbs < 10 ^ 90) (hd : d < 10 ^ 90) :
    fits n ∧ fits (d : Int) ∧ fits (n * 60) ∧ fits ((d : Int) * 127) ∧ fits (n * 60 * 2) ∧ fits (n * 60 * 2 + (d : Int) * 127) ∧ fits ((d : Int) * 127 * 2) := by
  have e : (10 : Nat) ^ 94 = 10000 * 10 ^ 90 := by rw [show 94 = 90 + 4 from rfl, Nat.pow_add, Nat.mul_comm]
  refine ⟨fits_le_pow (k := 90) (by omega) hn, fits_le_pow (k := 90) (by omega) (by rw [Int.natAbs_natCast]; exact hd), fits_le_pow (k := 94) (by omega) (by omega), fits_le_pow (k := 94) (by omega) (by omega), fits_le_pow (k := 94) (by omega) (by omega), fits_le_pow (k := 94) (by omega) (by omega), fits_le_pow (k := 94) (by omega) (by omega)⟩
theorem twelfths_len {q : Rat} (hn : q.num.natAbs < 10 ^ 90) : (twelfths q).natAbs < 10 ^ 94 := by
  have dp := q.den_pos
  have h1 := near2_abs (n := q.num * 60) (d := (q.den : Int) * 127) (by omega)
  have e : (10 : Nat) ^ 94 = 10000 * 10 ^ 90 := by rw [show 94 = 90 + 4 from rfl, Nat.pow_add, Nat.mul_comm]
  unfold twelfths
  omega
theorem nat_fdiv (u k : Nat) (hk : 0 < k) : ((u : Int)).fdiv (k : Int) = ((u / k : Nat) : Int) ∧ ((u : Int)).fmod (k : Int) = ((u % k : Nat) : Int) := by
  constructor
  · rw [Int.fdiv_eq_ediv_of_nonneg _ (by omega), Int.natCast_ediv]
  · rw [Int.fmod_eq_emod_of_nonneg _ (by omega), Int.natCast_emod]
theorem mFeet_any (s : ByteArray) (hs : s.size ≤ 1000000) (B : Nat) (w : World) (hB : B ≤ w.heap.size) (hT : PQ B w) :
    Calls Tryz.prog 15 #[.string s] w (Ret w (pairV (feetS s.data.toList) (chkM s.data.toList))) := by
  have HT := hide hT
  have HC := hide (mparts_any s hs B w hB hT)
  by_cases hM : chkM s.data.toList = 0
  · obtain ⟨_, n1, d1⟩ := chkM_ok hM
    rw [show partsM s.data.toList = tripV (Lib.itoa (valQ s.data.toList).num) (Lib.itoa ((valQ s.data.toList).den : Int)) 0 from if_pos hM] at HC
    rw [show feetS s.data.toList = feetT (twelfths (valQ s.data.toList)) from if_pos hM, hM]
    have dp := (valQ s.data.toList).den_pos
    obtain ⟨f1, f2, f3, f4, f5, f6, f7⟩ := feet_fits n1 d1
    have hul := twelfths_len n1
    have HM1 := hide (fun w hB hT => mmul_to (s := strB (Lib.itoa (valQ s.data.toList).num)) (t := ⟨#[54, 48]⟩) (strB_list _) lit60 f1 (fits_lit (by decide)) f3 B w hB hT)
    have HM2 := hide (fun w hB hT => mmul_to (s := strB (Lib.itoa ((valQ s.data.toList).den : Int))) (t := ⟨#[49, 50, 55]⟩) (strB_list _) lit127 f2 (fits_lit (by decide)) f4 B w hB hT)
    have HNE := hide (fun w hB hT => mnearest_to (s := strB (Lib.itoa ((valQ s.data.toList).num * 60))) (t := strB (Lib.itoa (((valQ s.data.toList).den : Int) * 127))) (strB_list _) (strB_list _) f3 f4 f5 f6 f7 (by omega) B w hB hT)
    obtain ⟨m, hm⟩ : ∃ m, m = twelfths (valQ s.data.toList) := ⟨_, rfl⟩
    rw [show near2 ((valQ s.data.toList).num * 60) (((valQ s.data.toList).den : Int) * 127) = m from hm.symm] at HNE
    rw [← hm] at hul ⊢
    have HSI := hide (fun w => msigned_any (strB (Lib.itoa m)) w)
    rw [strB_list, isNeg_itoa, digs_itoa] at HSI
    obtain ⟨u, hu⟩ : ∃ u, u = m.natAbs := ⟨_, rfl⟩
    rw [← hu] at hul HSI
    have fu : fits (u : Int) := fits_le_pow (k := 94) (by omega) (by rw [Int.natAbs_natCast]; exact hul)
    obtain ⟨q1, q2⟩ := nat_fdiv u 144 (by omega)
    obtain ⟨q3, q4⟩ := nat_fdiv (u % 144) 12 (by omega)
    have HD1 := hide (fun w hB hT => mdivide_to (s := strB (Lib.decDigits u)) (t := ⟨#[49, 52, 52]⟩) (x := (u : Int)) (y := 144) (by rw [strB_list, Lib.itoa_nonneg]) lit144 fu (fits_lit (by decide)) (by decide) B w hB hT)
    rw [show (144 : Int) = ((144 : Nat) : Int) from rfl, q1, q2] at HD1
    have HD2 := hide (fun w hB hT => mdivide_to (s := strB (Lib.itoa ((u % 144 : Nat) : Int))) (t := ⟨#[49, 50]⟩) (x := ((u % 144 : Nat) : Int)) (y := 12) (strB_list _) lit12 (fits_lit (by omega)) (fits_lit (by decide)) (by decide) B w hB hT)
    rw [show (12 : Int) = ((12 : Nat) : Int) from rfl, q3, q4] at HD2
    obtain ⟨N, hN⟩ : ∃ X, X = strB (Lib.itoa (valQ s.data.toList).num) := ⟨_, rfl⟩
    obtain ⟨D, hD⟩ : ∃ X, X = strB (Lib.itoa ((valQ s.data.toList).den : Int)) := ⟨_, rfl⟩
    obtain ⟨N2, hN2⟩ : ∃ X, X = strB (Lib.itoa ((valQ s.data.toList).num * 60)) := ⟨_, rfl⟩
    obtain ⟨D2, hD2⟩ : ∃ X, X = strB (Lib.itoa (((valQ s.data.toList).den : Int) * 127)) := ⟨_, rfl⟩
    obtain ⟨Q, hQ⟩ : ∃ X, X = strB (Lib.itoa m) := ⟨_, rfl⟩
    obtain ⟨S, hS⟩ : ∃ X, X = strB (sgnT (decide (m < 0))) := ⟨_, rfl⟩
    obtain ⟨O, hO⟩ : ∃ X, X = strB (Lib.decDigits u) := ⟨_, rfl⟩
    obtain ⟨A, hA⟩ : ∃ X, X = strB (Lib.itoa ((u / 144 : Nat) : Int)) := ⟨_, rfl⟩
    obtain ⟨R, hR⟩ : ∃ X, X = strB (Lib.itoa ((u % 144 : Nat) : Int)) := ⟨_, rfl⟩
    obtain ⟨I, hI⟩ : ∃ X, X = strB (Lib.itoa ((u % 144 / 12 : Nat) : Int)) := ⟨_, rfl⟩
    obtain ⟨T, hT2⟩ : ∃ X, X = strB (Lib.itoa ((u % 144 % 12 : Nat) : Int)) := ⟨_, rfl⟩
    have HC : Hid (Calls Tryz.prog 54 #[.string s] w (Ret w (.tuple #[.string N, .string D, .int .i64 0]))) := hide (by rw [hN, hD]; exact HC.out)
    rw [← hN, ← hN2] at HM1
    rw [← hD, ← hD2] at HM2
    rw [← hN2, ← hD2, ← hQ] at HNE
    rw [← hQ, ← hS, ← hO] at HSI
    rw [← hO, ← hA, ← hR] at HD1
    rw [← hR, ← hI, ← hT2] at HD2
    have hdl : ∀ v : Nat, v < 10 ^ 94 → (Lib.decDigits v).length ≤ 94 := fun v hv => (dec_len_le (by omega)).2 hv
    have hSs : S.size ≤ 1 := by rw [hS, strB_size]; unfold sgnT; split <;> simp
    have hAs : A.size ≤ 94 := by rw [hA, strB_size, Lib.itoa_nonneg]; exact hdl _ (by omega)
    have hIs : I.size ≤ 94 := by rw [hI, strB_size, Lib.itoa_nonneg]; exact hdl _ (by omega)
    have hTs : T.size ≤ 94 := by rw [hT2, strB_size, Lib.itoa_nonneg]; exact hdl _ (by omega)
    have v1 : (9223372036854775807 < S.size + A.size) = False := eq_false (by omega)
    have v2 : (9223372036854775807 < S.size + A.size + 1) = False := eq_false (by omega)
    have v3 : (9223372036854775807 < S.size + A.size + 1 + I.size) = False := eq_false (by omega)
    have v4 : (9223372036854775807 < S.size + A.size + 1 + I.size + 1) = False := eq_false (by omega)
    have v5 : (9223372036854775807 < S.size + A.size + 1 + I.size + 1 + T.size) = False := eq_false (by omega)
    have HX := hide (show strB (feetT m) = S ++ A ++ ⟨#[39]⟩ ++ I ++ ⟨#[34]⟩ ++ T by
      unfold feetT
      rw [← hu, hS, hA, hI, hT2, Lib.itoa_nonneg, Lib.itoa_nonneg, Lib.itoa_nonneg]
      apply bytes_eq
      simp [strB, sgnT])
    rw [show pairV (feetT m) 0 = .tuple #[.string (strB (feetT m)), .int .i64 0] from rfl, HX.out]
    clear hM n1 d1 dp f1 f2 f3 f4 f5 f6 f7 hm hN hD hN2 hD2 hQ hS hO hA hR hI hT2 hT hu hul fu q1 q2 q3 q4 hdl hSs hAs hIs hTs HX
    go_enter Tryz.func15, Tryz.ntmps15
    go_wp2_with fail
    refine HC.out.mono ?_
    rintro e w1 ⟨rfl, hb1⟩
    have HB1 := hide hb1
    clear hb1
    go_wp2_with fail
    refine (HM1.out _ (Nat.le_trans hB HB1.out.size) (HT.out.p10.on HB1.out hB)).mono ?_
    rintro e w2 ⟨rfl, hb2⟩
    have HB2 := hide (HB1.out.trans (hb2.mono HB1.out.size))
    clear hb2
    go_wp2_with fail
    refine (HM2.out _ (Nat.le_trans hB HB2.out.size) (HT.out.p10.on HB2.out hB)).mono ?_
    rintro e w3 ⟨rfl, hb3⟩
    have HB3 := hide (HB2.out.trans (hb3.mono HB2.out.size))
    clear hb3
    go_wp2_with fail
    refine (HNE.out _ (Nat.le_trans hB HB3.out.size) (HT.out.p10.on HB3.out hB)).mono ?_
    rintro e w4 ⟨rfl, hb4⟩
    have HB4 := hide (HB3.out.trans (hb4.mono HB3.out.size))
    clear hb4
    go_wp2_with fail
    refine (HSI.out _).mono ?_
    rintro e w5 ⟨rfl, hb5⟩
    have HB5 := hide (HB4.out.trans (hb5.mono HB4.out.size))
    clear hb5
    go_wp2_with fail
    refine (HD1.out _ (Nat.le_trans hB HB5.out.size) (HT.out.p10.on HB5.out hB)).mono ?_
    rintro e w6 ⟨rfl, hb6⟩
    have HB6 := hide (HB5.out.trans (hb6.mono HB5.out.size))
    clear hb6
    go_wp2_with fail
    refine (HD2.out _ (Nat.le_trans hB HB6.out.size) (HT.out.p10.on HB6.out hB)).mono ?_
    rintro e w7 ⟨rfl, hb7⟩
    have HB7 := hide (HB6.out.trans (hb7.mono HB6.out.size))
    clear hb7
    go_wp2_with fail
    refine bodyPost_ret (results_tmp2 rfl _ _ _) rfl ?_
    exact ⟨rfl, HB7.out⟩
  · rw [show partsM s.data.toList = tripV [] [] (chkM s.data.toList) from if_neg hM, tripV_err] at HC
    rw [show feetS s.data.toList = [] from if_neg hM, pairV_err]
    have hne : (chkM s.data.toList != 0) = true := by simpa using hM
    obtain ⟨E, hE⟩ : ∃ E, E = chkM s.data.toList := ⟨_, rfl⟩
    rw [← hE] at HC hne ⊢
    clear hE hM hT
    go_enter Tryz.func15, Tryz.ntmps15
    go_wp2_with fail
    refine HC.out.mono ?_
    rintro e w1 ⟨rfl, hb1⟩
    have HB1 := hide hb1
    clear hb1
    go_wp2_with fail
    refine bodyPost_ret (results_tmp2 rfl _ _ _) rfl ?_
    exact ⟨rfl, HB1.out⟩
end Go.Proofs.YtfcjaljaomknjaaGreatDoor
namespace Go.KI
open Go
def feetM (l : List UInt8) : Nat := (dv (ahead 39 (digs l)) * 12 + dv (ahead 34 (behind 39 (digs l)))) * 12 + dv (behind 34 (behind 39 (digs l)))
def feetQ (l : List UInt8) : Rat := sgn (isNeg l) (((feetM l * 127 : Nat) : Rat) / ((60 : Nat) : Rat))
def feetE (l : List UInt8) : Int := if 90 < l.length then 4 else if feetOK l then 0 else 3
def feetR (l : List UInt8) : List UInt8 := if feetE l = 0 then ratS (feetQ l) else []
theorem numeral_iff {l : List UInt8} : numeral l ↔ allDg l ∧ Lib.decDigits (dv l) = l := by
  constructor
  · intro h
    exact ⟨⟨h.1, List.all_eq_true.1 h.2.1⟩, (numeral_dec h).symm⟩
  · rintro ⟨h1, h2⟩
    rw [← h2]
    exact dec_numeral _
end Go.KI
namespace Go.Proofs.YtfcjaljaomknjaaGreatDoor
open Go.RowKit Go.KP Go.KI Go.Shelf
attribute [local go_sem] Oper.semAt_some

theorem msmall_any (s : ByteArray) (hs : s.size ≤ 1000000) (b : Bool) (hb : b = decide (smallT s.data.toList)) (w : World) :
    Calls Tryz.prog 58 #[.string s] w (Ret w (.bool b)) := by
  have HD := hide (fun b hb w => mdigits_any s hs b hb w)
  obtain ⟨t1, t2⟩ := lit_eq (s := s) (l := s.data.toList) (m := [49, 48]) rfl
  obtain ⟨u1, u2⟩ := lit_eq (s := s) (l := s.data.toList) (m := [49, 49]) rfl
  have hlen := bytes_len s
  by_cases h1 : s.size = 1
  · have z : ((s.size : Int) == 1) = true := by rw [h1]; rfl
    have n10 : s.data.toList ≠ [49, 48] := fun e => by rw [e] at hlen; simp at hlen; omega
    have n11 : s.data.toList ≠ [49, 49] := fun e => by rw [e] at hlen; simp at hlen; omega
    have e1 := t2 n10
    have e2 := u2 n11
    by_cases h2 : allDg s.data.toList
    · have hbt : b = true := by rw [hb, decide_eq_true_iff]; exact .inl ⟨by omega, h2⟩
      have HDA := hide (HD.out true (by simpa using h2))
      rw [hbt]
      clear t1 t2 u1 u2 hlen h1 n10 n11 h2 hb hbt HD
      go_enter Tryz.func58, Tryz.ntmps58
      go_wp2_with fail
      refine (HDA.out _).mono ?_
      rintro e w1 ⟨rfl, hb1⟩
      have HB1 := hide hb1
      clear hb1
      go_wp2_with fail
      go_ret
      exact ⟨rfl, HB1.out⟩
    · have hbt : b = false := by
        rw [hb, decide_eq_false_iff_not]
        rintro (h | h | h)
        · exact h2 h.2
        · exact n10 h
        · exact n11 h
      have HDA := hide (HD.out false (by simpa using h2))
      rw [hbt]
      clear t1 t2 u1 u2 hlen h1 n10 n11 h2 hb hbt HD
      go_enter Tryz.func58, Tryz.ntmps58
      go_wp2_with fail
      refine (HDA.out _).mono ?_
      rintro e w1 ⟨rfl, hb1⟩
      have HB1 := hide hb1
      clear hb1
      go_wp2_with fail
      go_ret
      exact ⟨rfl, HB1.out⟩
  · have z : ((s.size : Int) == 1) = false := by
      simp only [beq_eq_false_iff_ne, ne_eq]
      omega
    have hway : ((s.toList == [49, 48]) = true ∧ b = true) ∨ ((s.toList == [49, 48]) = false ∧ (s.toList == [49, 49]) = true ∧ b = true) ∨ ((s.toList == [49, 48]) = false ∧ (s.toList == [49, 49]) = false ∧ b = false) := by
      by_cases a1 : s.data.toList = [49, 48]
      · exact .inl ⟨t1 a1, by rw [hb, decide_eq_true_iff]; exact .inr (.inl a1)⟩
      · by_cases a2 : s.data.toList = [49, 49]
        · exact .inr (.inl ⟨t2 a1, u1 a2, by rw [hb, decide_eq_true_iff]; exact .inr (.inr a2)⟩)
        · refine .inr (.inr ⟨t2 a1, u2 a2, ?_⟩)
          rw [hb, decide_eq_false_iff_not]
          rintro (h | h | h)
          · exact h1 (by omega)
          · exact a1 h
          · exact a2 h
    clear t1 t2 u1 u2 hlen h1 hb HD
    rcases hway with ⟨e1, e2⟩ | ⟨e1, e3, e2⟩ | ⟨e1, e3, e2⟩
    all_goals
      subst e2
      go_enter Tryz.func58, Tryz.ntmps58
      go_wp2_with fail
      go_ret
      exact ⟨rfl, Below.refl _ _⟩
theorem mParseFeet_any (s : ByteArray) (B : Nat) (w : World) (hB : B ≤ w.heap.size) (hT : PQ B w) :
    Calls Tryz.prog 17 #[.string s] w (Ret w (pairV (feetR s.data.toList) (feetE s.data.toList))) := by
  have HT := hide hT
  by_cases h90 : 90 < s.size
  · have e : feetE s.data.toList = 4 := by unfold feetE; rw [if_pos (by rw [bytes_len]; exact h90)]
    rw [show feetR s.data.toList = [] by unfold feetR; rw [e, if_neg (by decide)], e, pairV_err]
    have hm : (90 : Int) < (s.size : Int) := by omega
    clear e h90 hT
    go_enter Tryz.func17, Tryz.ntmps17
    go_wp2_with fail
    refine bodyPost_ret (results_tmp2 rfl _ _ _) rfl ?_
    exact ⟨rfl, Below.refl _ _⟩
  have hm : ((90 : Int) < (s.size : Int)) = False := eq_false (by omega)
  have hpe : feetE s.data.toList = if feetOK s.data.toList then 0 else 3 := by
    unfold feetE
    rw [if_neg (by rw [bytes_len]; exact h90)]
  have hbad : ¬ feetOK s.data.toList → pairV (feetR s.data.toList) (feetE s.data.toList) = .tuple #[.string ⟨#[]⟩, .int .i64 3] := fun h => by
    have e : feetE s.data.toList = 3 := by rw [hpe, if_neg h]
    rw [show feetR s.data.toList = [] by unfold feetR; rw [e, if_neg (by decide)], e, pairV_err]
  have hgood : feetOK s.data.toList → pairV (feetR s.data.toList) (feetE s.data.toList) = pairV (ratS (feetQ s.data.toList)) 0 := fun h => by
    have e : feetE s.data.toList = 0 := by rw [hpe, if_pos h]
    rw [show feetR s.data.toList = ratS (feetQ s.data.toList) by unfold feetR; rw [if_pos e], e]
  have hok : feetOK s.data.toList ↔ (39 ∈ digs s.data.toList ∧ 34 ∈ KI.behind 39 (digs s.data.toList) ∧ numeral (KI.ahead 39 (digs s.data.toList)) ∧ smallT (KI.ahead 34 (KI.behind 39 (digs s.data.toList))) ∧ smallT (KI.behind 34 (KI.behind 39 (digs s.data.toList))) ∧ s.data.toList ≠ [45, 48, 39, 48, 34, 48]) := Iff.rfl
  have hq : feetQ s.data.toList = sgn (isNeg s.data.toList) (((((dv (KI.ahead 39 (digs s.data.toList)) * 12 + dv (KI.ahead 34 (KI.behind 39 (digs s.data.toList)))) * 12 + dv (KI.behind 34 (KI.behind 39 (digs s.data.toList)))) * 127 : Nat) : Rat) / ((60 : Nat) : Rat)) := rfl
  have HSI := hide (msigned_any s w)
  obtain ⟨neg, hneg⟩ : ∃ neg, neg = isNeg s.data.toList := ⟨_, rfl⟩
  obtain ⟨L, hL⟩ : ∃ L, L = digs s.data.toList := ⟨_, rfl⟩
  have hLl : L.length ≤ 90 := by rw [hL]; have := digs_le s.data.toList; rw [bytes_len] at this; omega
  rw [← hneg, ← hL] at HSI
  rw [← hL] at hok hq
  rw [← hneg] at hq
  obtain ⟨O, hO⟩ : ∃ O, O = strB L := ⟨_, rfl⟩
  have hOl : O.data.toList = L := by rw [hO, strB_list]
  have hOs : O.size ≤ 90 := by rw [← bytes_len, hOl]; exact hLl
  have HC39 := hide (fun w hT => scut_any 39 O (by omega) B w hT)
  rw [hOl] at HC39
  rw [← hO] at HSI
  obtain ⟨SG, hSG⟩ : ∃ O, O = strB (sgnT neg) := ⟨_, rfl⟩
  have HFR := hide (fun n d D h hn hd hD h0 w hB hT => mfraction_any neg n d D h hn hd hD h0 B w hB hT)
  rw [← hSG] at HSI HFR
  obtain ⟨tz1, tz2⟩ := lit_eq (s := s) (l := s.data.toList) (m := [45, 48, 39, 48, 34, 48]) rfl
  have hal := ahead_le 39 L
  have hbl := behind_le 39 L
  obtain ⟨a, ha⟩ : ∃ a, a = KI.ahead 39 L := ⟨_, rfl⟩
  obtain ⟨b, hb⟩ : ∃ a, a = if 39 ∈ L then KI.behind 39 L else [] := ⟨_, rfl⟩
  rw [← ha, ← hb] at HC39
  have hb39 : 39 ∈ L → KI.behind 39 L = b := fun h => by rw [hb, if_pos h]
  have hbl2 : b.length ≤ 90 := by
    rw [hb]
    split
    · omega
    · exact Nat.zero_le _
  have hsum : 39 ∈ L → a.length + b.length + 1 = L.length := fun h => by rw [ha, ← hb39 h]; exact both_le h
  rw [← ha] at hok hq hal
  obtain ⟨A, hA⟩ : ∃ O, O = strB a := ⟨_, rfl⟩
  obtain ⟨R, hR⟩ : ∃ O, O = strB b := ⟨_, rfl⟩
  have hAl : A.data.toList = a := by rw [hA, strB_list]
  have hAs : A.size = a.length := by rw [hA, strB_size]
  have hRl : R.data.toList = b := by rw [hR, strB_list]
  have hRs : R.size = b.length := by rw [hR, strB_size]
  rw [← hA, ← hR] at HC39
  have HC34 := hide (fun w hT => scut_any 34 R (by omega) B w hT)
  rw [hRl] at HC34
  have hil := ahead_le 34 b
  have htl := behind_le 34 b
  obtain ⟨i, hi⟩ : ∃ a, a = KI.ahead 34 b := ⟨_, rfl⟩
  obtain ⟨t, ht⟩ : ∃ a, a = if 34 ∈ b then KI.behind 34 b else [] := ⟨_, rfl⟩
  have ht34 : 34 ∈ b → KI.behind 34 b = t := fun h => by rw [ht, if_pos h]
  have htl2 : t.length ≤ 90 := by
    rw [ht]
    split
    · omega
    · exact Nat.zero_le _
  have hsum2 : 34 ∈ b → i.length + t.length + 1 = b.length := fun h => by rw [hi, ← ht34 h]; exact both_le h
  rw [← hi, ← ht] at HC34
  rw [← hi] at hil
  obtain ⟨I, hI⟩ : ∃ O, O = strB i := ⟨_, rfl⟩
  obtain ⟨T, hT2⟩ : ∃ O, O = strB t := ⟨_, rfl⟩
  have hIl : I.data.toList = i := by rw [hI, strB_list]
  have hIs : I.size = i.length := by rw [hI, strB_size]
  have hTl : T.data.toList = t := by rw [hT2, strB_list]
  have hTs : T.size = t.length := by rw [hT2, strB_size]
  rw [← hI, ← hT2] at HC34
  have hok2 : 39 ∈ L → 34 ∈ b → (feetOK s.data.toList ↔ numeral a ∧ smallT i ∧ smallT t ∧ s.data.toList ≠ [45, 48, 39, 48, 34, 48]) := fun h1 h2 => by
    rw [hok, hb39 h1, ht34 h2, ← hi]
    exact ⟨fun h => h.2.2, fun h => ⟨h1, h2, h⟩⟩
  have hq2 : 39 ∈ L → 34 ∈ b → feetQ s.data.toList = sgn neg (((((dv a * 12 + dv i) * 12 + dv t) * 127 : Nat) : Rat) / ((60 : Nat) : Rat)) := fun h1 h2 => by
    rw [hq, hb39 h1, ht34 h2, ← hi]
  have HDA := hide (fun x hx w => mdigits_any A (by omega) x hx w)
  rw [hAl] at HDA
  have HSM1 := hide (fun x hx w => msmall_any I (by omega) x hx w)
  rw [hIl] at HSM1
  have HSM2 := hide (fun x hx w => msmall_any T (by omega) x hx w)
  rw [hTl] at HSM2
  by_cases h39 : 39 ∈ L
  · by_cases h34 : 34 ∈ b
    · rw [show decide (39 ∈ L) = true by simpa using h39] at HC39
      rw [show decide (34 ∈ b) = true by simpa using h34] at HC34
      have hk := hok2 h39 h34
      have hqq := hq2 h39 h34
      have hsz := hsum h39
      have hsz2 := hsum2 h34
      by_cases k1 : allDg a
      · have HD := hide (HDA.out true (by simpa using k1))
        have HW := hide (fun w => mwhole_any A (by rw [hAl]; exact k1.2) w)
        rw [hAl] at HW
        obtain ⟨WA, hWA⟩ : ∃ W, W = strB (Lib.decDigits (dv a)) := ⟨_, rfl⟩
        rw [← hWA] at HW
        by_cases k2 : Lib.decDigits (dv a) = a
        · have hEq : WA = A := by rw [hWA, k2, hA]
          rw [hEq] at HW
          have hnum : numeral a := numeral_iff.2 ⟨k1, k2⟩
          have hwn : (A.toList != A.toList) = false := by simp
          by_cases k3 : smallT i
          · have HS1 := hide (HSM1.out true (by simpa using k3))
            by_cases k4 : smallT t
            · have HS2 := hide (HSM2.out true (by simpa using k4))
              by_cases k5 : s.data.toList = [45, 48, 39, 48, 34, 48]
              · have z := tz1 k5
                rw [hbad (fun h => (hk.1 h).2.2.2 k5)]
                clear k1 k2 k3 k4 k5 hk hqq hsz hsz2 hnum hWA hEq HDA HSM1 HSM2 HFR h34 h39
                clear hbad hgood hpe hok hq hok2 hq2 h90 hneg hL hLl hO hOl hOs hSG hT tz1 tz2 hal hbl ha hb hb39 hbl2 hsum hA hR hAl hAs hRl hRs hil htl hi ht ht34 htl2 hsum2 hI hT2 hIl hIs hTl hTs
                go_enter Tryz.func17, Tryz.ntmps17
                go_wp2_with fail
                refine (HSI.out).mono ?_
                rintro e w1 ⟨rfl, hb1⟩
                have HB1 := hide hb1
                clear hb1
                go_wp2_with fail
                refine (HC39.out _ (HT.out.on HB1.out hB)).mono ?_
                rintro e w2 ⟨rfl, hb2⟩
                have HB2 := hide (HB1.out.trans (hb2.mono HB1.out.size))
                clear hb2
                go_wp2_with fail
                refine (HC34.out _ (HT.out.on HB2.out hB)).mono ?_
                rintro e w3 ⟨rfl, hb3⟩
                have HB3 := hide (HB2.out.trans (hb3.mono HB2.out.size))
                clear hb3
                go_wp2_with fail
                refine (HD.out _).mono ?_
                rintro e w4 ⟨rfl, hb4⟩
                have HB4 := hide (HB3.out.trans (hb4.mono HB3.out.size))
                clear hb4
                go_wp2_with fail
                refine (HW.out _).mono ?_
                rintro e w5 ⟨rfl, hb5⟩
                have HB5 := hide (HB4.out.trans (hb5.mono HB4.out.size))
                clear hb5
                go_wp2_with fail
                refine (HS1.out _).mono ?_
                rintro e w6 ⟨rfl, hb6⟩
                have HB6 := hide (HB5.out.trans (hb6.mono HB5.out.size))
                clear hb6
                go_wp2_with fail
                refine (HS2.out _).mono ?_
                rintro e w7 ⟨rfl, hb7⟩
                have HB7 := hide (HB6.out.trans (hb7.mono HB6.out.size))
                clear hb7
                go_wp2_with fail
                refine bodyPost_ret (results_tmp2 rfl _ _ _) rfl ?_
                exact ⟨rfl, HB7.out⟩
              · have z := tz2 k5
                rw [hgood (hk.2 ⟨hnum, k3, k4, k5⟩), hqq]
                obtain ⟨i1, i2⟩ := smallT_dec k3
                obtain ⟨t1, t2⟩ := smallT_dec k4
                obtain ⟨U, hU⟩ : ∃ U, U = dv a := ⟨_, rfl⟩
                obtain ⟨V, hV⟩ : ∃ U, U = dv i := ⟨_, rfl⟩
                obtain ⟨Z, hZ⟩ : ∃ U, U = dv t := ⟨_, rfl⟩
                have hUb : U < 10 ^ 87 := by
                  rw [hU]
                  refine Nat.lt_of_lt_of_le (dv_lt _ k1.2) (Nat.pow_le_pow_right (by omega) ?_)
                  have l1 : 1 ≤ i.length := by rw [i1]; exact dec_len_pos _
                  omega
                rw [← hV] at i1 i2
                rw [← hZ] at t1 t2
                rw [← hU] at k2
                rw [← hU, ← hV, ← hZ]
                have p1 : (10 : Nat) ^ 91 = 10000 * 10 ^ 87 := by rw [show 91 = 87 + 4 from rfl, Nat.pow_add, Nat.mul_comm]
                have p2 : (10 : Nat) ^ 92 = 100000 * 10 ^ 87 := by rw [show 92 = 87 + 5 from rfl, Nat.pow_add, Nat.mul_comm]
                have p3 : 100 < 10 ^ 87 := by decide
                have gA : A.data.toList = Lib.itoa (U : Int) := by rw [hAl, Lib.itoa_nonneg, k2]
                have gI : I.data.toList = Lib.itoa (V : Int) := by rw [hIl, Lib.itoa_nonneg, ← i1]
                have gT : T.data.toList = Lib.itoa (Z : Int) := by rw [hTl, Lib.itoa_nonneg, ← t1]
                have c1 : (U : Int) * 12 = ((U * 12 : Nat) : Int) := by omega
                have c2 : ((U * 12 : Nat) : Int) + (V : Int) = ((U * 12 + V : Nat) : Int) := by omega
                have c3 : ((U * 12 + V : Nat) : Int) * 12 = (((U * 12 + V) * 12 : Nat) : Int) := by omega
                have c4 : (((U * 12 + V) * 12 : Nat) : Int) + (Z : Int) = (((U * 12 + V) * 12 + Z : Nat) : Int) := by omega
                have c5 : (((U * 12 + V) * 12 + Z : Nat) : Int) * 127 = ((((U * 12 + V) * 12 + Z) * 127 : Nat) : Int) := by omega
                have fN : ∀ v : Nat, v < 10 ^ 92 → fits (v : Int) := fun v h => fits_le_pow (k := 92) (by omega) (by rw [Int.natAbs_natCast]; exact h)
                have HM1 := hide (fun w hB hT => mmul_to (s := A) (t := ⟨#[49, 50]⟩) gA lit12 (fN _ (by omega)) (fits_lit (by decide)) (by rw [c1]; exact fN _ (by omega)) B w hB hT)
                rw [c1] at HM1
                have HA1 := hide (fun w hB hT => Add_good (s := strB (Lib.itoa ((U * 12 : Nat) : Int))) (t := I) (strB_list _) gI (fN _ (by omega)) (fN _ (by omega)) (by rw [c2]; exact fN _ (by omega)) B w hB hT)
                rw [c2] at HA1
                have HM2 := hide (fun w hB hT => mmul_to (s := strB (Lib.itoa ((U * 12 + V : Nat) : Int))) (t := ⟨#[49, 50]⟩) (strB_list _) lit12 (fN _ (by omega)) (fits_lit (by decide)) (by rw [c3]; exact fN _ (by omega)) B w hB hT)
                rw [c3] at HM2
                have HA2 := hide (fun w hB hT => Add_good (s := strB (Lib.itoa (((U * 12 + V) * 12 : Nat) : Int))) (t := T) (strB_list _) gT (fN _ (by omega)) (fN _ (by omega)) (by rw [c4]; exact fN _ (by omega)) B w hB hT)
                rw [c4] at HA2
                have HM3 := hide (fun w hB hT => mmul_to (s := strB (Lib.itoa (((U * 12 + V) * 12 + Z : Nat) : Int))) (t := ⟨#[49, 50, 55]⟩) (strB_list _) lit127 (fN _ (by omega)) (fits_lit (by decide)) (by rw [c5]; exact fN _ (by omega)) B w hB hT)
                rw [c5] at HM3
                have hwl : (((U * 12 + V) * 12 + Z) * 127) < 10 ^ 92 := by omega
                obtain ⟨K, hK⟩ : ∃ K, K = ((U * 12 + V) * 12 + Z) * 127 := ⟨_, rfl⟩
                rw [← hK] at HM3 hwl ⊢
                have HF := hide (fun w hB hT => HFR.out (strB (Lib.itoa (K : Int))) ⟨#[54, 48]⟩ 60 (by rw [strB_list, Lib.itoa_nonneg]; exact decDigits_dg _) (by rw [strB_size, Lib.itoa_nonneg]; exact (dec_len_le (by omega)).2 hwl) (by rw [lit60, show (60 : Int) = ((60 : Nat) : Int) from rfl, Lib.itoa_nonneg]) (by decide) (by decide) w hB hT)
                rw [strB_list, Lib.itoa_nonneg, dv_decDigits] at HF
                have hKt : strB (Lib.decDigits K) = strB (Lib.itoa (K : Int)) := by rw [Lib.itoa_nonneg]
                rw [hKt] at HF
                obtain ⟨X, hX⟩ : ∃ X, X = strB (ratS (sgn neg ((K : Nat) / ((60 : Nat) : Rat)))) := ⟨_, rfl⟩
                rw [show pairV (ratS (sgn neg ((K : Nat) / ((60 : Nat) : Rat)))) 0 = .tuple #[.string X, .int .i64 0] by rw [hX]]
                rw [← hX] at HF
                obtain ⟨E1, hE1⟩ : ∃ X, X = strB (Lib.itoa ((U * 12 : Nat) : Int)) := ⟨_, rfl⟩
                obtain ⟨E2, hE2⟩ : ∃ X, X = strB (Lib.itoa ((U * 12 + V : Nat) : Int)) := ⟨_, rfl⟩
                obtain ⟨E3, hE3⟩ : ∃ X, X = strB (Lib.itoa (((U * 12 + V) * 12 : Nat) : Int)) := ⟨_, rfl⟩
                obtain ⟨E4, hE4⟩ : ∃ X, X = strB (Lib.itoa (((U * 12 + V) * 12 + Z : Nat) : Int)) := ⟨_, rfl⟩
                obtain ⟨E5, hE5⟩ : ∃ X, X = strB (Lib.itoa (K : Int)) := ⟨_, rfl⟩
                have HA1 : Hid (∀ w, B ≤ w.heap.size → P10 B w → Calls Tryz.prog 59 #[.string E1, .string I] w (Ret w (.tuple #[.string E2, .int .i64 0]))) := hide (by rw [hE1, hE2]; exact HA1.out)
                have HA2 : Hid (∀ w, B ≤ w.heap.size → P10 B w → Calls Tryz.prog 59 #[.string E3, .string T] w (Ret w (.tuple #[.string E4, .int .i64 0]))) := hide (by rw [hE3, hE4]; exact HA2.out)
                rw [← hE1] at HM1
                rw [← hE2, ← hE3] at HM2
                rw [← hE4, ← hE5] at HM3
                rw [← hE5] at HF
                clear k1 k2 k3 k4 k5 hk hqq hsz hsz2 hnum hWA hEq HDA HSM1 HSM2 HFR h34 h39 i1 i2 t1 t2 hU hV hZ hUb p1 p2 p3 gA gI gT c1 c2 c3 c4 c5 fN hwl hK hKt hX hE1 hE2 hE3 hE4 hE5
                clear hbad hgood hpe hok hq hok2 hq2 h90 hneg hL hLl hO hOl hOs hSG hT tz1 tz2 hal hbl ha hb hb39 hbl2 hsum hA hR hAl hAs hRl hRs hil htl hi ht ht34 htl2 hsum2 hI hT2 hIl hIs hTl hTs
                go_enter Tryz.func17, Tryz.ntmps17
                go_wp2_with fail
                refine (HSI.out).mono ?_
                rintro e w1 ⟨rfl, hb1⟩
                have HB1 := hide hb1
                clear hb1
                go_wp2_with fail
                refine (HC39.out _ (HT.out.on HB1.out hB)).mono ?_
                rintro e w2 ⟨rfl, hb2⟩
                have HB2 := hide (HB1.out.trans (hb2.mono HB1.out.size))
                clear hb2
                go_wp2_with fail
                refine (HC34.out _ (HT.out.on HB2.out hB)).mono ?_
                rintro e w3 ⟨rfl, hb3⟩
                have HB3 := hide (HB2.out.trans (hb3.mono HB2.out.size))
                clear hb3
                go_wp2_with fail
                refine (HD.out _).mono ?_
                rintro e w4 ⟨rfl, hb4⟩
                have HB4 := hide (HB3.out.trans (hb4.mono HB3.out.size))
                clear hb4
                go_wp2_with fail
                refine (HW.out _).mono ?_
                rintro e w5 ⟨rfl, hb5⟩
                have HB5 := hide (HB4.out.trans (hb5.mono HB4.out.size))
                clear hb5
                go_wp2_with fail
                refine (HS1.out _).mono ?_
                rintro e w6 ⟨rfl, hb6⟩
                have HB6 := hide (HB5.out.trans (hb6.mono HB5.out.size))
                clear hb6
                go_wp2_with fail
                refine (HS2.out _).mono ?_
                rintro e w7 ⟨rfl, hb7⟩
                have HB7 := hide (HB6.out.trans (hb7.mono HB6.out.size))
                clear hb7
                go_wp2_with fail
                refine (HM1.out _ (Nat.le_trans hB HB7.out.size) (HT.out.p10.on HB7.out hB)).mono ?_
                rintro e w8 ⟨rfl, hb8⟩
                have HB8 := hide (HB7.out.trans (hb8.mono HB7.out.size))
                clear hb8
                go_wp2_with fail
                refine (HA1.out _ (Nat.le_trans hB HB8.out.size) (HT.out.p10.on HB8.out hB)).mono ?_
                rintro e w9 ⟨rfl, hb9⟩
                have HB9 := hide (HB8.out.trans (hb9.mono HB8.out.size))
                clear hb9
                go_wp2_with fail
                refine (HM2.out _ (Nat.le_trans hB HB9.out.size) (HT.out.p10.on HB9.out hB)).mono ?_
                rintro e w10 ⟨rfl, hb10⟩
                have HB10 := hide (HB9.out.trans (hb10.mono HB9.out.size))
                clear hb10
                go_wp2_with fail
                refine (HA2.out _ (Nat.le_trans hB HB10.out.size) (HT.out.p10.on HB10.out hB)).mono ?_
                rintro e w11 ⟨rfl, hb11⟩
                have HB11 := hide (HB10.out.trans (hb11.mono HB10.out.size))
                clear hb11
                go_wp2_with fail
                refine (HM3.out _ (Nat.le_trans hB HB11.out.size) (HT.out.p10.on HB11.out hB)).mono ?_
                rintro e w12 ⟨rfl, hb12⟩
                have HB12 := hide (HB11.out.trans (hb12.mono HB11.out.size))
                clear hb12
                go_wp2_with fail
                refine (HF.out _ (Nat.le_trans hB HB12.out.size) (HT.out.on HB12.out hB)).mono ?_
                rintro e w13 ⟨rfl, hb13⟩
                have HB13 := hide (HB12.out.trans (hb13.mono HB12.out.size))
                clear hb13
                go_wp2_with fail
                refine bodyPost_ret (results_tmp2 rfl _ _ _) rfl ?_
                exact ⟨rfl, HB13.out⟩
            · have HS2 := hide (HSM2.out false (by simpa using k4))
              rw [hbad (fun h => k4 (hk.1 h).2.2.1)]
              clear k1 k2 k3 k4 hk hqq hsz hsz2 hnum hWA hEq HDA HSM1 HSM2 HFR h34 h39
              clear hbad hgood hpe hok hq hok2 hq2 h90 hneg hL hLl hO hOl hOs hSG hT tz1 tz2 hal hbl ha hb hb39 hbl2 hsum hA hR hAl hAs hRl hRs hil htl hi ht ht34 htl2 hsum2 hI hT2 hIl hIs hTl hTs
              go_enter Tryz.func17, Tryz.ntmps17
              go_wp2_with fail
              refine (HSI.out).mono ?_
              rintro e w1 ⟨rfl, hb1⟩
              have HB1 := hide hb1
              clear hb1
              go_wp2_with fail
              refine (HC39.out _ (HT.out.on HB1.out hB)).mono ?_
              rintro e w2 ⟨rfl, hb2⟩
              have HB2 := hide (HB1.out.trans (hb2.mono HB1.out.size))
              clear hb2
              go_wp2_with fail
              refine (HC34.out _ (HT.out.on HB2.out hB)).mono ?_
              rintro e w3 ⟨rfl, hb3⟩
              have HB3 := hide (HB2.out.trans (hb3.mono HB2.out.size))
              clear hb3
              go_wp2_with fail
              refine (HD.out _).mono ?_
              rintro e w4 ⟨rfl, hb4⟩
              have HB4 := hide (HB3.out.trans (hb4.mono HB3.out.size))
              clear hb4
              go_wp2_with fail
              refine (HW.out _).mono ?_
              rintro e w5 ⟨rfl, hb5⟩
              have HB5 := hide (HB4.out.trans (hb5.mono HB4.out.size))
              clear hb5
              go_wp2_with fail
              refine (HS1.out _).mono ?_
              rintro e w6 ⟨rfl, hb6⟩
              have HB6 := hide (HB5.out.trans (hb6.mono HB5.out.size))
              clear hb6
              go_wp2_with fail
              refine (HS2.out _).mono ?_
              rintro e w7 ⟨rfl, hb7⟩
              have HB7 := hide (HB6.out.trans (hb7.mono HB6.out.size))
              clear hb7
              go_wp2_with fail
              refine bodyPost_ret (results_tmp2 rfl _ _ _) rfl ?_
              exact ⟨rfl, HB7.out⟩
          · have HS1 := hide (HSM1.out false (by simpa using k3))
            rw [hbad (fun h => k3 (hk.1 h).2.1)]
            clear k1 k2 k3 hk hqq hsz hsz2 hnum hWA hEq HDA HSM1 HSM2 HFR h34 h39
            clear hbad hgood hpe hok hq hok2 hq2 h90 hneg hL hLl hO hOl hOs hSG hT tz1 tz2 hal hbl ha hb hb39 hbl2 hsum hA hR hAl hAs hRl hRs hil htl hi ht ht34 htl2 hsum2 hI hT2 hIl hIs hTl hTs
            go_enter Tryz.func17, Tryz.ntmps17
            go_wp2_with fail
            refine (HSI.out).mono ?_
            rintro e w1 ⟨rfl, hb1⟩
            have HB1 := hide hb1
            clear hb1
            go_wp2_with fail
            refine (HC39.out _ (HT.out.on HB1.out hB)).mono ?_
            rintro e w2 ⟨rfl, hb2⟩
            have HB2 := hide (HB1.out.trans (hb2.mono HB1.out.size))
            clear hb2
            go_wp2_with fail
            refine (HC34.out _ (HT.out.on HB2.out hB)).mono ?_
            rintro e w3 ⟨rfl, hb3⟩
            have HB3 := hide (HB2.out.trans (hb3.mono HB2.out.size))
            clear hb3
            go_wp2_with fail
            refine (HD.out _).mono ?_
            rintro e w4 ⟨rfl, hb4⟩
            have HB4 := hide (HB3.out.trans (hb4.mono HB3.out.size))
            clear hb4
            go_wp2_with fail
            refine (HW.out _).mono ?_
            rintro e w5 ⟨rfl, hb5⟩
            have HB5 := hide (HB4.out.trans (hb5.mono HB4.out.size))
            clear hb5
            go_wp2_with fail
            refine (HS1.out _).mono ?_
            rintro e w6 ⟨rfl, hb6⟩
            have HB6 := hide (HB5.out.trans (hb6.mono HB5.out.size))
            clear hb6
            go_wp2_with fail
            refine bodyPost_ret (results_tmp2 rfl _ _ _) rfl ?_
            exact ⟨rfl, HB6.out⟩
        · have hwn : (WA.toList != A.toList) = true := by
            rw [ByteArray.toList_eq, ByteArray.toList_eq, hWA, strB_list, hAl]
            simpa using k2
          have hwe : (WA.toList == A.toList) = false := by
            rw [ByteArray.toList_eq, ByteArray.toList_eq, hWA, strB_list, hAl]
            simpa using k2
          rw [hbad (fun h => k2 (numeral_iff.1 (hk.1 h).1).2)]
          clear k1 k2 hk hqq hsz hsz2 hWA HDA HSM1 HSM2 HFR h34 h39
          clear hbad hgood hpe hok hq hok2 hq2 h90 hneg hL hLl hO hOl hOs hSG hT tz1 tz2 hal hbl ha hb hb39 hbl2 hsum hA hR hAl hAs hRl hRs hil htl hi ht ht34 htl2 hsum2 hI hT2 hIl hIs hTl hTs
          go_enter Tryz.func17, Tryz.ntmps17
          go_wp2_with fail
          refine (HSI.out).mono ?_
          rintro e w1 ⟨rfl, hb1⟩
          have HB1 := hide hb1
          clear hb1
          go_wp2_with fail
          refine (HC39.out _ (HT.out.on HB1.out hB)).mono ?_
          rintro e w2 ⟨rfl, hb2⟩
          have HB2 := hide (HB1.out.trans (hb2.mono HB1.out.size))
          clear hb2
          go_wp2_with fail
          refine (HC34.out _ (HT.out.on HB2.out hB)).mono ?_
          rintro e w3 ⟨rfl, hb3⟩
          have HB3 := hide (HB2.out.trans (hb3.mono HB2.out.size))
          clear hb3
          go_wp2_with fail
          refine (HD.out _).mono ?_
          rintro e w4 ⟨rfl, hb4⟩
          have HB4 := hide (HB3.out.trans (hb4.mono HB3.out.size))
          clear hb4
          go_wp2_with fail
          refine (HW.out _).mono ?_
          rintro e w5 ⟨rfl, hb5⟩
          have HB5 := hide (HB4.out.trans (hb5.mono HB4.out.size))
          clear hb5
          go_wp2_with fail
          refine bodyPost_ret (results_tmp2 rfl _ _ _) rfl ?_
          exact ⟨rfl, HB5.out⟩
      · have HD := hide (HDA.out false (by simpa using k1))
        rw [hbad (fun h => k1 (numeral_iff.1 (hk.1 h).1).1)]
        clear k1 hk hqq hsz hsz2 HDA HSM1 HSM2 HFR h34 h39
        clear hbad hgood hpe hok hq hok2 hq2 h90 hneg hL hLl hO hOl hOs hSG hT tz1 tz2 hal hbl ha hb hb39 hbl2 hsum hA hR hAl hAs hRl hRs hil htl hi ht ht34 htl2 hsum2 hI hT2 hIl hIs hTl hTs
        go_enter Tryz.func17, Tryz.ntmps17
        go_wp2_with fail
        refine (HSI.out).mono ?_
        rintro e w1 ⟨rfl, hb1⟩
        have HB1 := hide hb1
        clear hb1
        go_wp2_with fail
        refine (HC39.out _ (HT.out.on HB1.out hB)).mono ?_
        rintro e w2 ⟨rfl, hb2⟩
        have HB2 := hide (HB1.out.trans (hb2.mono HB1.out.size))
        clear hb2
        go_wp2_with fail
        refine (HC34.out _ (HT.out.on HB2.out hB)).mono ?_
        rintro e w3 ⟨rfl, hb3⟩
        have HB3 := hide (HB2.out.trans (hb3.mono HB2.out.size))
        clear hb3
        go_wp2_with fail
        refine (HD.out _).mono ?_
        rintro e w4 ⟨rfl, hb4⟩
        have HB4 := hide (HB3.out.trans (hb4.mono HB3.out.size))
        clear hb4
        go_wp2_with fail
        refine bodyPost_ret (results_tmp2 rfl _ _ _) rfl ?_
        exact ⟨rfl, HB4.out⟩
    · rw [show decide (39 ∈ L) = true by simpa using h39] at HC39
      rw [show decide (34 ∈ b) = false by simpa using h34] at HC34
      rw [hbad (fun h => h34 (by have := (hok.1 h).2.1; rwa [hb39 h39] at this))]
      clear HDA HSM1 HSM2 HFR h34 h39
      clear hbad hgood hpe hok hq hok2 hq2 h90 hneg hL hLl hO hOl hOs hSG hT tz1 tz2 hal hbl ha hb hb39 hbl2 hsum hA hR hAl hAs hRl hRs hil htl hi ht ht34 htl2 hsum2 hI hT2 hIl hIs hTl hTs
      go_enter Tryz.func17, Tryz.ntmps17
      go_wp2_with fail
      refine (HSI.out).mono ?_
      rintro e w1 ⟨rfl, hb1⟩
      have HB1 := hide hb1
      clear hb1
      go_wp2_with fail
      refine (HC39.out _ (HT.out.on HB1.out hB)).mono ?_
      rintro e w2 ⟨rfl, hb2⟩
      have HB2 := hide (HB1.out.trans (hb2.mono HB1.out.size))
      clear hb2
      go_wp2_with fail
      refine (HC34.out _ (HT.out.on HB2.out hB)).mono ?_
      rintro e w3 ⟨rfl, hb3⟩
      have HB3 := hide (HB2.out.trans (hb3.mono HB2.out.size))
      clear hb3
      go_wp2_with fail
      refine bodyPost_ret (results_tmp2 rfl _ _ _) rfl ?_
      exact ⟨rfl, HB3.out⟩
  · rw [show decide (39 ∈ L) = false by simpa using h39] at HC39
    obtain ⟨is, his⟩ : ∃ is, is = decide (34 ∈ b) := ⟨_, rfl⟩
    rw [← his] at HC34
    rw [hbad (fun h => h39 (hok.1 h).1)]
    clear HDA HSM1 HSM2 HFR h39 his
    clear hbad hgood hpe hok hq hok2 hq2 h90 hneg hL hLl hO hOl hOs hSG hT tz1 tz2 hal hbl ha hb hb39 hbl2 hsum hA hR hAl hAs hRl hRs hil htl hi ht ht34 htl2 hsum2 hI hT2 hIl hIs hTl hTs
    go_enter Tryz.func17, Tryz.ntmps17
    go_wp2_with fail
    refine (HSI.out).mono ?_
    rintro e w1 ⟨rfl, hb1⟩
    have HB1 := hide hb1
    clear hb1
    go_wp2_with fail
    refine (HC39.out _ (HT.out.on HB1.out hB)).mono ?_
    rintro e w2 ⟨rfl, hb2⟩
    have HB2 := hide (HB1.out.trans (hb2.mono HB1.out.size))
    clear hb2
    go_wp2_with fail
    refine (HC34.out _ (HT.out.on HB2.out hB)).mono ?_
    rintro e w3 ⟨rfl, hb3⟩
    have HB3 := hide (HB2.out.trans (hb3.mono HB2.out.size))
    clear hb3
    go_wp2_with fail
    refine bodyPost_ret (results_tmp2 rfl _ _ _) rfl ?_
    exact ⟨rfl, HB3.out⟩
open Go.RowKit Go.KP Go.KI Go.Shelf
attribute [local go_sem] Oper.semAt_some

theorem r2negative_T {y : Rat} (fy : fitsQ y) (w : World) : Calls Tryz.prog 104 #[.string (T y)] w (Ret w (.string (T (-y)))) := by
  obtain ⟨hp, he⟩ := T_head0 y
  have hz := T_zero0 y
  have hs := T_size fy
  have hp0 : (0 : Int) < ((T y).size : Int) := by omega
  have hp1 : (1 : Int) ≤ ((T y).size : Int) := by omega
  have hcat : (9223372036854775807 < 1 + (T y).size) = False := eq_false (by omega)
  have hk : ((T y).toList == [48]) = true ∧ T (-y) = T y ∨ ((T y).toList == [48]) = false ∧ (((((T y)[0]'hp).toNat : Nat) : Int) == 45) = true ∧ (T y).extract 1 (T y).size = T (-y) ∨
      ((T y).toList == [48]) = false ∧ (((((T y)[0]'hp).toNat : Nat) : Int) == 45) = false ∧ (⟨#[45]⟩ : ByteArray) ++ T y = T (-y) := by
    by_cases h0 : y = 0
    · exact .inl ⟨by rw [hz, decide_eq_true h0], by rw [h0, Rat.neg_zero]⟩
    · have hn : y.num ≠ 0 := fun e => h0 (Rat.num_eq_zero.1 e)
      by_cases h1 : y.num < 0
      · exact .inr (.inl ⟨by rw [hz, decide_eq_false h0], by rw [he, decide_eq_true h1], T_neg_drop h1⟩)
      · exact .inr (.inr ⟨by rw [hz, decide_eq_false h0], by rw [he, decide_eq_false h1], T_pos_neg (by omega)⟩)
  clear he hz hs
  generalize T y = S at hp hp0 hp1 hcat hk ⊢
  generalize T (-y) = R at hk ⊢
  rcases hk with ⟨a1, a2⟩ | ⟨a1, a2, a3⟩ | ⟨a1, a2, a3⟩
  · subst a2
    go_enter Tryz.func104, Tryz.ntmps104
    go_wp2_with fail
    go_ret
    exact ⟨rfl, Below.refl _ _⟩
  · have A3 := hide a3
    clear a3
    go_enter Tryz.func104, Tryz.ntmps104
    go_wp2_with fail
    go_ret
    exact ⟨by rw [← A3.out]; rfl, Below.refl _ _⟩
  · have A3 := hide a3
    clear a3
    go_enter Tryz.func104, Tryz.ntmps104
    go_wp2_with fail
    go_ret
    exact ⟨by rw [← A3.out]; rfl, Below.refl _ _⟩
theorem r2Sub_T {x y : Rat} (fx : fitsQ x) (fy : fitsQ y) (B : Nat) (w : World) (hB : B ≤ w.heap.size) (hT : PQ B w) :
    Calls Tryz.prog 55 #[.string (T x), .string (T y)] w (Ret w (opV (subO x y))) := by
  have HT := hide hT
  have H1 := hide (fun w hB hT => r2check_T fx fy B w hB hT)
  have HN := hide (fun w => r2negative_T fy w)
  have H2 := hide (fun w hB hT => r2add_T fx (fitsQ_neg fy) B w hB hT)
  have e : addO x (-y) = subO x y := by
    unfold addO subO
    by_cases h : subC x y
    · rw [if_pos h, if_pos ((addC_neg x y).2 h), Rat.sub_eq_add_neg]
    · rw [if_neg h, if_neg (fun a => h ((addC_neg x y).1 a))]
  rw [e] at H2
  obtain ⟨S, hS⟩ : ∃ s, s = T x := ⟨_, rfl⟩
  obtain ⟨U, hU⟩ : ∃ s, s = T y := ⟨_, rfl⟩
  obtain ⟨V, hV⟩ : ∃ s, s = T (-y) := ⟨_, rfl⟩
  rw [← hS, ← hU] at H1 ⊢
  rw [← hU, ← hV] at HN
  rw [← hS, ← hV] at H2
  clear hS hU hV hT fx fy e
  generalize subO x y = O at H2 ⊢
  cases O
  all_goals
    unfold opV at H2 ⊢
    dsimp only at H2 ⊢
    go_enter Tryz.func55, Tryz.ntmps55
    go_wp2_with fail
    refine (H1.out _ hB HT.out).mono ?_
    rintro e w1 ⟨rfl, hb1⟩
    have HB1 := hide hb1
    clear hb1
    go_wp2_with fail
    refine (HN.out _).mono ?_
    rintro e w2 ⟨rfl, hb2⟩
    have HB2 := hide (HB1.out.trans (hb2.mono HB1.out.size))
    clear hb2
    go_wp2_with fail
    refine (H2.out _ (Nat.le_trans hB HB2.out.size) (HT.out.on HB2.out hB)).mono ?_
    rintro e w3 ⟨rfl, hb3⟩
    have HB3 := hide (HB2.out.trans (hb3.mono HB2.out.size))
    clear hb3
    go_wp2_with fail
    refine bodyPost_ret (results_tmp2 rfl _ _ _) rfl ?_
    exact ⟨rfl, HB3.out⟩
end Go.Proofs.YtfcjaljaomknjaaGreatDoor
namespace Go.KI
open Go

def pieces : List UInt8 → List (List UInt8)
  | [] => [[]]
  | c :: r => if c = 32 then [] :: pieces r else match pieces r with
    | [] => [[c]]
    | p :: t => (c :: p) :: t
def wordsL (l : List UInt8) : List (List UInt8) := if l = [] then [] else pieces l
def prn (c : UInt8) : Bool := decide (33 ≤ c.toNat) && decide (c.toNat ≤ 126)
def okW (w : List UInt8) : Bool := !w.isEmpty && w.all prn
theorem pieces_ne (l : List UInt8) : pieces l ≠ [] := by
  cases l with
  | nil => simp [pieces]
  | cons c r =>
    unfold pieces
    split
    · simp
    · split <;> simp
theorem pieces_cons (c : UInt8) (r : List UInt8) : pieces (c :: r) = if c = 32 then [] :: pieces r else match pieces r with
    | [] => [[c]]
    | p :: t => (c :: p) :: t := rfl
theorem pieces_cut {l : List UInt8} : pieces l = if 32 ∈ l then l.takeWhile (fun c => c != 32) :: pieces ((l.dropWhile (fun c => c != 32)).drop 1) else [l] := by
  induction l with
  | nil => rfl
  | cons c r ih =>
    rw [pieces_cons]
    by_cases hc : c = 32
    · subst hc
      rw [if_pos rfl, if_pos (by simp)]
      rfl
    · rw [if_neg hc]
      have h1 : (c != 32) = true := by simpa using hc
      have h2 : (32 ∈ c :: r) ↔ 32 ∈ r := by simp [Ne.symm hc]
      have e1 : (c :: r).takeWhile (fun c => c != 32) = c :: r.takeWhile (fun c => c != 32) := by simp [h1]
      have e2 : (c :: r).dropWhile (fun c => c != 32) = r.dropWhile (fun c => c != 32) := by simp [h1]
      rw [e1, e2]
      by_cases hr : 32 ∈ r
      · rw [if_pos hr] at ih
        rw [if_pos (h2.2 hr), ih]
      · rw [if_neg hr] at ih
        rw [if_neg (fun h => hr (h2.1 h)), ih]
theorem pieces_one {l : List UInt8} (h : 32 ∉ l) : pieces l = [l] := by
  rw [pieces_cut, if_neg h]
def alnum (c : UInt8) : Bool := (decide (97 ≤ c.toNat) && decide (c.toNat ≤ 122)) || (decide (65 ≤ c.toNat) && decide (c.toNat ≤ 90)) || (decide (48 ≤ c.toNat) && decide (c.toNat ≤ 57))
def nameL (l : List UInt8) : Bool := l.all alnum && !l.isEmpty && decide (l.length ≤ 16)
open Go

theorem ahead_none {c : UInt8} {l : List UInt8} (h : ¬ c ∈ l) : ahead c l = l := by
  show l.takeWhile (fun x => x != c) = l
  induction l with
  | nil => rfl
  | cons a r ih =>
    have ha : (a != c) = true := by
      have : a ≠ c := fun e => h (by rw [e]; simp)
      simpa using this
    rw [List.takeWhile_cons, if_pos ha, ih (fun e => h (by simp [e]))]
theorem pieces_split {a b : List UInt8} (h : 32 ∉ a) : pieces (a ++ 32 :: b) = a :: pieces b := by
  induction a with
  | nil => rw [List.nil_append, pieces_cons, if_pos rfl]
  | cons c r ih =>
    have hc : c ≠ 32 := fun e => h (by rw [e]; simp)
    have hr : 32 ∉ r := fun e => h (by simp [e])
    rw [List.cons_append, pieces_cons, if_neg hc, ih hr]
theorem pieces_cover {l : List UInt8} {c : UInt8} (h : c ∈ l) (hc : c ≠ 32) : ∃ w ∈ pieces l, c ∈ w := by
  induction l with
  | nil => cases h
  | cons x r ih =>
    rw [pieces_cons]
    by_cases hx : x = 32
    · rw [if_pos hx]
      rcases List.mem_cons.1 h with e | e
      · exact absurd (e.trans hx) hc
      · obtain ⟨w, hw, hcw⟩ := ih e
        exact ⟨w, by simp [hw], hcw⟩
    · rw [if_neg hx]
      cases hp : pieces r with
      | nil => exact absurd hp (pieces_ne r)
      | cons p t =>
        rw [hp] at ih
        rcases List.mem_cons.1 h with e | e
        · exact ⟨x :: p, by simp, by rw [e]; simp⟩
        · obtain ⟨w, hw, hcw⟩ := ih e
          rcases List.mem_cons.1 hw with q | q
          · exact ⟨x :: p, by simp, by rw [q] at hcw; simp [hcw]⟩
          · exact ⟨w, by simp [q], hcw⟩
theorem words_byte {l : List UInt8} {c : UInt8} (h : c ∈ l) (hp : prn c = false) (hc : c ≠ 32) : (wordsL l).all okW = false := by
  have hl : l ≠ [] := fun e => by rw [e] at h; cases h
  unfold wordsL
  rw [if_neg hl]
  obtain ⟨w, hw, hcw⟩ := pieces_cover h hc
  rw [List.all_eq_false]
  refine ⟨w, hw, ?_⟩
  unfold okW
  have : w.all prn = false := List.all_eq_false.2 ⟨c, hcw, by simp [hp]⟩
  rw [this, Bool.and_false]
  simp
theorem words_hole {l : List UInt8} (hl : l ≠ []) (h : [] ∈ pieces l) : (wordsL l).all okW = false := by
  unfold wordsL
  rw [if_neg hl, List.all_eq_false]
  exact ⟨[], h, by simp [okW]⟩
theorem all_prn_no {a : List UInt8} (h : a.all prn = true) : 32 ∉ a := fun e => by
  have := List.all_eq_true.1 h 32 e
  revert this
  decide
structure Pass (l : List UInt8) (P : List (List UInt8)) (k i : Nat) : Prop where
  le : k ≤ i
  len : i ≤ l.length
  cut : pieces l = P ++ pieces (l.drop k)
  ok : P.all okW = true
  run : ((l.drop k).take (i - k)).all prn = true
theorem Pass.start (l : List UInt8) : Pass l [] 0 0 := ⟨Nat.le_refl _, Nat.zero_le _, by simp, rfl, by simp⟩
theorem drop_take_succ {l : List UInt8} {k i : Nat} {c : UInt8} (hk : k ≤ i) (hc : l[i]? = some c) : (l.drop k).take (i + 1 - k) = (l.drop k).take (i - k) ++ [c] := by
  rw [show i + 1 - k = (i - k) + 1 by omega, List.take_add_one, List.getElem?_drop, show k + (i - k) = i by omega, hc]
  rfl
theorem Pass.step {l : List UInt8} {P : List (List UInt8)} {k i : Nat} {c : UInt8} (h : Pass l P k i) (hc : l[i]? = some c) (hp : prn c = true) : Pass l P k (i + 1) := by
  have hi : i < l.length := (List.getElem?_eq_some_iff.1 hc).1
  refine ⟨by have := h.le; omega, hi, h.cut, h.ok, ?_⟩
  rw [drop_take_succ h.le hc, List.all_append, h.run]
  simp [hp]
theorem Pass.bad {l : List UInt8} {P : List (List UInt8)} {k i : Nat} {c : UInt8} (_ : Pass l P k i) (hc : l[i]? = some c) (hp : prn c = false) (h32 : c ≠ 32) : (wordsL l).all okW = false :=
  words_byte (List.mem_of_getElem? hc) hp h32
theorem drop_at_space {l : List UInt8} {k i : Nat} (hk : k ≤ i) (hc : l[i]? = some 32) : l.drop k = (l.drop k).take (i - k) ++ 32 :: l.drop (i + 1) := by
  have hi : i < l.length := (List.getElem?_eq_some_iff.1 hc).1
  have h1 := List.take_append_drop (i - k) (l.drop k)
  have h2 : (l.drop k).drop (i - k) = 32 :: l.drop (i + 1) := by
    rw [List.drop_drop, show k + (i - k) = i by omega, List.drop_eq_getElem_cons hi]
    congr 1
    rw [List.getElem?_eq_getElem hi] at hc
    exact Option.some.inj hc
  rw [h2] at h1
  exact h1.symm
theorem Pass.hole {l : List UInt8} {P : List (List UInt8)} {k : Nat} (h : Pass l P k k) (hc : l[k]? = some 32) : (wordsL l).all okW = false := by
  have hl : l ≠ [] := fun e => by rw [e] at hc; cases hc
  refine words_hole hl ?_
  rw [h.cut, drop_at_space (Nat.le_refl k) hc]
  simp [pieces_cons]
theorem Pass.holeEnd {l : List UInt8} {P : List (List UInt8)} (h : Pass l P l.length l.length) (hl : l ≠ []) : (wordsL l).all okW = false := by
  refine words_hole hl ?_
  rw [h.cut, List.drop_length]
  simp [pieces]
theorem Pass.word {l : List UInt8} {P : List (List UInt8)} {k i : Nat} (h : Pass l P k i) (hc : l[i]? = some 32) (hk : k < i) : Pass l (P ++ [(l.drop k).take (i - k)]) (i + 1) (i + 1) := by
  have hi : i < l.length := (List.getElem?_eq_some_iff.1 hc).1
  refine ⟨Nat.le_refl _, hi, ?_, ?_, by simp⟩
  · rw [h.cut, drop_at_space h.le hc, pieces_split (all_prn_no h.run), List.append_assoc, List.take_left' (by rw [List.length_take, List.length_drop]; omega)]
    rfl
  · rw [List.all_append, h.ok]
    unfold okW
    simp only [List.all_cons, List.all_nil, Bool.and_true, Bool.true_and]
    rw [h.run, Bool.and_true]
    simp only [Bool.not_eq_true', List.isEmpty_eq_false_iff]
    intro e
    have := congrArg List.length e
    rw [List.length_take, List.length_drop] at this
    simp at this
    omega
theorem Pass.last {l : List UInt8} {P : List (List UInt8)} {k : Nat} (h : Pass l P k l.length) (hk : k < l.length) : wordsL l = P ++ [(l.drop k).take (l.length - k)] ∧ (wordsL l).all okW = true := by
  have hl : l ≠ [] := fun e => by rw [e] at hk; cases hk
  have ht : (l.drop k).take (l.length - k) = l.drop k := List.take_of_length_le (by rw [List.length_drop]; exact Nat.le_refl _)
  have hr := h.run
  rw [ht] at hr ⊢
  have hw : wordsL l = P ++ [l.drop k] := by
    unfold wordsL
    rw [if_neg hl, h.cut, pieces_one (all_prn_no hr)]
  refine ⟨hw, ?_⟩
  rw [hw, List.all_append, h.ok]
  unfold okW
  simp only [List.all_cons, List.all_nil, Bool.and_true, Bool.true_and]
  rw [hr, Bool.and_true]
  simp only [Bool.not_eq_true', List.isEmpty_eq_false_iff]
  intro e
  have := congrArg List.length e
  rw [List.length_drop] at this
  simp at this
  omega
theorem pieces_len (l : List UInt8) : (pieces l).length ≤ l.length + 1 := by
  induction l with
  | nil => simp [pieces]
  | cons c r ih =>
    rw [pieces_cons]
    by_cases hc : c = 32
    · rw [if_pos hc, List.length_cons, List.length_cons]
      omega
    · rw [if_neg hc]
      cases hp : pieces r with
      | nil => simp
      | cons p t =>
        rw [hp] at ih
        simp only [List.length_cons] at ih ⊢
        omega
theorem words_len (l : List UInt8) : (wordsL l).length ≤ l.length + 1 := by
  unfold wordsL
  split
  · simp
  · exact pieces_len l
theorem Pass.count {l : List UInt8} {P : List (List UInt8)} {k i : Nat} (h : Pass l P k i) : P.length ≤ l.length + 1 := by
  have h1 := congrArg List.length h.cut
  have h2 := pieces_len l
  rw [List.length_append] at h1
  omega
theorem piece_len (l : List UInt8) : ∀ w ∈ pieces l, w.length ≤ l.length := by
  induction l with
  | nil => simp [pieces]
  | cons c r ih =>
    rw [pieces_cons]
    by_cases hc : c = 32
    · rw [if_pos hc]
      intro w hw
      rcases List.mem_cons.1 hw with h | h
      · rw [h]; simp
      · have := ih w h
        rw [List.length_cons]
        omega
    · rw [if_neg hc]
      cases hp : pieces r with
      | nil => exact absurd hp (pieces_ne r)
      | cons p t =>
        rw [hp] at ih
        intro w hw
        rcases List.mem_cons.1 hw with h | h
        · have := ih p (by simp)
          rw [h, List.length_cons, List.length_cons]
          omega
        · have := ih w (by simp [h])
          rw [List.length_cons]
          omega
theorem word_len {l : List UInt8} {k : Nat} (h : k < (wordsL l).length) : ((wordsL l).getD k []).length ≤ l.length := by
  have hm : (wordsL l).getD k [] ∈ wordsL l := by simp [h]
  unfold wordsL at hm
  split at hm
  · simp at hm
  · exact piece_len l _ (by rename_i h0; unfold wordsL; rw [if_neg h0]; exact hm)
theorem words_cut {l : List UInt8} (hl : l ≠ []) : (32 ∉ l ∧ wordsL l = [l]) ∨ (32 ∈ l ∧ behind 32 l = [] ∧ wordsL l = [ahead 32 l, []]) ∨ (32 ∈ l ∧ behind 32 l ≠ [] ∧ wordsL l = ahead 32 l :: wordsL (behind 32 l)) := by
  have h := pieces_cut (l := l)
  have e1 : l.takeWhile (fun c => c != 32) = ahead 32 l := rfl
  have e2 : (l.dropWhile (fun c => c != 32)).drop 1 = behind 32 l := rfl
  rw [e1, e2] at h
  unfold wordsL
  rw [if_neg hl, h]
  by_cases h32 : 32 ∈ l
  · rw [if_pos h32]
    by_cases hb : behind 32 l = []
    · exact .inr (.inl ⟨h32, hb, by rw [hb]; rfl⟩)
    · exact .inr (.inr ⟨h32, hb, by rw [if_neg hb]⟩)
  · rw [if_neg h32]
    exact .inl ⟨h32, rfl⟩
end Go.KI
namespace Go.Proofs.YtfcjaljaomknjaaGreatDoor
open Go.RowKit Go.KP Go.KI Go.Shelf
attribute [local go_sem] Oper.semAt_some

theorem near2_floor {x : Rat} {N D : Int} (hD : 0 < D) (h : x * (D : Rat) = (N : Rat)) : (x + 1 / 2).floor = near2 N D := by
  obtain ⟨h1, h2⟩ := near2_spec (n := N) hD
  obtain ⟨m, hm⟩ : ∃ m, m = near2 N D := ⟨_, rfl⟩
  rw [← hm] at h1 h2 ⊢
  have hd := Rat.intCast_lt_intCast.2 hD
  have g1 := Rat.intCast_le_intCast.2 h1
  have g2 := Rat.intCast_lt_intCast.2 h2
  simp only [Rat.intCast_add, Rat.intCast_mul] at g1 g2
  have e2 : ((2 : Int) : Rat) = 2 := rfl
  have e0 : ((0 : Int) : Rat) = 0 := rfl
  rw [e2, ← h] at g1 g2
  rw [e0] at hd
  obtain ⟨E, hE⟩ : ∃ E : Rat, E = (D : Rat) := ⟨_, rfl⟩
  rw [← hE] at g1 g2 hd
  have k1 : ((m : Rat)) ≤ x + 1 / 2 := by
    refine Rat.not_lt.1 fun hlt => ?_
    have := Rat.mul_lt_mul_of_pos_right hlt (show (0 : Rat) < 2 * E by grind)
    grind
  have k2 : x + 1 / 2 < ((m + 1 : Int) : Rat) := by
    rw [Rat.intCast_add]
    refine Rat.not_le.1 fun hle => ?_
    have := Rat.mul_le_mul_of_nonneg_right hle (show (0 : Rat) ≤ 2 * E by grind)
    have e1 : ((1 : Int) : Rat) = 1 := rfl
    rw [e1] at this
    grind
  have l1 := Rat.le_floor_iff.2 k1
  have l2 := Rat.floor_lt_iff.2 k2
  omega
theorem twelve_floor (q : Rat) : (q / (127 / 60) + 1 / 2).floor = twelfths q := by
  refine near2_floor (by have := q.den_pos; omega) ?_
  have h := mul_den q
  rw [Rat.intCast_mul, Rat.intCast_mul, Rat.intCast_natCast, ← h]
  have e1 : ((127 : Int) : Rat) = 127 := rfl
  have e2 : ((60 : Int) : Rat) = 60 := rfl
  rw [e1, e2]
  grind
theorem feet_floor (u : Nat) : ((((u : Nat) : Int) : Rat) / 144).floor = ((u / 144 : Nat) : Int) ∧ (((u : Nat) : Int) : Rat) - (((u / 144 : Nat) : Int) : Rat) * 144 = (((u % 144 : Nat) : Int) : Rat) := by
  have hu : ((u : Nat) : Int) = 144 * ((u / 144 : Nat) : Int) + ((u % 144 : Nat) : Int) := by omega
  have g0 : ((u % 144 : Nat) : Int) < 144 := by omega
  have g1 : (0 : Int) ≤ ((u % 144 : Nat) : Int) := by omega
  obtain ⟨m, hm⟩ : ∃ m : Int, m = ((u / 144 : Nat) : Int) := ⟨_, rfl⟩
  obtain ⟨r, hr⟩ : ∃ m : Int, m = ((u % 144 : Nat) : Int) := ⟨_, rfl⟩
  rw [← hm, ← hr] at hu
  rw [← hr] at g0 g1
  rw [← hm, ← hr, hu]
  have c0 := Rat.intCast_lt_intCast.2 g0
  have c1 := Rat.intCast_le_intCast.2 g1
  have e : ((144 : Int) : Rat) = 144 := rfl
  have e0 : ((0 : Int) : Rat) = 0 := rfl
  rw [e] at c0
  rw [e0] at c1
  rw [Rat.intCast_add, Rat.intCast_mul, e]
  have k1 : ((m : Rat)) ≤ (144 * (m : Rat) + (r : Rat)) / 144 := by grind
  have k2 : (144 * (m : Rat) + (r : Rat)) / 144 < ((m + 1 : Int) : Rat) := by
    rw [Rat.intCast_add]
    have e1 : ((1 : Int) : Rat) = 1 := rfl
    rw [e1]
    grind
  have l1 := Rat.le_floor_iff.2 k1
  have l2 := Rat.floor_lt_iff.2 k2
  exact ⟨by omega, by grind⟩
theorem split_iB {n : Nat} : splitR (Lib.itoa (n : Int)) = .tuple #[.bool false, .string (iB (n : Int)), .string ⟨#[]⟩, .bool false] := by
  have hd : ∀ c ∈ Lib.decDigits n, isDg c = true := decDigits_dg _
  have h47 : ¬ 47 ∈ Lib.decDigits n := fun h => by
    have := hd 47 h
    revert this
    decide
  have hn : isNeg (Lib.itoa (n : Int)) = false := by rw [isNeg_itoa]; exact decide_eq_false (by omega)
  have hg : digs (Lib.itoa (n : Int)) = Lib.decDigits n := by rw [digs_itoa, Int.natAbs_natCast]
  unfold splitR
  rw [hn, hg, if_neg h47, decide_eq_false h47]
  have ha : KI.ahead 47 (Lib.decDigits n) = Lib.decDigits n := ahead_none h47
  rw [ha]
  have : strB (Lib.decDigits n) = iB (n : Int) := by
    apply bytes_eq
    rw [strB_list, iB_list, Lib.itoa_nonneg]
  rw [this]
  rfl
theorem r2Int_small (n : Nat) (hn : n < 1000) (B : Nat) (w : World) (hB : B ≤ w.heap.size) (hT : PQ B w) :
    Calls Tryz.prog 56 #[.string (iB (n : Int))] w (Ret w (.tuple #[.int .i64 n, .int .i64 0])) := by
  have HT := hide hT
  have ff : fits (n : Int) := fits_lit (by omega)
  have HC := hide (fun w hB hT => r2Check_T (fitsQ_int ff) B w hB hT)
  rw [← iB_T] at HC
  have HS := hide (fun w => r2split_any (iB (n : Int)) (by have := iB_size ff; omega) w)
  rw [iB_list, split_iB] at HS
  obtain ⟨e1, e2⟩ := iB_dv (z := (n : Int)) (by omega)
  rw [Int.natAbs_natCast] at e1
  have hsz : (iB (n : Int)).size ≤ 3 := by
    have h := iB_size_abs (n : Int)
    rw [if_neg (by omega), Int.natAbs_natCast] at h
    rw [h]
    exact (dec_len_le (n := 3) (by omega)).2 hn
  obtain ⟨s, hs⟩ : ∃ s, s = iB (n : Int) := ⟨_, rfl⟩
  rw [← hs] at HC HS e1 e2 hsz ⊢
  have HD := hide e2
  have HV := hide e1
  have hdl : ∀ k ≤ s.size, dv (s.data.toList.take k) < 10 ^ 3 := by
    intro k hk
    refine Nat.lt_of_lt_of_le (dv_lt _ (fun c hc => e2 c (List.mem_of_mem_take hc))) (Nat.pow_le_pow_right (by omega) ?_)
    rw [List.length_take]
    omega
  have HDL := hide hdl
  have q1 : ((19 : Int) < (s.size : Int)) = False := eq_false (by omega)
  have q2 : ((s.size : Int) == 19) = false := by simp only [beq_eq_false_iff_ne, ne_eq]; omega
  clear hdl e1 e2 hs ff hT hn
  go_enter Tryz.func56, Tryz.ntmps56
  go_wp2_with fail
  refine (HC.out _ hB HT.out).mono ?_
  rintro e w1 ⟨rfl, hb1⟩
  have HB1 := hide hb1
  clear hb1
  go_wp2_with fail
  refine (HS.out _).mono ?_
  rintro e w2 ⟨rfl, hb2⟩
  have HB2 := hide (HB1.out.trans (hb2.mono HB1.out.size))
  clear hb2
  go_wp2_with fail
  clear q1 q2
  go_loopw [9, 10] (fun x i wr => ∃ k A : Nat, k ≤ s.size ∧ i = .int .i64 k ∧ x = .int .i64 A ∧ Hid (A = dv (s.data.toList.take k) ∧ Below w.heap.size w wr)) (fun _ i _ => s.size - (intOf i).toNat)
  case atStart => exact ⟨0, 0, by omega, rfl, rfl, rfl, HB2.out⟩
  case round =>
    obtain ⟨k, A, hk, rfl, rfl, hA⟩ := hrel
    have hk0 : (0 : Int) ≤ (k : Int) := by omega
    by_cases hlt : k < s.size
    · have hki : (k : Int) < (s.size : Int) := by omega
      have hat : s.data.toList[k]? = some (s[k]'hlt) := by
        have h1 : s.data.toList[k]? = some s.data[k] := by simp
        exact h1
      obtain ⟨y, hyv⟩ : ∃ y : Nat, y = (s[k]'hlt).toNat := ⟨_, rfl⟩
      have hyv2 : (s[k]'hlt).toNat = y := hyv.symm
      have hdg : 48 ≤ y ∧ y ≤ 57 := by
        rw [hyv]
        exact isDg_iff.1 (HD.out _ (List.mem_of_getElem? hat))
      have hnew : dv (s.data.toList.take (k + 1)) = A * 10 + (y - 48) := by
        rw [List.take_add_one, hat]
        show dv (_ ++ [s[k]'hlt]) = _
        rw [dv_snoc, hyv2, hA.out.1]
      have hb1 := HDL.out (k + 1) (by omega)
      rw [hnew] at hb1
      have HN := hide (And.intro hnew.symm hA.out.2)
      have y0 : (48 : Int) ≤ (y : Int) := by omega
      have y1 : (y : Int) ≤ 57 := by omega
      have a1 : (A : Int) < 100000000000000000 := by omega
      have HC2 := hide (show 10 * (A : Int) + ((y : Int) - 48) = ((A * 10 + (y - 48) : Nat) : Int) by omega)
      clear hat hyv hdg hnew hA hb1
      go_wp2_with fail
      go_roundw
      case rel => exact ⟨k + 1, A * 10 + (y - 48), by omega, by go_num, by rw [← HC2.out], HN.out⟩
      case measure => simp [intOf]; omega
    · have hki : ((k : Int) < (s.size : Int)) = False := eq_false (by omega)
      have HE := hide (show n = A by rw [← HV.out, hA.out.1, List.take_of_length_le (by rw [bytes_len]; omega)])
      have HBW := hide hA.out.2
      clear hA hlt
      go_wp2_with fail
      refine bodyPost_ret (results_tmp2 rfl _ _ _) rfl ?_
      rw [HE.out]
      exact ⟨rfl, HBW.out⟩
theorem t144 : T 144 = ⟨#[49, 52, 52]⟩ := (iB_T 144).symm.trans (bytes_eq (by rw [iB_list]; exact lit144.symm))
theorem tw_lit : T (127 / 60) = ⟨#[49, 50, 55, 47, 54, 48]⟩ := txq (n := 127) (d := 60) (by decide +kernel) (by decide +kernel) (by decide) (a := [49, 50, 55]) (b := [54, 48]) (by decide +kernel) (by decide +kernel)
theorem sz_tw : sz 3 (127 / 60 : Rat) := ⟨by decide +kernel, by decide +kernel⟩
theorem sz_144 : sz 3 (144 : Rat) := ⟨by decide +kernel, by decide +kernel⟩
theorem m7Feet_any (s : ByteArray) (hs : s.size ≤ 1000000) (B : Nat) (w : World) (hB : B ≤ w.heap.size) (hT : PQ B w) :
    Calls Tryz.prog 16 #[.string s] w (Ret w (pairV (feetS s.data.toList) (chkM s.data.toList))) := by
  have HT := hide hT
  have HC := hide (fun w hB hT => m7check_any s (by omega) B w hB hT)
  by_cases hM : chkM s.data.toList = 0
  rotate_left
  · have hqb : (chkM s.data.toList == 0) = false := by simpa using hM
    rw [show feetS s.data.toList = [] from if_neg hM, pairV_err]
    generalize chkM s.data.toList = E at *
    clear hM hT hs
    go_enter Tryz.func16, Tryz.ntmps16
    go_wp2_with fail
    refine (HC.out _ hB HT.out).mono ?_
    rintro e w1 ⟨rfl, hb1⟩
    have HB1 := hide hb1
    clear hb1
    go_wp2_with fail
    refine bodyPost_ret (results_tmp2 rfl _ _ _) rfl ?_
    exact ⟨rfl, HB1.out⟩
  rw [show feetS s.data.toList = feetT (twelfths (valQ s.data.toList)) from if_pos hM]
  obtain ⟨hq, n1, d1⟩ := chkM_ok hM
  rw [hM] at HC ⊢
  obtain ⟨eT, fq, _, _⟩ := chkQ_ok hq
  have eS : s = T (valQ s.data.toList) := T_of eT
  obtain ⟨q, hqq⟩ : ∃ q, q = valQ s.data.toList := ⟨_, rfl⟩
  rw [← hqq] at eS n1 d1 fq ⊢
  have sq : sz 90 q := ⟨n1, d1⟩
  have HD := hide (fun w hB hT => r2Div_T fq (sz_fits sz_tw (by rw [most_eq]; omega)) (by decide +kernel) (cmpC_of sq sz_tw (by rw [most_eq]; omega)) B w hB hT)
  rw [← eS, tw_lit] at HD
  have sx := sz_div (by omega) sq sz_tw
  have HNE := hide (fun w hB hT => m7nearest_T sx (by omega) B w hB hT)
  rw [twelve_floor] at HNE
  have hul := twelfths_len n1
  obtain ⟨m, hm⟩ : ∃ m, m = twelfths q := ⟨_, rfl⟩
  rw [← hm] at HNE hul ⊢
  obtain ⟨u, hu⟩ : ∃ u, u = m.natAbs := ⟨_, rfl⟩
  rw [← hu] at hul
  obtain ⟨F, hF⟩ : ∃ F, F = u / 144 := ⟨_, rfl⟩
  obtain ⟨k, hk⟩ : ∃ k, k = u % 144 := ⟨_, rfl⟩
  obtain ⟨p1, p2⟩ := feet_floor u
  rw [← hF] at p1 p2
  rw [← hk] at p2
  have su : sz 94 (((u : Nat) : Int) : Rat) := sz_int (by rw [Int.natAbs_natCast]; exact hul) (by omega)
  have sF : sz 94 (((F : Nat) : Int) : Rat) := sz_int (by rw [Int.natAbs_natCast]; omega) (by omega)
  have HD2 := hide (fun w hB hT => r2Div_T (sz_fits su (by rw [most_eq]; omega)) (sz_fits sz_144 (by rw [most_eq]; omega)) (by decide +kernel) (cmpC_of su sz_144 (by rw [most_eq]; omega)) B w hB hT)
  have HF2 := hide (fun w hB hT => r2FloorZ_T (sz_fits (sz_div (by omega) su sz_144) (by rw [most_eq]; omega)) B w hB hT)
  have HP := hide (fun w hB hT => m7product_T (sz_fits sF (by rw [most_eq]; omega)) (sz_fits sz_144 (by rw [most_eq]; omega)) (mulC_of sF sz_144 (by rw [most_eq]; omega)) B w hB hT)
  have HS2 := hide (fun w hB hT => r2Sub_T (sz_fits su (by rw [most_eq]; omega)) (sz_fits (sz_mul sF sz_144) (by rw [most_eq]; omega)) B w hB hT)
  rw [show subO (((u : Nat) : Int) : Rat) ((((F : Nat) : Int) : Rat) * 144) = some ((((u : Nat) : Int) : Rat) - (((F : Nat) : Int) : Rat) * 144) from if_pos (subC_of su (sz_mul sF sz_144) (by rw [most_eq]; omega)), p2] at HS2
  unfold opV at HS2
  dsimp only at HS2
  rw [p1] at HF2
  rw [t144] at HD2 HP
  rw [← iB_T] at HD2 HP HS2
  rw [← iB_T] at HS2
  have hk144 : k < 144 := by omega
  have HI := hide (fun w hB hT => r2Int_small k (by omega) B w hB hT)
  obtain ⟨a, ha⟩ : ∃ a, a = k / 12 := ⟨_, rfl⟩
  obtain ⟨b, hb⟩ : ∃ a, a = k % 12 := ⟨_, rfl⟩
  have dq : (k : Int) / 12 = (a : Int) := by omega
  have dr : (k : Int) % 12 = (b : Int) := by omega
  have HA1 := hide (fun w (hB : B ≤ w.heap.size) hT => itoa_any (a : Int) (by omega) (by omega) B w hT)
  have HA2 := hide (fun w (hB : B ≤ w.heap.size) hT => itoa_any (b : Int) (by omega) (by omega) B w hT)
  obtain ⟨S, hS⟩ : ∃ X, X = strB (sgnT (decide (m < 0))) := ⟨_, rfl⟩
  obtain ⟨A, hA⟩ : ∃ X, X = iB (F : Int) := ⟨_, rfl⟩
  obtain ⟨I, hI⟩ : ∃ X, X = strB (Lib.itoa (a : Int)) := ⟨_, rfl⟩
  obtain ⟨Q, hQ⟩ : ∃ X, X = strB (Lib.itoa (b : Int)) := ⟨_, rfl⟩
  have hdl : ∀ v : Nat, v < 10 ^ 94 → (Lib.decDigits v).length ≤ 94 := fun v hv => (dec_len_le (by omega)).2 hv
  have hSs : S.size ≤ 1 := by rw [hS, strB_size]; unfold sgnT; split <;> simp
  have hAs : A.size ≤ 94 := by rw [hA, ← bytes_len, iB_list, Lib.itoa_nonneg]; exact hdl _ (by omega)
  have hIs : I.size ≤ 94 := by rw [hI, strB_size, Lib.itoa_nonneg]; exact hdl _ (by omega)
  have hQs : Q.size ≤ 94 := by rw [hQ, strB_size, Lib.itoa_nonneg]; exact hdl _ (by omega)
  have HX := hide (show strB (feetT m) = S ++ A ++ ⟨#[39]⟩ ++ I ++ ⟨#[34]⟩ ++ Q by
    unfold feetT
    rw [← hu, ← hF, ← hk, ← ha, ← hb, hS, hA, hI, hQ, Lib.itoa_nonneg, Lib.itoa_nonneg]
    apply bytes_eq
    simp [strB, sgnT, iB, Lib.itoa_nonneg])
  rw [show pairV (feetT m) 0 = .tuple #[.string (strB (feetT m)), .int .i64 0] from rfl, HX.out]
  obtain ⟨hhp, h45⟩ := iB_head m
  have hMs := iB_size (fits_le_pow (k := 94) (z := m) (by omega) (by omega))
  rw [← hA] at HF2 HP
  rw [← hI] at HA1
  rw [← hQ] at HA2
  have hneg : (m < 0 ∧ S = ⟨#[45]⟩ ∧ (iB m).extract 1 (iB m).size = iB (u : Int)) ∨ (¬ m < 0 ∧ S = ⟨#[]⟩ ∧ iB m = iB (u : Int)) := by
    by_cases h : m < 0
    · exact .inl ⟨h, by rw [hS, decide_eq_true h]; rfl, by rw [iB_neg_drop h, show -m = (u : Int) by omega]⟩
    · exact .inr ⟨h, by rw [hS, decide_eq_false h]; rfl, by rw [show m = (u : Int) by omega]⟩
  generalize iB (u : Int) = U at *
  generalize iB (k : Int) = K at *
  generalize T ((((F : Nat) : Int) : Rat) * 144) = P at *
  generalize T ((((u : Nat) : Int) : Rat) / 144) = Y at *
  generalize T (q / (127 / 60)) = X at *
  clear hM hT hs hq n1 d1 eT hqq eS fq sq sx hm hu hul hF hk p1 p2 su sF ha hb hS hA hI hQ hdl hSs HX
  rcases hneg with ⟨hn, rfl, hd⟩ | ⟨hn, rfl, h00⟩
  · rw [decide_eq_true hn] at h45
    generalize iB m = M at *
    have hp1 : (0 : Int) < (M.size : Int) := by omega
    have hp2 : (1 : Int) ≤ (M.size : Int) := by omega
    have hp3 : 1 ≤ M.size := by omega
    have v1 : (9223372036854775807 < 1 + A.size) = False := eq_false (by omega)
    have v2 : (9223372036854775807 < 1 + A.size + 1) = False := eq_false (by omega)
    have v3 : (9223372036854775807 < 1 + A.size + 1 + I.size) = False := eq_false (by omega)
    have v4 : (9223372036854775807 < 1 + A.size + 1 + I.size + 1) = False := eq_false (by omega)
    have v5 : (9223372036854775807 < 1 + A.size + 1 + I.size + 1 + Q.size) = False := eq_false (by omega)
    clear hn hMs hAs hIs hQs
    go_enter Tryz.func16, Tryz.ntmps16
    go_wp2_with fail
    refine (HC.out _ hB HT.out).mono ?_
    rintro e w1 ⟨rfl, hb1⟩
    have HB1 := hide hb1
    clear hb1
    go_wp2_with fail
    refine (HD.out _ (Nat.le_trans hB HB1.out.size) (HT.out.on HB1.out hB)).mono ?_
    rintro e w2 ⟨rfl, hb2⟩
    have HB2 := hide (HB1.out.trans (hb2.mono HB1.out.size))
    clear hb2
    go_wp2_with fail
    refine (HNE.out _ (Nat.le_trans hB HB2.out.size) (HT.out.on HB2.out hB)).mono ?_
    rintro e w3 ⟨rfl, hb3⟩
    have HB3 := hide (HB2.out.trans (hb3.mono HB2.out.size))
    clear hb3
    go_wp2_with fail
    go_quiet (fail)
    have HB4 := hide (below_drewN HB3.out nq)
    clear hd h45 hp1 hp2 hp3
    go_wp2_with fail
    refine (HD2.out _ (Nat.le_trans hB HB4.out.size) (HT.out.on HB4.out hB)).mono ?_
    rintro e w5 ⟨rfl, hb5⟩
    have HB5 := hide (HB4.out.trans (hb5.mono HB4.out.size))
    clear hb5
    go_wp2_with fail
    refine (HF2.out _ (Nat.le_trans hB HB5.out.size) (HT.out.on HB5.out hB)).mono ?_
    rintro e w6 ⟨rfl, hb6⟩
    have HB6 := hide (HB5.out.trans (hb6.mono HB5.out.size))
    clear hb6
    go_wp2_with fail
    refine (HP.out _ (Nat.le_trans hB HB6.out.size) (HT.out.on HB6.out hB)).mono ?_
    rintro e w7 ⟨rfl, hb7⟩
    have HB7 := hide (HB6.out.trans (hb7.mono HB6.out.size))
    clear hb7
    go_wp2_with fail
    refine (HS2.out _ (Nat.le_trans hB HB7.out.size) (HT.out.on HB7.out hB)).mono ?_
    rintro e w8 ⟨rfl, hb8⟩
    have HB8 := hide (HB7.out.trans (hb8.mono HB7.out.size))
    clear hb8
    go_wp2_with fail
    refine (HI.out _ (Nat.le_trans hB HB8.out.size) (HT.out.on HB8.out hB)).mono ?_
    rintro e w9 ⟨rfl, hb9⟩
    have HB9 := hide (HB8.out.trans (hb9.mono HB8.out.size))
    clear hb9
    go_wp2_with fail
    refine (HA1.out _ (Nat.le_trans hB HB9.out.size) (HT.out.p10.on HB9.out hB)).mono ?_
    rintro e w10 ⟨rfl, hb10⟩
    have HB10 := hide (HB9.out.trans (hb10.mono HB9.out.size))
    clear hb10
    go_wp2_with fail
    refine (HA2.out _ (Nat.le_trans hB HB10.out.size) (HT.out.p10.on HB10.out hB)).mono ?_
    rintro e w11 ⟨rfl, hb11⟩
    have HB11 := hide (HB10.out.trans (hb11.mono HB10.out.size))
    clear hb11
    go_wp2_with fail
    refine bodyPost_ret (results_tmp2 rfl _ _ _) rfl ?_
    exact ⟨rfl, HB11.out⟩
  · rw [decide_eq_false hn] at h45
    subst h00
    generalize iB m = M at *
    have hp1 : (0 : Int) < (M.size : Int) := by omega
    have u1 : (9223372036854775807 < A.size) = False := eq_false (by omega)
    have u2 : (9223372036854775807 < A.size + 1) = False := eq_false (by omega)
    have u3 : (9223372036854775807 < A.size + 1 + I.size) = False := eq_false (by omega)
    have u4 : (9223372036854775807 < A.size + 1 + I.size + 1) = False := eq_false (by omega)
    have u5 : (9223372036854775807 < A.size + 1 + I.size + 1 + Q.size) = False := eq_false (by omega)
    have v1 : (9223372036854775807 < 0 + A.size) = False := eq_false (by omega)
    have v2 : (9223372036854775807 < 0 + A.size + 1) = False := eq_false (by omega)
    have v3 : (9223372036854775807 < 0 + A.size + 1 + I.size) = False := eq_false (by omega)
    have v4 : (9223372036854775807 < 0 + A.size + 1 + I.size + 1) = False := eq_false (by omega)
    have v5 : (9223372036854775807 < 0 + A.size + 1 + I.size + 1 + Q.size) = False := eq_false (by omega)
    clear hn hMs hAs hIs hQs
    go_enter Tryz.func16, Tryz.ntmps16
    go_wp2_with fail
    refine (HC.out _ hB HT.out).mono ?_
    rintro e w1 ⟨rfl, hb1⟩
    have HB1 := hide hb1
    clear hb1
    go_wp2_with fail
    refine (HD.out _ (Nat.le_trans hB HB1.out.size) (HT.out.on HB1.out hB)).mono ?_
    rintro e w2 ⟨rfl, hb2⟩
    have HB2 := hide (HB1.out.trans (hb2.mono HB1.out.size))
    clear hb2
    go_wp2_with fail
    refine (HNE.out _ (Nat.le_trans hB HB2.out.size) (HT.out.on HB2.out hB)).mono ?_
    rintro e w3 ⟨rfl, hb3⟩
    have HB3 := hide (HB2.out.trans (hb3.mono HB2.out.size))
    clear hb3
    go_wp2_with fail
    refine (HD2.out _ (Nat.le_trans hB HB3.out.size) (HT.out.on HB3.out hB)).mono ?_
    rintro e w4 ⟨rfl, hb4⟩
    have HB4 := hide (HB3.out.trans (hb4.mono HB3.out.size))
    clear hb4
    go_wp2_with fail
    refine (HF2.out _ (Nat.le_trans hB HB4.out.size) (HT.out.on HB4.out hB)).mono ?_
    rintro e w5 ⟨rfl, hb5⟩
    have HB5 := hide (HB4.out.trans (hb5.mono HB4.out.size))
    clear hb5
    go_wp2_with fail
    refine (HP.out _ (Nat.le_trans hB HB5.out.size) (HT.out.on HB5.out hB)).mono ?_
    rintro e w6 ⟨rfl, hb6⟩
    have HB6 := hide (HB5.out.trans (hb6.mono HB5.out.size))
    clear hb6
    go_wp2_with fail
    refine (HS2.out _ (Nat.le_trans hB HB6.out.size) (HT.out.on HB6.out hB)).mono ?_
    rintro e w7 ⟨rfl, hb7⟩
    have HB7 := hide (HB6.out.trans (hb7.mono HB6.out.size))
    clear hb7
    go_wp2_with fail
    refine (HI.out _ (Nat.le_trans hB HB7.out.size) (HT.out.on HB7.out hB)).mono ?_
    rintro e w8 ⟨rfl, hb8⟩
    have HB8 := hide (HB7.out.trans (hb8.mono HB7.out.size))
    clear hb8
    go_wp2_with fail
    refine (HA1.out _ (Nat.le_trans hB HB8.out.size) (HT.out.p10.on HB8.out hB)).mono ?_
    rintro e w9 ⟨rfl, hb9⟩
    have HB9 := hide (HB8.out.trans (hb9.mono HB8.out.size))
    clear hb9
    go_wp2_with fail
    refine (HA2.out _ (Nat.le_trans hB HB9.out.size) (HT.out.p10.on HB9.out hB)).mono ?_
    rintro e w10 ⟨rfl, hb10⟩
    have HB10 := hide (HB9.out.trans (hb10.mono HB9.out.size))
    clear hb10
    go_wp2_with fail
    refine bodyPost_ret (results_tmp2 rfl _ _ _) rfl ?_
    exact ⟨rfl, HB10.out⟩
end Go.Proofs.YtfcjaljaomknjaaGreatDoor
