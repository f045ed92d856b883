/-
  Texts laid together.
-/
import Derived.Test.YtfcjaljaomknjaaGreatDoorMG12
import Derived.Test.YtfcjaljaomknjaaGreatDoorMG8
import Derived.Lib.IndexAny
import Derived.Lib.IndexMore
import Derived.Shelf.GgClosure.StringsIndexFuncTop
set_option maxRecDepth 100000
set_option maxHeartbeats 8000000
namespace Go.KI
open Go
def feetM (l : List UInt8) : Nat := (dv (ahead 39 (digs l)) * 12 + dv (ahead 34 (behind 39 (digs l)))) * 12 + dv (behind 34 (behind 39 (digs l)))
def feetQ (l : List UInt8) : Rat := sgn (isNeg l) (((feetM l * 127 : Nat) : Rat) / ((60 : Nat) : Rat))
def feetE (l : List UInt8) : Int := if 90 < l.length then 4 else if feetOK l then 0 else 3
def feetR (l : List UInt8) : List UInt8 := if feetE l = 0 then ratS (feetQ l) else []
theorem numeral_iff {l : List UInt8} : numeral l ↔ allDg l ∧ Lib.decDigits (dv l) = l := by
  constructor
  · intro h
    exact ⟨⟨h.1, List.all_eq_true.1 h.2.1⟩, (numeral_dec h).symm⟩
  · rintro ⟨h1, h2⟩
    rw [← h2]
    exact dec_numeral _
end Go.KI
namespace Go.Proofs.YtfcjaljaomknjaaGreatDoor
open Go.RowKit Go.KP Go.KI Go.Shelf
attribute [local go_sem] Oper.semAt_some

theorem msmall_any (s : ByteArray) (hs : s.size ≤ 1000000) (b : Bool) (hb : b = decide (smallT s.data.toList)) (w : World) :
    Calls Tryz.prog 58 #[.string s] w (Ret w (.bool b)) := by
  have HD := hide (fun b hb w => mdigits_any s hs b hb w)
  obtain ⟨t1, t2⟩ := lit_eq (s := s) (l := s.data.toList) (m := [49, 48]) rfl
  obtain ⟨u1, u2⟩ := lit_eq (s := s) (l := s.data.toList) (m := [49, 49]) rfl
  have hlen := bytes_len s
  by_cases h1 : s.size = 1
  · have z : ((s.size : Int) == 1) = true := by rw [h1]; rfl
    have n10 : s.data.toList ≠ [49, 48] := fun e => by rw [e] at hlen; simp at hlen; omega
    have n11 : s.data.toList ≠ [49, 49] := fun e => by rw [e] at hlen; simp at hlen; omega
    have e1 := t2 n10
    have e2 := u2 n11
    by_cases h2 : allDg s.data.toList
    · have hbt : b = true := by rw [hb, decide_eq_true_iff]; exact .inl ⟨by omega, h2⟩
      have HDA := hide (HD.out true (by simpa using h2))
      rw [hbt]
      clear t1 t2 u1 u2 hlen h1 n10 n11 h2 hb hbt HD
      go_enter Tryz.func58, Tryz.ntmps58
      go_wp2_with fail
      refine (HDA.out _).mono ?_
      rintro e w1 ⟨rfl, hb1⟩
      have HB1 := hide hb1
      clear hb1
      go_wp2_with fail
      go_ret
      exact ⟨rfl, HB1.out⟩
    · have hbt : b = false := by
        rw [hb, decide_eq_false_iff_not]
        rintro (h | h | h)
        · exact h2 h.2
        · exact n10 h
        · exact n11 h
      have HDA := hide (HD.out false (by simpa using h2))
      rw [hbt]
      clear t1 t2 u1 u2 hlen h1 n10 n11 h2 hb hbt HD
      go_enter Tryz.func58, Tryz.ntmps58
      go_wp2_with fail
      refine (HDA.out _).mono ?_
      rintro e w1 ⟨rfl, hb1⟩
      have HB1 := hide hb1
      clear hb1
      go_wp2_with fail
      go_ret
      exact ⟨rfl, HB1.out⟩
  · have z : ((s.size : Int) == 1) = false := by
      simp only [beq_eq_false_iff_ne, ne_eq]
      omega
    have hway : ((s.toList == [49, 48]) = true ∧ b = true) ∨ ((s.toList == [49, 48]) = false ∧ (s.toList == [49, 49]) = true ∧ b = true) ∨ ((s.toList == [49, 48]) = false ∧ (s.toList == [49, 49]) = false ∧ b = false) := by
      by_cases a1 : s.data.toList = [49, 48]
      · exact .inl ⟨t1 a1, by rw [hb, decide_eq_true_iff]; exact .inr (.inl a1)⟩
      · by_cases a2 : s.data.toList = [49, 49]
        · exact .inr (.inl ⟨t2 a1, u1 a2, by rw [hb, decide_eq_true_iff]; exact .inr (.inr a2)⟩)
        · refine .inr (.inr ⟨t2 a1, u2 a2, ?_⟩)
          rw [hb, decide_eq_false_iff_not]
          rintro (h | h | h)
          · exact h1 (by omega)
          · exact a1 h
          · exact a2 h
    clear t1 t2 u1 u2 hlen h1 hb HD
    rcases hway with ⟨e1, e2⟩ | ⟨e1, e3, e2⟩ | ⟨e1, e3, e2⟩
    all_goals
      subst e2
      go_enter Tryz.func58, Tryz.ntmps58
      go_wp2_with fail
      go_ret
      exact ⟨rfl, Below.refl _ _⟩
theorem mParseFeet_any (s : ByteArray) (B : Nat) (w : World) (hB : B ≤ w.heap.size) (hT : PQ B w) :
    Calls Tryz.prog 17 #[.string s] w (Ret w (pairV (feetR s.data.toList) (feetE s.data.toList))) := by
  have HT := hide hT
  by_cases h90 : 90 < s.size
  · have e : feetE s.data.toList = 4 := by unfold feetE; rw [if_pos (by rw [bytes_len]; exact h90)]
    rw [show feetR s.data.toList = [] by unfold feetR; rw [e, if_neg (by decide)], e, pairV_err]
    have hm : (90 : Int) < (s.size : Int) := by omega
    clear e h90 hT
    go_enter Tryz.func17, Tryz.ntmps17
    go_wp2_with fail
    refine bodyPost_ret (results_tmp2 rfl _ _ _) rfl ?_
    exact ⟨rfl, Below.refl _ _⟩
  have hm : ((90 : Int) < (s.size : Int)) = False := eq_false (by omega)
  have hpe : feetE s.data.toList = if feetOK s.data.toList then 0 else 3 := by
    unfold feetE
    rw [if_neg (by rw [bytes_len]; exact h90)]
  have hbad : ¬ feetOK s.data.toList → pairV (feetR s.data.toList) (feetE s.data.toList) = .tuple #[.string ⟨#[]⟩, .int .i64 3] := fun h => by
    have e : feetE s.data.toList = 3 := by rw [hpe, if_neg h]
    rw [show feetR s.data.toList = [] by unfold feetR; rw [e, if_neg (by decide)], e, pairV_err]
  have hgood : feetOK s.data.toList → pairV (feetR s.data.toList) (feetE s.data.toList) = pairV (ratS (feetQ s.data.toList)) 0 := fun h => by
    have e : feetE s.data.toList = 0 := by rw [hpe, if_pos h]
    rw [show feetR s.data.toList = ratS (feetQ s.data.toList) by unfold feetR; rw [if_pos e], e]
  have hok : feetOK s.data.toList ↔ (39 ∈ digs s.data.toList ∧ 34 ∈ KI.behind 39 (digs s.data.toList) ∧ numeral (KI.ahead 39 (digs s.data.toList)) ∧ smallT (KI.ahead 34 (KI.behind 39 (digs s.data.toList))) ∧ smallT (KI.behind 34 (KI.behind 39 (digs s.data.toList))) ∧ s.data.toList ≠ [45, 48, 39, 48, 34, 48]) := Iff.rfl
  have hq : feetQ s.data.toList = sgn (isNeg s.data.toList) (((((dv (KI.ahead 39 (digs s.data.toList)) * 12 + dv (KI.ahead 34 (KI.behind 39 (digs s.data.toList)))) * 12 + dv (KI.behind 34 (KI.behind 39 (digs s.data.toList)))) * 127 : Nat) : Rat) / ((60 : Nat) : Rat)) := rfl
  have HSI := hide (msigned_any s w)
  obtain ⟨neg, hneg⟩ : ∃ neg, neg = isNeg s.data.toList := ⟨_, rfl⟩
  obtain ⟨L, hL⟩ : ∃ L, L = digs s.data.toList := ⟨_, rfl⟩
  have hLl : L.length ≤ 90 := by rw [hL]; have := digs_le s.data.toList; rw [bytes_len] at this; omega
  rw [← hneg, ← hL] at HSI
  rw [← hL] at hok hq
  rw [← hneg] at hq
  obtain ⟨O, hO⟩ : ∃ O, O = strB L := ⟨_, rfl⟩
  have hOl : O.data.toList = L := by rw [hO, strB_list]
  have hOs : O.size ≤ 90 := by rw [← bytes_len, hOl]; exact hLl
  have HC39 := hide (fun w hT => scut_any 39 O (by omega) B w hT)
  rw [hOl] at HC39
  rw [← hO] at HSI
  obtain ⟨SG, hSG⟩ : ∃ O, O = strB (sgnT neg) := ⟨_, rfl⟩
  have HFR := hide (fun n d D h hn hd hD h0 w hB hT => mfraction_any neg n d D h hn hd hD h0 B w hB hT)
  rw [← hSG] at HSI HFR
  obtain ⟨tz1, tz2⟩ := lit_eq (s := s) (l := s.data.toList) (m := [45, 48, 39, 48, 34, 48]) rfl
  have hal := ahead_le 39 L
  have hbl := behind_le 39 L
  obtain ⟨a, ha⟩ : ∃ a, a = KI.ahead 39 L := ⟨_, rfl⟩
  obtain ⟨b, hb⟩ : ∃ a, a = if 39 ∈ L then KI.behind 39 L else [] := ⟨_, rfl⟩
  rw [← ha, ← hb] at HC39
  have hb39 : 39 ∈ L → KI.behind 39 L = b := fun h => by rw [hb, if_pos h]
  have hbl2 : b.length ≤ 90 := by
    rw [hb]
    split
    · omega
    · exact Nat.zero_le _
  have hsum : 39 ∈ L → a.length + b.length + 1 = L.length := fun h => by rw [ha, ← hb39 h]; exact both_le h
  rw [← ha] at hok hq hal
  obtain ⟨A, hA⟩ : ∃ O, O = strB a := ⟨_, rfl⟩
  obtain ⟨R, hR⟩ : ∃ O, O = strB b := ⟨_, rfl⟩
  have hAl : A.data.toList = a := by rw [hA, strB_list]
  have hAs : A.size = a.length := by rw [hA, strB_size]
  have hRl : R.data.toList = b := by rw [hR, strB_list]
  have hRs : R.size = b.length := by rw [hR, strB_size]
  rw [← hA, ← hR] at HC39
  have HC34 := hide (fun w hT => scut_any 34 R (by omega) B w hT)
  rw [hRl] at HC34
  have hil := ahead_le 34 b
  have htl := behind_le 34 b
  obtain ⟨i, hi⟩ : ∃ a, a = KI.ahead 34 b := ⟨_, rfl⟩
  obtain ⟨t, ht⟩ : ∃ a, a = if 34 ∈ b then KI.behind 34 b else [] := ⟨_, rfl⟩
  have ht34 : 34 ∈ b → KI.behind 34 b = t := fun h => by rw [ht, if_pos h]
  have htl2 : t.length ≤ 90 := by
    rw [ht]
    split
    · omega
    · exact Nat.zero_le _
  have hsum2 : 34 ∈ b → i.length + t.length + 1 = b.length := fun h => by rw [hi, ← ht34 h]; exact both_le h
  rw [← hi, ← ht] at HC34
  rw [← hi] at hil
  obtain ⟨I, hI⟩ : ∃ O, O = strB i := ⟨_, rfl⟩
  obtain ⟨T, hT2⟩ : ∃ O, O = strB t := ⟨_, rfl⟩
  have hIl : I.data.toList = i := by rw [hI, strB_list]
  have hIs : I.size = i.length := by rw [hI, strB_size]
  have hTl : T.data.toList = t := by rw [hT2, strB_list]
  have hTs : T.size = t.length := by rw [hT2, strB_size]
  rw [← hI, ← hT2] at HC34
  have hok2 : 39 ∈ L → 34 ∈ b → (feetOK s.data.toList ↔ numeral a ∧ smallT i ∧ smallT t ∧ s.data.toList ≠ [45, 48, 39, 48, 34, 48]) := fun h1 h2 => by
    rw [hok, hb39 h1, ht34 h2, ← hi]
    exact ⟨fun h => h.2.2, fun h => ⟨h1, h2, h⟩⟩
  have hq2 : 39 ∈ L → 34 ∈ b → feetQ s.data.toList = sgn neg (((((dv a * 12 + dv i) * 12 + dv t) * 127 : Nat) : Rat) / ((60 : Nat) : Rat)) := fun h1 h2 => by
    rw [hq, hb39 h1, ht34 h2, ← hi]
  have HDA := hide (fun x hx w => mdigits_any A (by omega) x hx w)
  rw [hAl] at HDA
  have HSM1 := hide (fun x hx w => msmall_any I (by omega) x hx w)
  rw [hIl] at HSM1
  have HSM2 := hide (fun x hx w => msmall_any T (by omega) x hx w)
  rw [hTl] at HSM2
  by_cases h39 : 39 ∈ L
  · by_cases h34 : 34 ∈ b
    · rw [show decide (39 ∈ L) = true by simpa using h39] at HC39
      rw [show decide (34 ∈ b) = true by simpa using h34] at HC34
      have hk := hok2 h39 h34
      have hqq := hq2 h39 h34
      have hsz := hsum h39
      have hsz2 := hsum2 h34
      by_cases k1 : allDg a
      · have HD := hide (HDA.out true (by simpa using k1))
        have HW := hide (fun w => mwhole_any A (by rw [hAl]; exact k1.2) w)
        rw [hAl] at HW
        obtain ⟨WA, hWA⟩ : ∃ W, W = strB (Lib.decDigits (dv a)) := ⟨_, rfl⟩
        rw [← hWA] at HW
        by_cases k2 : Lib.decDigits (dv a) = a
        · have hEq : WA = A := by rw [hWA, k2, hA]
          rw [hEq] at HW
          have hnum : numeral a := numeral_iff.2 ⟨k1, k2⟩
          have hwn : (A.toList != A.toList) = false := by simp
          by_cases k3 : smallT i
          · have HS1 := hide (HSM1.out true (by simpa using k3))
            by_cases k4 : smallT t
            · have HS2 := hide (HSM2.out true (by simpa using k4))
              by_cases k5 : s.data.toList = [45, 48, 39, 48, 34, 48]
              · have z := tz1 k5
                rw [hbad (fun h => (hk.1 h).2.2.2 k5)]
                clear k1 k2 k3 k4 k5 hk hqq hsz hsz2 hnum hWA hEq HDA HSM1 HSM2 HFR h34 h39
                clear hbad hgood hpe hok hq hok2 hq2 h90 hneg hL hLl hO hOl hOs hSG hT tz1 tz2 hal hbl ha hb hb39 hbl2 hsum hA hR hAl hAs hRl hRs hil htl hi ht ht34 htl2 hsum2 hI hT2 hIl hIs hTl hTs
                go_enter Tryz.func17, Tryz.ntmps17
                go_wp2_with fail
                refine (HSI.out).mono ?_
                rintro e w1 ⟨rfl, hb1⟩
                have HB1 := hide hb1
                clear hb1
                go_wp2_with fail
                refine (HC39.out _ (HT.out.on HB1.out hB)).mono ?_
                rintro e w2 ⟨rfl, hb2⟩
                have HB2 := hide (HB1.out.trans (hb2.mono HB1.out.size))
                clear hb2
                go_wp2_with fail
                refine (HC34.out _ (HT.out.on HB2.out hB)).mono ?_
                rintro e w3 ⟨rfl, hb3⟩
                have HB3 := hide (HB2.out.trans (hb3.mono HB2.out.size))
                clear hb3
                go_wp2_with fail
                refine (HD.out _).mono ?_
                rintro e w4 ⟨rfl, hb4⟩
                have HB4 := hide (HB3.out.trans (hb4.mono HB3.out.size))
                clear hb4
                go_wp2_with fail
                refine (HW.out _).mono ?_
                rintro e w5 ⟨rfl, hb5⟩
                have HB5 := hide (HB4.out.trans (hb5.mono HB4.out.size))
                clear hb5
                go_wp2_with fail
                refine (HS1.out _).mono ?_
                rintro e w6 ⟨rfl, hb6⟩
                have HB6 := hide (HB5.out.trans (hb6.mono HB5.out.size))
                clear hb6
                go_wp2_with fail
                refine (HS2.out _).mono ?_
                rintro e w7 ⟨rfl, hb7⟩
                have HB7 := hide (HB6.out.trans (hb7.mono HB6.out.size))
                clear hb7
                go_wp2_with fail
                refine bodyPost_ret (results_tmp2 rfl _ _ _) rfl ?_
                exact ⟨rfl, HB7.out⟩
              · have z := tz2 k5
                rw [hgood (hk.2 ⟨hnum, k3, k4, k5⟩), hqq]
                obtain ⟨i1, i2⟩ := smallT_dec k3
                obtain ⟨t1, t2⟩ := smallT_dec k4
                obtain ⟨U, hU⟩ : ∃ U, U = dv a := ⟨_, rfl⟩
                obtain ⟨V, hV⟩ : ∃ U, U = dv i := ⟨_, rfl⟩
                obtain ⟨Z, hZ⟩ : ∃ U, U = dv t := ⟨_, rfl⟩
                have hUb : U < 10 ^ 87 := by
                  rw [hU]
                  refine Nat.lt_of_lt_of_le (dv_lt _ k1.2) (Nat.pow_le_pow_right (by omega) ?_)
                  have l1 : 1 ≤ i.length := by rw [i1]; exact dec_len_pos _
                  omega
                rw [← hV] at i1 i2
                rw [← hZ] at t1 t2
                rw [← hU] at k2
                rw [← hU, ← hV, ← hZ]
                have p1 : (10 : Nat) ^ 91 = 10000 * 10 ^ 87 := by rw [show 91 = 87 + 4 from rfl, Nat.pow_add, Nat.mul_comm]
                have p2 : (10 : Nat) ^ 92 = 100000 * 10 ^ 87 := by rw [show 92 = 87 + 5 from rfl, Nat.pow_add, Nat.mul_comm]
                have p3 : 100 < 10 ^ 87 := by decide
                have gA : A.data.toList = Lib.itoa (U : Int) := by rw [hAl, Lib.itoa_nonneg, k2]
                have gI : I.data.toList = Lib.itoa (V : Int) := by rw [hIl, Lib.itoa_nonneg, ← i1]
                have gT : T.data.toList = Lib.itoa (Z : Int) := by rw [hTl, Lib.itoa_nonneg, ← t1]
                have c1 : (U : Int) * 12 = ((U * 12 : Nat) : Int) := by omega
                have c2 : ((U * 12 : Nat) : Int) + (V : Int) = ((U * 12 + V : Nat) : Int) := by omega
                have c3 : ((U * 12 + V : Nat) : Int) * 12 = (((U * 12 + V) * 12 : Nat) : Int) := by omega
                have c4 : (((U * 12 + V) * 12 : Nat) : Int) + (Z : Int) = (((U * 12 + V) * 12 + Z : Nat) : Int) := by omega
                have c5 : (((U * 12 + V) * 12 + Z : Nat) : Int) * 127 = ((((U * 12 + V) * 12 + Z) * 127 : Nat) : Int) := by omega
                have fN : ∀ v : Nat, v < 10 ^ 92 → fits (v : Int) := fun v h => fits_le_pow (k := 92) (by omega) (by rw [Int.natAbs_natCast]; exact h)
                have HM1 := hide (fun w hB hT => mmul_to (s := A) (t := ⟨#[49, 50]⟩) gA lit12 (fN _ (by omega)) (fits_lit (by decide)) (by rw [c1]; exact fN _ (by omega)) B w hB hT)
                rw [c1] at HM1
                have HA1 := hide (fun w hB hT => Add_good (s := strB (Lib.itoa ((U * 12 : Nat) : Int))) (t := I) (strB_list _) gI (fN _ (by omega)) (fN _ (by omega)) (by rw [c2]; exact fN _ (by omega)) B w hB hT)
                rw [c2] at HA1
                have HM2 := hide (fun w hB hT => mmul_to (s := strB (Lib.itoa ((U * 12 + V : Nat) : Int))) (t := ⟨#[49, 50]⟩) (strB_list _) lit12 (fN _ (by omega)) (fits_lit (by decide)) (by rw [c3]; exact fN _ (by omega)) B w hB hT)
                rw [c3] at HM2
                have HA2 := hide (fun w hB hT => Add_good (s := strB (Lib.itoa (((U * 12 + V) * 12 : Nat) : Int))) (t := T) (strB_list _) gT (fN _ (by omega)) (fN _ (by omega)) (by rw [c4]; exact fN _ (by omega)) B w hB hT)
                rw [c4] at HA2
                have HM3 := hide (fun w hB hT => mmul_to (s := strB (Lib.itoa (((U * 12 + V) * 12 + Z : Nat) : Int))) (t := ⟨#[49, 50, 55]⟩) (strB_list _) lit127 (fN _ (by omega)) (fits_lit (by decide)) (by rw [c5]; exact fN _ (by omega)) B w hB hT)
                rw [c5] at HM3
                have hwl : (((U * 12 + V) * 12 + Z) * 127) < 10 ^ 92 := by omega
                obtain ⟨K, hK⟩ : ∃ K, K = ((U * 12 + V) * 12 + Z) * 127 := ⟨_, rfl⟩
                rw [← hK] at HM3 hwl ⊢
                have HF := hide (fun w hB hT => HFR.out (strB (Lib.itoa (K : Int))) ⟨#[54, 48]⟩ 60 (by rw [strB_list, Lib.itoa_nonneg]; exact decDigits_dg _) (by rw [strB_size, Lib.itoa_nonneg]; exact (dec_len_le (by omega)).2 hwl) (by rw [lit60, show (60 : Int) = ((60 : Nat) : Int) from rfl, Lib.itoa_nonneg]) (by decide) (by decide) w hB hT)
                rw [strB_list, Lib.itoa_nonneg, dv_decDigits] at HF
                have hKt : strB (Lib.decDigits K) = strB (Lib.itoa (K : Int)) := by rw [Lib.itoa_nonneg]
                rw [hKt] at HF
                obtain ⟨X, hX⟩ : ∃ X, X = strB (ratS (sgn neg ((K : Nat) / ((60 : Nat) : Rat)))) := ⟨_, rfl⟩
                rw [show pairV (ratS (sgn neg ((K : Nat) / ((60 : Nat) : Rat)))) 0 = .tuple #[.string X, .int .i64 0] by rw [hX]]
                rw [← hX] at HF
                obtain ⟨E1, hE1⟩ : ∃ X, X = strB (Lib.itoa ((U * 12 : Nat) : Int)) := ⟨_, rfl⟩
                obtain ⟨E2, hE2⟩ : ∃ X, X = strB (Lib.itoa ((U * 12 + V : Nat) : Int)) := ⟨_, rfl⟩
                obtain ⟨E3, hE3⟩ : ∃ X, X = strB (Lib.itoa (((U * 12 + V) * 12 : Nat) : Int)) := ⟨_, rfl⟩
                obtain ⟨E4, hE4⟩ : ∃ X, X = strB (Lib.itoa (((U * 12 + V) * 12 + Z : Nat) : Int)) := ⟨_, rfl⟩
                obtain ⟨E5, hE5⟩ : ∃ X, X = strB (Lib.itoa (K : Int)) := ⟨_, rfl⟩
                have HA1 : Hid (∀ w, B ≤ w.heap.size → P10 B w → Calls Tryz.prog 59 #[.string E1, .string I] w (Ret w (.tuple #[.string E2, .int .i64 0]))) := hide (by rw [hE1, hE2]; exact HA1.out)
                have HA2 : Hid (∀ w, B ≤ w.heap.size → P10 B w → Calls Tryz.prog 59 #[.string E3, .string T] w (Ret w (.tuple #[.string E4, .int .i64 0]))) := hide (by rw [hE3, hE4]; exact HA2.out)
                rw [← hE1] at HM1
                rw [← hE2, ← hE3] at HM2
                rw [← hE4, ← hE5] at HM3
                rw [← hE5] at HF
                clear k1 k2 k3 k4 k5 hk hqq hsz hsz2 hnum hWA hEq HDA HSM1 HSM2 HFR h34 h39 i1 i2 t1 t2 hU hV hZ hUb p1 p2 p3 gA gI gT c1 c2 c3 c4 c5 fN hwl hK hKt hX hE1 hE2 hE3 hE4 hE5
                clear hbad hgood hpe hok hq hok2 hq2 h90 hneg hL hLl hO hOl hOs hSG hT tz1 tz2 hal hbl ha hb hb39 hbl2 hsum hA hR hAl hAs hRl hRs hil htl hi ht ht34 htl2 hsum2 hI hT2 hIl hIs hTl hTs
                go_enter Tryz.func17, Tryz.ntmps17
                go_wp2_with fail
                refine (HSI.out).mono ?_
                rintro e w1 ⟨rfl, hb1⟩
                have HB1 := hide hb1
                clear hb1
                go_wp2_with fail
                refine (HC39.out _ (HT.out.on HB1.out hB)).mono ?_
                rintro e w2 ⟨rfl, hb2⟩
                have HB2 := hide (HB1.out.trans (hb2.mono HB1.out.size))
                clear hb2
                go_wp2_with fail
                refine (HC34.out _ (HT.out.on HB2.out hB)).mono ?_
                rintro e w3 ⟨rfl, hb3⟩
                have HB3 := hide (HB2.out.trans (hb3.mono HB2.out.size))
                clear hb3
                go_wp2_with fail
                refine (HD.out _).mono ?_
                rintro e w4 ⟨rfl, hb4⟩
                have HB4 := hide (HB3.out.trans (hb4.mono HB3.out.size))
                clear hb4
                go_wp2_with fail
                refine (HW.out _).mono ?_
                rintro e w5 ⟨rfl, hb5⟩
                have HB5 := hide (HB4.out.trans (hb5.mono HB4.out.size))
                clear hb5
                go_wp2_with fail
                refine (HS1.out _).mono ?_
                rintro e w6 ⟨rfl, hb6⟩
                have HB6 := hide (HB5.out.trans (hb6.mono HB5.out.size))
                clear hb6
                go_wp2_with fail
                refine (HS2.out _).mono ?_
                rintro e w7 ⟨rfl, hb7⟩
                have HB7 := hide (HB6.out.trans (hb7.mono HB6.out.size))
                clear hb7
                go_wp2_with fail
                refine (HM1.out _ (Nat.le_trans hB HB7.out.size) (HT.out.p10.on HB7.out hB)).mono ?_
                rintro e w8 ⟨rfl, hb8⟩
                have HB8 := hide (HB7.out.trans (hb8.mono HB7.out.size))
                clear hb8
                go_wp2_with fail
                refine (HA1.out _ (Nat.le_trans hB HB8.out.size) (HT.out.p10.on HB8.out hB)).mono ?_
                rintro e w9 ⟨rfl, hb9⟩
                have HB9 := hide (HB8.out.trans (hb9.mono HB8.out.size))
                clear hb9
                go_wp2_with fail
                refine (HM2.out _ (Nat.le_trans hB HB9.out.size) (HT.out.p10.on HB9.out hB)).mono ?_
                rintro e w10 ⟨rfl, hb10⟩
                have HB10 := hide (HB9.out.trans (hb10.mono HB9.out.size))
                clear hb10
                go_wp2_with fail
                refine (HA2.out _ (Nat.le_trans hB HB10.out.size) (HT.out.p10.on HB10.out hB)).mono ?_
                rintro e w11 ⟨rfl, hb11⟩
                have HB11 := hide (HB10.out.trans (hb11.mono HB10.out.size))
                clear hb11
                go_wp2_with fail
                refine (HM3.out _ (Nat.le_trans hB HB11.out.size) (HT.out.p10.on HB11.out hB)).mono ?_
                rintro e w12 ⟨rfl, hb12⟩
                have HB12 := hide (HB11.out.trans (hb12.mono HB11.out.size))
                clear hb12
                go_wp2_with fail
                refine (HF.out _ (Nat.le_trans hB HB12.out.size) (HT.out.on HB12.out hB)).mono ?_
                rintro e w13 ⟨rfl, hb13⟩
                have HB13 := hide (HB12.out.trans (hb13.mono HB12.out.size))
                clear hb13
                go_wp2_with fail
                refine bodyPost_ret (results_tmp2 rfl _ _ _) rfl ?_
                exact ⟨rfl, HB13.out⟩
            · have HS2 := hide (HSM2.out false (by simpa using k4))
              rw [hbad (fun h => k4 (hk.1 h).2.2.1)]
              clear k1 k2 k3 k4 hk hqq hsz hsz2 hnum hWA hEq HDA HSM1 HSM2 HFR h34 h39
              clear hbad hgood hpe hok hq hok2 hq2 h90 hneg hL hLl hO hOl hOs hSG hT tz1 tz2 hal hbl ha hb hb39 hbl2 hsum hA hR hAl hAs hRl hRs hil htl hi ht ht34 htl2 hsum2 hI hT2 hIl hIs hTl hTs
              go_enter Tryz.func17, Tryz.ntmps17
              go_wp2_with fail
              refine (HSI.out).mono ?_
              rintro e w1 ⟨rfl, hb1⟩
              have HB1 := hide hb1
              clear hb1
              go_wp2_with fail
              refine (HC39.out _ (HT.out.on HB1.out hB)).mono ?_
              rintro e w2 ⟨rfl, hb2⟩
              have HB2 := hide (HB1.out.trans (hb2.mono HB1.out.size))
              clear hb2
              go_wp2_with fail
              refine (HC34.out _ (HT.out.on HB2.out hB)).mono ?_
              rintro e w3 ⟨rfl, hb3⟩
              have HB3 := hide (HB2.out.trans (hb3.mono HB2.out.size))
              clear hb3
              go_wp2_with fail
              refine (HD.out _).mono ?_
              rintro e w4 ⟨rfl, hb4⟩
              have HB4 := hide (HB3.out.trans (hb4.mono HB3.out.size))
              clear hb4
              go_wp2_with fail
              refine (HW.out _).mono ?_
              rintro e w5 ⟨rfl, hb5⟩
              have HB5 := hide (HB4.out.trans (hb5.mono HB4.out.size))
              clear hb5
              go_wp2_with fail
              refine (HS1.out _).mono ?_
              rintro e w6 ⟨rfl, hb6⟩
              have HB6 := hide (HB5.out.trans (hb6.mono HB5.out.size))
              clear hb6
              go_wp2_with fail
              refine (HS2.out _).mono ?_
              rintro e w7 ⟨rfl, hb7⟩
              have HB7 := hide (HB6.out.trans (hb7.mono HB6.out.size))
              clear hb7
              go_wp2_with fail
              refine bodyPost_ret (results_tmp2 rfl _ _ _) rfl ?_
              exact ⟨rfl, HB7.out⟩
          · have HS1 := hide (HSM1.out false (by simpa using k3))
            rw [hbad (fun h => k3 (hk.1 h).2.1)]
            clear k1 k2 k3 hk hqq hsz hsz2 hnum hWA hEq HDA HSM1 HSM2 HFR h34 h39
            clear hbad hgood hpe hok hq hok2 hq2 h90 hneg hL hLl hO hOl hOs hSG hT tz1 tz2 hal hbl ha hb hb39 hbl2 hsum hA hR hAl hAs hRl hRs hil htl hi ht ht34 htl2 hsum2 hI hT2 hIl hIs hTl hTs
            go_enter Tryz.func17, Tryz.ntmps17
            go_wp2_with fail
            refine (HSI.out).mono ?_
            rintro e w1 ⟨rfl, hb1⟩
            have HB1 := hide hb1
            clear hb1
            go_wp2_with fail
            refine (HC39.out _ (HT.out.on HB1.out hB)).mono ?_
            rintro e w2 ⟨rfl, hb2⟩
            have HB2 := hide (HB1.out.trans (hb2.mono HB1.out.size))
            clear hb2
            go_wp2_with fail
            refine (HC34.out _ (HT.out.on HB2.out hB)).mono ?_
            rintro e w3 ⟨rfl, hb3⟩
            have HB3 := hide (HB2.out.trans (hb3.mono HB2.out.size))
            clear hb3
            go_wp2_with fail
            refine (HD.out _).mono ?_
            rintro e w4 ⟨rfl, hb4⟩
            have HB4 := hide (HB3.out.trans (hb4.mono HB3.out.size))
            clear hb4
            go_wp2_with fail
            refine (HW.out _).mono ?_
            rintro e w5 ⟨rfl, hb5⟩
            have HB5 := hide (HB4.out.trans (hb5.mono HB4.out.size))
            clear hb5
            go_wp2_with fail
            refine (HS1.out _).mono ?_
            rintro e w6 ⟨rfl, hb6⟩
            have HB6 := hide (HB5.out.trans (hb6.mono HB5.out.size))
            clear hb6
            go_wp2_with fail
            refine bodyPost_ret (results_tmp2 rfl _ _ _) rfl ?_
            exact ⟨rfl, HB6.out⟩
        · have hwn : (WA.toList != A.toList) = true := by
            rw [ByteArray.toList_eq, ByteArray.toList_eq, hWA, strB_list, hAl]
            simpa using k2
          have hwe : (WA.toList == A.toList) = false := by
            rw [ByteArray.toList_eq, ByteArray.toList_eq, hWA, strB_list, hAl]
            simpa using k2
          rw [hbad (fun h => k2 (numeral_iff.1 (hk.1 h).1).2)]
          clear k1 k2 hk hqq hsz hsz2 hWA HDA HSM1 HSM2 HFR h34 h39
          clear hbad hgood hpe hok hq hok2 hq2 h90 hneg hL hLl hO hOl hOs hSG hT tz1 tz2 hal hbl ha hb hb39 hbl2 hsum hA hR hAl hAs hRl hRs hil htl hi ht ht34 htl2 hsum2 hI hT2 hIl hIs hTl hTs
          go_enter Tryz.func17, Tryz.ntmps17
          go_wp2_with fail
          refine (HSI.out).mono ?_
          rintro e w1 ⟨rfl, hb1⟩
          have HB1 := hide hb1
          clear hb1
          go_wp2_with fail
          refine (HC39.out _ (HT.out.on HB1.out hB)).mono ?_
          rintro e w2 ⟨rfl, hb2⟩
          have HB2 := hide (HB1.out.trans (hb2.mono HB1.out.size))
          clear hb2
          go_wp2_with fail
          refine (HC34.out _ (HT.out.on HB2.out hB)).mono ?_
          rintro e w3 ⟨rfl, hb3⟩
          have HB3 := hide (HB2.out.trans (hb3.mono HB2.out.size))
          clear hb3
          go_wp2_with fail
          refine (HD.out _).mono ?_
          rintro e w4 ⟨rfl, hb4⟩
          have HB4 := hide (HB3.out.trans (hb4.mono HB3.out.size))
          clear hb4
          go_wp2_with fail
          refine (HW.out _).mono ?_
          rintro e w5 ⟨rfl, hb5⟩
          have HB5 := hide (HB4.out.trans (hb5.mono HB4.out.size))
          clear hb5
          go_wp2_with fail
          refine bodyPost_ret (results_tmp2 rfl _ _ _) rfl ?_
          exact ⟨rfl, HB5.out⟩
      · have HD := hide (HDA.out false (by simpa using k1))
        rw [hbad (fun h => k1 (numeral_iff.1 (hk.1 h).1).1)]
        clear k1 hk hqq hsz hsz2 HDA HSM1 HSM2 HFR h34 h39
        clear hbad hgood hpe hok hq hok2 hq2 h90 hneg hL hLl hO hOl hOs hSG hT tz1 tz2 hal hbl ha hb hb39 hbl2 hsum hA hR hAl hAs hRl hRs hil htl hi ht ht34 htl2 hsum2 hI hT2 hIl hIs hTl hTs
        go_enter Tryz.func17, Tryz.ntmps17
        go_wp2_with fail
        refine (HSI.out).mono ?_
        rintro e w1 ⟨rfl, hb1⟩
        have HB1 := hide hb1
        clear hb1
        go_wp2_with fail
        refine (HC39.out _ (HT.out.on HB1.out hB)).mono ?_
        rintro e w2 ⟨rfl, hb2⟩
        have HB2 := hide (HB1.out.trans (hb2.mono HB1.out.size))
        clear hb2
        go_wp2_with fail
        refine (HC34.out _ (HT.out.on HB2.out hB)).mono ?_
        rintro e w3 ⟨rfl, hb3⟩
        have HB3 := hide (HB2.out.trans (hb3.mono HB2.out.size))
        clear hb3
        go_wp2_with fail
        refine (HD.out _).mono ?_
        rintro e w4 ⟨rfl, hb4⟩
        have HB4 := hide (HB3.out.trans (hb4.mono HB3.out.size))
        clear hb4
        go_wp2_with fail
        refine bodyPost_ret (results_tmp2 rfl _ _ _) rfl ?_
        exact ⟨rfl, HB4.out⟩
    · rw [show decide (39 ∈ L) = true by simpa using h39] at HC39
      rw [show decide (34 ∈ b) = false by simpa using h34] at HC34
      rw [hbad (fun h => h34 (by have := (hok.1 h).2.1; rwa [hb39 h39] at this))]
      clear HDA HSM1 HSM2 HFR h34 h39
      clear hbad hgood hpe hok hq hok2 hq2 h90 hneg hL hLl hO hOl hOs hSG hT tz1 tz2 hal hbl ha hb hb39 hbl2 hsum hA hR hAl hAs hRl hRs hil htl hi ht ht34 htl2 hsum2 hI hT2 hIl hIs hTl hTs
      go_enter Tryz.func17, Tryz.ntmps17
      go_wp2_with fail
      refine (HSI.out).mono ?_
      rintro e w1 ⟨rfl, hb1⟩
      have HB1 := hide hb1
      clear hb1
      go_wp2_with fail
      refine (HC39.out _ (HT.out.on HB1.out hB)).mono ?_
      rintro e w2 ⟨rfl, hb2⟩
      have HB2 := hide (HB1.out.trans (hb2.mono HB1.out.size))
      clear hb2
      go_wp2_with fail
      refine (HC34.out _ (HT.out.on HB2.out hB)).mono ?_
      rintro e w3 ⟨rfl, hb3⟩
      have HB3 := hide (HB2.out.trans (hb3.mono HB2.out.size))
      clear hb3
      go_wp2_with fail
      refine bodyPost_ret (results_tmp2 rfl _ _ _) rfl ?_
      exact ⟨rfl, HB3.out⟩
  · rw [show decide (39 ∈ L) = false by simpa using h39] at HC39
    obtain ⟨is, his⟩ : ∃ is, is = decide (34 ∈ b) := ⟨_, rfl⟩
    rw [← his] at HC34
    rw [hbad (fun h => h39 (hok.1 h).1)]
    clear HDA HSM1 HSM2 HFR h39 his
    clear hbad hgood hpe hok hq hok2 hq2 h90 hneg hL hLl hO hOl hOs hSG hT tz1 tz2 hal hbl ha hb hb39 hbl2 hsum hA hR hAl hAs hRl hRs hil htl hi ht ht34 htl2 hsum2 hI hT2 hIl hIs hTl hTs
    go_enter Tryz.func17, Tryz.ntmps17
    go_wp2_with fail
    refine (HSI.out).mono ?_
    rintro e w1 ⟨rfl, hb1⟩
    have HB1 := hide hb1
    clear hb1
    go_wp2_with fail
    refine (HC39.out _ (HT.out.on HB1.out hB)).mono ?_
    rintro e w2 ⟨rfl, hb2⟩
    have HB2 := hide (HB1.out.trans (hb2.mono HB1.out.size))
    clear hb2
    go_wp2_with fail
    refine (HC34.out _ (HT.out.on HB2.out hB)).mono ?_
    rintro e w3 ⟨rfl, hb3⟩
    have HB3 := hide (HB2.out.trans (hb3.mono HB2.out.size))
    clear hb3
    go_wp2_with fail
    refine bodyPost_ret (results_tmp2 rfl _ _ _) rfl ?_
    exact ⟨rfl, HB3.out⟩
end Go.Proofs.YtfcjaljaomknjaaGreatDoor
namespace Go.KI
open Go
theorem dec_lit {l : List UInt8} (h0 : l ≠ []) (hd : ∀ c ∈ l, isDg c = true) (h1 : 1 < l.length → l.head? ≠ some 48) {u : Nat} (hu : dv l = u) : Lib.decDigits u = l := by
  rw [← hu]
  exact (dec_of h0 hd h1).symm
theorem sz_90 {q : Rat} (h : sz 90 q) : fitsQ q := sz_fits h (by rw [most_eq]; omega)
theorem chkM_short {q : Rat} (h : sz 90 q) : chkM (ratS q) = 0 := by
  unfold chkM
  rw [ratS_num, if_neg (by simp [chkQ_fits (sz_90 h)]), if_neg]
  have h1 := (dec_len_le (u := q.num.natAbs) (n := 90) (by omega)).2 h.1
  have h2 := (dec_len_le (u := q.den) (n := 90) (by omega)).2 h.2
  omega
end Go.KI
namespace Go.Proofs.YtfcjaljaomknjaaGreatDoor
open Go.RowKit Go.KP Go.KI Go.Shelf
attribute [local go_sem] Oper.semAt_some

theorem chkP_short {q : Rat} (h : sz 90 q) {p : Nat} (hp : p ≤ 100) : chkP (ratS q) (p : Int) = 0 := by
  unfold chkP
  rw [if_neg (by simp [chkM_short h]), if_neg (by omega)]
theorem mPrint_to {s : ByteArray} {q : Rat} {p : Nat} (h : s.data.toList = ratS q) (f : sz 90 q) (hp : p ≤ 100) (B : Nat) (w : World) (hB : B ≤ w.heap.size) (hT : PQ B w) :
    Calls Tryz.prog 9 #[.string s, .int .i64 p] w (Ret w (.tuple #[.string (strB (decT (unitsP q p) p)), .int .i64 0])) := by
  have h1 := mPrint_any s (good_len h (sz_90 f)) (p : Int) B w hB hT
  unfold printS at h1
  rw [h, chkP_short f hp, if_pos rfl, ratS_num, Int.toNat_natCast] at h1
  exact h1
theorem mFeet_to {s : ByteArray} {q : Rat} (h : s.data.toList = ratS q) (f : sz 90 q) (B : Nat) (w : World) (hB : B ≤ w.heap.size) (hT : PQ B w) :
    Calls Tryz.prog 15 #[.string s] w (Ret w (.tuple #[.string (strB (feetT (twelfths q))), .int .i64 0])) := by
  have h1 := mFeet_any s (good_len h (sz_90 f)) B w hB hT
  unfold feetS at h1
  rw [h, chkM_short f, if_pos rfl, ratS_num] at h1
  exact h1
theorem mParseFeet_to {s : ByteArray} {q : Rat} (h1 : feetOK s.data.toList) (hl : s.size ≤ 90) (h2 : feetQ s.data.toList = q) (B : Nat) (w : World) (hB : B ≤ w.heap.size) (hT : PQ B w) :
    Calls Tryz.prog 17 #[.string s] w (Ret w (.tuple #[.string (strB (ratS q)), .int .i64 0])) := by
  have h := mParseFeet_any s B w hB hT
  have e : feetE s.data.toList = 0 := by unfold feetE; rw [bytes_len, if_neg (by omega), if_pos h1]
  unfold feetR at h
  rw [e, if_pos rfl, h2] at h
  exact h
abbrev q52 : Rat := ⟨5, 2, by decide, by decide⟩
abbrev qm52 : Rat := ⟨-5, 2, by decide, by decide⟩
abbrev q13 : Rat := ⟨1, 3, by decide, by decide⟩
abbrev q1275 : Rat := ⟨127, 5, by decide, by decide⟩
theorem dig1 (u : Nat) (h : u < 10) : Lib.decDigits u = [UInt8.ofNat (48 + u)] := Lib.decDigits_one h
theorem t52 : (⟨#[53, 47, 50]⟩ : ByteArray).data.toList = ratS q52 := by
  unfold ratS
  rw [if_neg (by decide), show q52.num = ((5 : Nat) : Int) from rfl, Lib.itoa_nonneg, dig1 5 (by omega), show q52.den = 2 from rfl, dig1 2 (by omega)]
  rfl
theorem tm52 : (⟨#[45, 53, 47, 50]⟩ : ByteArray).data.toList = ratS qm52 := by
  unfold ratS
  rw [if_neg (by decide), show qm52.num = -((5 : Nat) : Int) from rfl, Lib.itoa_neg 5 (by omega), dig1 5 (by omega), show qm52.den = 2 from rfl, dig1 2 (by omega)]
  rfl
theorem t13 : (⟨#[49, 47, 51]⟩ : ByteArray).data.toList = ratS q13 := by
  unfold ratS
  rw [if_neg (by decide), show q13.num = ((1 : Nat) : Int) from rfl, Lib.itoa_nonneg, dig1 1 (by omega), show q13.den = 3 from rfl, dig1 3 (by omega)]
  rfl
theorem t1275 : (⟨#[49, 50, 55, 47, 53]⟩ : ByteArray).data.toList = ratS q1275 := by
  unfold ratS
  rw [if_neg (by decide), show q1275.num = ((127 : Nat) : Int) from rfl, Lib.itoa_nonneg, dec_lit (l := [49, 50, 55]) (by decide) (by decide) (by decide) (u := 127) rfl, show q1275.den = 5 from rfl, dig1 5 (by omega)]
  rfl
theorem t1000 : (⟨#[49, 48, 48, 48]⟩ : ByteArray).data.toList = ratS ((1000 : Nat) : Rat) := by
  rw [ratS_nat, dec_lit (l := [49, 48, 48, 48]) (by decide) (by decide) (by decide) (u := 1000) rfl]
theorem p52 : strB (decT (unitsP q52 0) 0) = ⟨#[51]⟩ := by
  rw [show unitsP q52 0 = 3 from by decide]
  unfold decT
  rw [if_neg (by decide), if_pos rfl, show (3 : Int).natAbs = 3 from rfl, dig1 3 (by omega)]
  rfl
theorem pm52 : strB (decT (unitsP qm52 0) 0) = ⟨#[45, 50]⟩ := by
  rw [show unitsP qm52 0 = -2 from by decide]
  unfold decT
  rw [if_pos (by decide), if_pos rfl, show (-2 : Int).natAbs = 2 from rfl, dig1 2 (by omega)]
  rfl
theorem p13 : strB (decT (unitsP q13 2) 2) = ⟨#[48, 46, 51, 51]⟩ := by
  rw [show unitsP q13 2 = 33 from by decide]
  unfold decT own
  rw [show (33 : Int).natAbs = 33 from rfl, dec_lit (l := [51, 51]) (by decide) (by decide) (by decide) (u := 33) rfl, if_neg (by decide), if_neg (by decide)]
  rfl
theorem f1000 : strB (feetT (twelfths ((1000 : Nat) : Rat))) = ⟨#[51, 39, 51, 34, 52]⟩ := by
  rw [show twelfths ((1000 : Nat) : Rat) = 472 from by decide]
  unfold feetT
  rw [show (472 : Int).natAbs = 472 from rfl, dig1 (472 / 144) (by omega), dig1 (472 % 144 % 12) (by omega)]
  rfl
theorem f010 : feetOK (⟨#[48, 39, 49, 34, 48]⟩ : ByteArray).data.toList := by
  show feetOK [48, 39, 49, 34, 48]
  decide
theorem fq010 : feetQ (⟨#[48, 39, 49, 34, 48]⟩ : ByteArray).data.toList = q1275 := by
  show feetQ [48, 39, 49, 34, 48] = q1275
  decide +kernel
theorem mx4 (w : World) : (Builtin.max_ #[25, 25, 25, 25] 25 #[.int .i64 0, .int .i64 0, .int .i64 0, .int .i64 0]).run Tryz.prog w = .ok (.int .i64 0) w := by kernel_rfl
theorem mawake_any (B : Nat) (w : World) (hB : B ≤ w.heap.size) (hT : PQ B w) :
    Calls Tryz.prog 8 #[] w (Ret w (.bool true)) := by
  have HT := hide hT
  have H1 := hide (mPrint_to t52 (by exact ⟨by decide +kernel, by decide +kernel⟩) (p := 0) (by omega) B w hB hT)
  rw [p52] at H1
  have H2 := hide (fun w hB hT => mPrint_to tm52 (by exact ⟨by decide +kernel, by decide +kernel⟩) (p := 0) (by omega) B w hB hT)
  rw [pm52] at H2
  have H3 := hide (fun w hB hT => mPrint_to t13 (by exact ⟨by decide +kernel, by decide +kernel⟩) (p := 2) (by omega) B w hB hT)
  rw [p13] at H3
  have H4 := hide (fun w hB hT => mFeet_to t1000 (by exact sz_nat (by decide +kernel) (by omega)) B w hB hT)
  rw [f1000] at H4
  have H5 := hide (fun w hB hT => mParseFeet_to f010 (by decide) fq010 B w hB hT)
  rw [show strB (ratS q1275) = ⟨#[49, 50, 55, 47, 53]⟩ by rw [← t1275]; rfl] at H5
  have hmx := mx4
  clear hT
  go_enter Tryz.func8, Tryz.ntmps8
  go_wp2_with fail
  refine H1.out.mono ?_
  rintro e w1 ⟨rfl, hb1⟩
  have HB1 := hide hb1
  clear hb1
  go_wp2_with fail
  refine (H2.out _ (Nat.le_trans hB HB1.out.size) (HT.out.on HB1.out hB)).mono ?_
  rintro e w2 ⟨rfl, hb2⟩
  have HB2 := hide (HB1.out.trans (hb2.mono HB1.out.size))
  clear hb2
  go_wp2_with fail
  refine (H3.out _ (Nat.le_trans hB HB2.out.size) (HT.out.on HB2.out hB)).mono ?_
  rintro e w3 ⟨rfl, hb3⟩
  have HB3 := hide (HB2.out.trans (hb3.mono HB2.out.size))
  clear hb3
  go_wp2_with fail
  refine (H4.out _ (Nat.le_trans hB HB3.out.size) (HT.out.on HB3.out hB)).mono ?_
  rintro e w4 ⟨rfl, hb4⟩
  have HB4 := hide (HB3.out.trans (hb4.mono HB3.out.size))
  clear hb4
  go_wp2_with fail
  refine (H5.out _ (Nat.le_trans hB HB4.out.size) (HT.out.on HB4.out hB)).mono ?_
  rintro e w5 ⟨rfl, hb5⟩
  have HB5 := hide (HB4.out.trans (hb5.mono HB4.out.size))
  clear hb5
  go_wp2_with fail
  go_ret
  exact ⟨rfl, HB5.out⟩
def fineQ (l : List UInt8) : Prop := l.length ≤ 30 ∧ chkQ l = 0
instance (l : List UInt8) : Decidable (fineQ l) := inferInstanceAs (Decidable (_ ∧ _))
end Go.Proofs.YtfcjaljaomknjaaGreatDoor
namespace Go.KI
open Go
theorem contains_infix {l sub : List UInt8} (h : sub <:+: l) : Lib.contains l sub = true := by
  obtain ⟨u, v, huv⟩ := h
  unfold Lib.contains
  refine decide_eq_true ?_
  rcases Lib.index_spec l sub with ⟨_, h2⟩ | ⟨i, h1, _⟩
  · have h3 := h2 u.length (by rw [← huv, List.length_append, List.length_append]; omega)
    unfold Lib.occAt at h3
    rw [← huv, List.append_assoc, List.drop_left] at h3
    have : sub.isPrefixOf (sub ++ v) = true := List.isPrefixOf_iff_prefix.2 (List.prefix_append sub v)
    rw [this] at h3
    cases h3
  · omega
theorem prefix_head {l : List UInt8} {c : UInt8} (h : l.head? = some c) : Lib.hasPrefix l [c] = true := by
  unfold Lib.hasPrefix
  cases l with
  | nil => cases h
  | cons a b =>
    injection h with h
    rw [h]
    exact List.isPrefixOf_iff_prefix.2 ⟨b, rfl⟩
theorem suffix_last {l : List UInt8} {c : UInt8} (h : l.getLast? = some c) : Lib.hasSuffix l [c] = true := by
  unfold Lib.hasSuffix
  have hl : l ≠ [] := fun e => by rw [e] at h; cases h
  refine List.isSuffixOf_iff_suffix.2 ⟨l.dropLast, ?_⟩
  have h2 := List.dropLast_concat_getLast hl
  rw [List.getLast?_eq_some_getLast hl] at h
  rw [← Option.some.inj h]
  exact h2
theorem found_bad {s : ByteArray} (h : ∃ c ∈ s.data.toList, c.toNat < 32 ∨ 126 < c.toNat) : decide (0 ≤ Lib.idxFunc badR true s) = true := by
  obtain ⟨c, hc, hb⟩ := h
  obtain ⟨i, hi, e⟩ := mem_place hc
  refine decide_eq_true ?_
  unfold Lib.idxFunc
  have hl : s.data.toList.length = s.size := by simp
  refine bad_found (F := Lib.idxFuncFrom badR true s) (fun f pos hp => ?_) hi (by rw [e]; exact hb) s.size 0 (by omega) (by omega)
  show (if pos < s.size then (if badR (Utf8.decode s pos).1 = true then (pos : Int) else Lib.idxFuncFrom badR true s f (pos + (Utf8.decode s pos).2)) else -1) = _
  rw [if_pos hp]
def badW (w : List UInt8) : Bool := decide (w = []) || w.contains 32
theorem words_good {l : List UInt8} (h : (wordsL l).all okW = true) : (wordsL l).any badW = false := by
  rw [List.any_eq_false]
  intro w hw
  have h1 := List.all_eq_true.1 h w hw
  unfold okW at h1
  rw [Bool.and_eq_true] at h1
  obtain ⟨h2, h3⟩ := h1
  unfold badW
  have a1 : decide (w = []) = false := decide_eq_false fun e => by rw [e] at h2; cases h2
  have a2 : w.contains 32 = false := by
    have := all_prn_no h3
    simpa using this
  rw [a1, a2]
  simp
end Go.KI
namespace Go.Proofs.YtfcjaljaomknjaaGreatDoor
open Go.RowKit Go.KP Go.KI Go.Shelf
attribute [local go_sem] Oper.semAt_some

theorem badRune_pays (w : World) : PredAt Tryz.prog 28 #[] encR badR w := fun W r _ => by
  unfold FnGives badR
  by_cases h1 : r < 32 <;> by_cases h2 : 126 < r
  all_goals
    have z1 : (r : Int) < 32 ↔ r < 32 := by omega
    have z2 : (126 : Int) < (r : Int) ↔ 126 < r := by omega
    go_enter Tryz.func28, Tryz.ntmps28
    go_wp2
    all_goals first | (exfalso; omega) | (go_ret; exact ⟨by simp [h1, h2], 0, rfl⟩)
theorem badWord_pays (w : World) : PredAt Tryz.prog 29 #[] (fun x : List UInt8 => Value.string (strB x)) badW w := fun W x _ => by
  unfold FnGives
  have HC := hide (Tryz.strings_Contains_one (strB x) 32 W)
  rw [strB_list, ← Lib.contains_iff_indexByte] at HC
  obtain ⟨c, hc⟩ : ∃ c, c = x.contains 32 := ⟨_, rfl⟩
  have hb : badW x = (decide (x = []) || c) := by rw [hc]; rfl
  rw [← hc] at HC
  rw [hb]
  clear hc hb
  by_cases h : x = []
  · have e1 : ((strB x).toList == []) = true := by rw [ByteArray.toList_eq, strB_list, h]; rfl
    have e2 : (strB x).toList.isEmpty = true := by rw [ByteArray.toList_eq, strB_list, h]; rfl
    rw [decide_eq_true h]
    clear h
    go_enter Tryz.func29, Tryz.ntmps29
    go_wp2_with fail
    go_ret
    exact ⟨by simp, 0, rfl⟩
  · have e1 : ((strB x).toList == []) = false := by rw [ByteArray.toList_eq, strB_list]; exact beq_false_of_ne h
    have e2 : (strB x).toList.isEmpty = false := by
      rw [ByteArray.toList_eq, strB_list]
      cases x with
      | nil => exact absurd rfl h
      | cons a b => rfl
    rw [decide_eq_false h]
    clear h
    go_enter Tryz.func29, Tryz.ntmps29
    go_wp2_with fail
    refine HC.out.mono ?_
    rintro e w1 ⟨rfl, rfl⟩
    go_wp2_with fail
    go_ret
    exact ⟨by simp, 0, rfl⟩
theorem owns_strs {base : Nat} {e : TypeId} {w : World} {v : Value} {ws : List (List UInt8)} (h : w.ownsRow base e 1 v ws.length (wcells ws)) :
    (v = .slice none 0 0 ∧ ws = []) ∨ ∃ g cap, v = .slice (some ⟨g, 0, none⟩) ws.length cap ∧ ws.length ≤ cap ∧ g < w.heap.size ∧ ∀ k, k < ws.length → w.cell? ⟨g, 0 + k, none⟩ = some (.string (strB (ws.getD k []))) := by
  have hs := SlAt.of_owns h
  rcases h.2 with ⟨h1, h2⟩ | ⟨g, cap, cur, hv, _, hh, hcap, _⟩
  · exact .inl ⟨h1, List.eq_nil_of_length_eq_zero h2⟩
  · refine .inr ⟨g, cap, hv, hcap, (Array.getElem?_eq_some_iff.1 hh).1, fun k hk => ?_⟩
    rcases hs.2 with ⟨a, c, h1, h2⟩ | ⟨b, o, c2, h1, _, hc⟩
    · omega
    · rw [hv] at h1
      injection h1 with h3 h4 h5
      injection h3 with h3
      injection h3 with h6 h7
      have := hc k _ (wcells_at hk)
      rw [← h6, ← h7] at this
      exact this
theorem words_nil {l : List UInt8} (h : wordsL l = []) : l = [] := by
  unfold wordsL at h
  split at h
  · assumption
  · exact absurd h (pieces_ne l)
theorem measureWords_any (s : ByteArray) (B : Nat) (w : World) (hB : B ≤ w.heap.size) (hT : PQ B w) :
    Calls Tryz.prog 5 #[.string s] w (Ret w (.bool true)) := by
  have HT := hide (hT.mono hB)
  clear hT hB B
  have HAW := hide (fun w2 (h : Below w.heap.size w w2) => mawake_any w.heap.size w2 h.size (HT.out.on h (Nat.le_refl _)))
  by_cases h120 : 120 < s.size
  · have m120 : (120 : Int) < (s.size : Int) := by omega
    clear h120
    go_enter Tryz.func5, Tryz.ntmps5
    go_wp2_with fail
    refine (HAW.out _ (Below.refl w.heap.size w)).mono ?_
    rintro e w9 ⟨rfl, hb9⟩
    have HB9 := hide ((Below.refl w.heap.size w).trans (hb9.mono (Below.refl w.heap.size w).size))
    clear hb9
    go_wp2_with fail
    refine bodyPost_ret (results_tmp rfl _ _ _) rfl ?_
    exact ⟨rfl, HB9.out⟩
  have m120 : ((120 : Int) < (s.size : Int)) = False := eq_false (by omega)
  have HW := hide (fun w2 (h : Below w.heap.size w w2) => mWords_any s (by omega) w.heap.size w2 h.size (HT.out.on h (Nat.le_refl _)))
  obtain ⟨l, hl⟩ : ∃ l, l = s.data.toList := ⟨_, rfl⟩
  have hll : l.length = s.size := by rw [hl, bytes_len]
  have hsl : s = strB l := by rw [hl]; rfl
  rw [← hl] at HW
  by_cases h0 : (wordsL l).all okW = true
  · have HE := hide (wordsE_ok (by omega) h0)
    have HW0 := hide (fun w2 (h : Below w.heap.size w w2) => (HW.out w2 h).mono (fun e w' (k : WordsAt w2 l e w') => show ∃ v, e = .returned (.tuple #[v, .int .i64 0]) ∧ (∃ base t, w'.ownsRow base t 1 v (wordsL l).length (wcells (wordsL l))) ∧ Below w2.heap.size w2 w' from by
      obtain ⟨v, k1, k2, k3⟩ := k
      rw [HE.out] at k1
      rw [if_pos HE.out] at k2
      exact ⟨v, k1, k2, k3⟩))
    have HJ := hide (wordsL_join l)
    have HG := hide (words_good h0)
    have hlen := words_len l
    have HSL := hide hsl
    have HJN := hide (fun (ws : List (List UInt8)) => show (ws.map strB).map (·.data.toList) = ws by rw [List.map_map]; exact (List.map_congr_left (fun x _ => strB_list x)).trans (List.map_id _))
    obtain ⟨ws, hws⟩ : ∃ ws, ws = wordsL l := ⟨_, rfl⟩
    rw [← hws] at HW0 HJ HG hlen
    have HN := hide (show ws = [] → s = ⟨#[]⟩ from fun e => by rw [hsl, words_nil (hws.symm.trans e)]; rfl)
    have hwl : ws.length ≤ 200 := by omega
    have hjl : (Lib.join ws [32]).length ≤ 200 := by rw [HJ.out]; omega
    have HJL := hide hjl
    clear h0 HW hlen hll hl hws hsl h120 HE hjl
    go_enter Tryz.func5, Tryz.ntmps5
    go_wp2_with fail
    refine (HW0.out _ (Below.refl _ _)).mono ?_
    rintro e w1 ⟨v, rfl, ⟨base, t, hv⟩, hb1⟩
    have HB1 := hide hb1
    clear hb1 HW0
    rcases owns_strs hv with ⟨rfl, hn⟩ | ⟨g, cap, rfl, hcap, hg, hc⟩
    · have hs0 := HN.out hn
      have HJ0 := hide (Tryz.strings_Join_none none 0 ⟨#[32]⟩ w1)
      rw [← hs0] at HJ0
      have HC0 := hide (Tryz.slices_ContainsFunc_empty (α := Int) none 0 (.func (.func 29) #[] #[]) w1)
      clear hv hn hs0
      go_wp2_with fail
      refine HJ0.out.mono ?_
      rintro e w2 ⟨rfl, rfl⟩
      go_wp2_with fail
      refine HC0.out.mono ?_
      rintro e w2 ⟨rfl, rfl⟩
      go_wp2_with fail
      refine (HAW.out _ HB1.out).mono ?_
      rintro e w9 ⟨rfl, hb9⟩
      have HB9 := hide (HB1.out.trans (hb9.mono HB1.out.size))
      clear hb9
      go_wp2_with fail
      refine bodyPost_ret (results_tmp rfl _ _ _) rfl ?_
      exact ⟨rfl, HB9.out⟩
    · have HJ1 := hide (Tryz.strings_Join g 0 cap (ws.map strB) ⟨#[32]⟩ w1 (fun j x hx => by
        rw [List.getElem?_map] at hx
        cases hk : ws[j]? with
        | none => rw [hk] at hx; cases hx
        | some y =>
          rw [hk] at hx
          injection hx with hx
          have hj : j < ws.length := (List.getElem?_eq_some_iff.1 hk).1
          rw [hc j hj, ← hx]
          congr 2
          rw [List.getD_eq_getElem?_getD, hk]
          rfl) hg (by rw [List.length_map]; omega) (by rw [List.length_map]; exact hcap) (by rw [HJN.out ws]; have := HJL.out; show (Lib.join ws [32]).length ≤ _; omega))
      rw [HJN.out ws, List.length_map, show Lib.join ws (⟨#[32]⟩ : ByteArray).data.toList = l from HJ.out, show (⟨l.toArray⟩ : ByteArray) = s from HSL.out.symm] at HJ1
      have HC1 := hide (fun w2 (hb : Below w1.heap.size w1 w2) => Tryz.slices_ContainsFunc (α := List UInt8) (fun x => .string (strB x)) badW 29 #[] (enters_of Tryz.func29 (by kernel_rfl) rfl) g 0 ws.length cap ws w2 (badWord_pays w2) (Nat.le_refl _) (by omega) (fun j hj => by
        rw [(hb.cell (p := ⟨g, 0 + j, none⟩) hg).trans (hc j hj)]
        congr 2
        rw [List.getElem!_eq_getElem?_getD, List.getD_eq_getElem?_getD]
        rfl))
      rw [List.take_length, HG.out] at HC1
      have hn9 : ((ws.length : Nat) : Int) ≤ 200 := by omega
      clear hv hcap hg hc
      go_wp2_with fail
      refine HJ1.out.mono ?_
      rintro e w2 ⟨rfl, hb2⟩
      have HB2 := hide (HB1.out.trans (hb2.mono HB1.out.size))
      have HC2 := hide (HC1.out w2 hb2)
      clear hb2 HC1
      go_wp2_with fail
      refine HC2.out.mono ?_
      rintro e w3 ⟨rfl, q, rfl⟩
      have HB3 := hide (below_drewN HB2.out q)
      clear HC2
      go_wp2_with fail
      refine (HAW.out _ HB3.out).mono ?_
      rintro e w9 ⟨rfl, hb9⟩
      have HB9 := hide (HB3.out.trans (hb9.mono HB3.out.size))
      clear hb9
      go_wp2_with fail
      refine bodyPost_ret (results_tmp rfl _ _ _) rfl ?_
      exact ⟨rfl, HB9.out⟩
  · have h0f : (wordsL l).all okW = false := by simpa using h0
    have HE := hide (wordsE_bad (by omega) h0f)
    have HW0 := hide (fun w2 (h : Below w.heap.size w w2) => (HW.out w2 h).mono (fun e w' (k : WordsAt w2 l e w') => show Ret w2 (.tuple #[.slice none 0 0, .int .i64 3]) e w' from by
      obtain ⟨v, k1, k2, k3⟩ := k
      rw [HE.out] at k1
      rw [if_neg (by rw [HE.out]; decide)] at k2
      rw [k2] at k1
      exact ⟨k1, k3⟩))
    have hbad := words_bad h0f
    have HP := hide (fun w => Tryz.strings_HasPrefix s ⟨#[32]⟩ w)
    have HX := hide (fun w => Tryz.strings_HasSuffix s ⟨#[32]⟩ w (by omega))
    have HC := hide (fun w2 (h : Below w.heap.size w w2) => (HT.out.on h (Nat.le_refl _)).len.elim fun m hm => Tryz.strings_Contains s ⟨#[32, 32]⟩ m w2 (by omega) hm)
    have HF := hide (fun w => Tryz.strings_ContainsFunc 28 #[] (enters_of Tryz.func28 (by kernel_rfl) rfl) badR s w (badRune_pays w))
    rw [← hl] at HP HX HC
    obtain ⟨b1, hb1⟩ : ∃ b, b = Lib.hasPrefix l [32] := ⟨_, rfl⟩
    obtain ⟨b2, hb2⟩ : ∃ b, b = Lib.hasSuffix l [32] := ⟨_, rfl⟩
    obtain ⟨b3, hb3⟩ : ∃ b, b = Lib.contains l [32, 32] := ⟨_, rfl⟩
    obtain ⟨b4, hb4⟩ : ∃ b, b = decide (0 ≤ Lib.idxFunc badR true s) := ⟨_, rfl⟩
    rw [show Lib.hasPrefix l (⟨#[32]⟩ : ByteArray).data.toList = b1 from hb1.symm] at HP
    rw [show Lib.hasSuffix l (⟨#[32]⟩ : ByteArray).data.toList = b2 from hb2.symm] at HX
    rw [show Lib.contains l (⟨#[32, 32]⟩ : ByteArray).data.toList = b3 from hb3.symm] at HC
    rw [← hb4] at HF
    have hway : b1 = true ∨ (b1 = false ∧ b2 = true) ∨ (b1 = false ∧ b2 = false ∧ b3 = true) ∨ (b1 = false ∧ b2 = false ∧ b3 = false ∧ b4 = true) := by
      have hor : b1 = true ∨ b2 = true ∨ b3 = true ∨ b4 = true := by
        rcases hbad with h | h | h | h
        · exact .inl (by rw [hb1]; exact prefix_head h)
        · exact .inr (.inl (by rw [hb2]; exact suffix_last h))
        · exact .inr (.inr (.inl (by rw [hb3]; exact contains_infix h)))
        · exact .inr (.inr (.inr (by rw [hb4]; exact found_bad (by rw [← hl]; exact h))))
      revert hor
      cases b1 <;> cases b2 <;> cases b3 <;> cases b4 <;> simp
    clear h0 h0f HW hl hll hsl hbad h120 HE hb1 hb2 hb3 hb4
    rcases hway with rfl | ⟨rfl, rfl⟩ | ⟨rfl, rfl, rfl⟩ | ⟨rfl, rfl, rfl, rfl⟩
    · skip
      go_enter Tryz.func5, Tryz.ntmps5
      go_wp2_with fail
      refine (HW0.out _ (Below.refl _ _)).mono ?_
      rintro e w1 ⟨rfl, hb1⟩
      have HB1 := hide hb1
      clear hb1 HW0
      go_wp2_with fail
      refine (HP.out _).mono ?_
      rintro e w2 ⟨rfl, rfl⟩
      go_wp2_with fail
      refine (HAW.out _ HB1.out).mono ?_
      rintro e w9 ⟨rfl, hb9⟩
      have HB9 := hide (HB1.out.trans (hb9.mono HB1.out.size))
      clear hb9
      go_wp2_with fail
      refine bodyPost_ret (results_tmp rfl _ _ _) rfl ?_
      exact ⟨rfl, HB9.out⟩
    · skip
      go_enter Tryz.func5, Tryz.ntmps5
      go_wp2_with fail
      refine (HW0.out _ (Below.refl _ _)).mono ?_
      rintro e w1 ⟨rfl, hb1⟩
      have HB1 := hide hb1
      clear hb1 HW0
      go_wp2_with fail
      refine (HP.out _).mono ?_
      rintro e w2 ⟨rfl, rfl⟩
      go_wp2_with fail
      refine (HX.out _).mono ?_
      rintro e w2 ⟨rfl, rfl⟩
      go_wp2_with fail
      refine (HAW.out _ HB1.out).mono ?_
      rintro e w9 ⟨rfl, hb9⟩
      have HB9 := hide (HB1.out.trans (hb9.mono HB1.out.size))
      clear hb9
      go_wp2_with fail
      refine bodyPost_ret (results_tmp rfl _ _ _) rfl ?_
      exact ⟨rfl, HB9.out⟩
    · skip
      go_enter Tryz.func5, Tryz.ntmps5
      go_wp2_with fail
      refine (HW0.out _ (Below.refl _ _)).mono ?_
      rintro e w1 ⟨rfl, hb1⟩
      have HB1 := hide hb1
      clear hb1 HW0
      go_wp2_with fail
      refine (HP.out _).mono ?_
      rintro e w2 ⟨rfl, rfl⟩
      go_wp2_with fail
      refine (HX.out _).mono ?_
      rintro e w2 ⟨rfl, rfl⟩
      go_wp2_with fail
      refine (HC.out _ HB1.out).mono ?_
      rintro e w2 ⟨rfl, rfl⟩
      go_wp2_with fail
      refine (HAW.out _ HB1.out).mono ?_
      rintro e w9 ⟨rfl, hb9⟩
      have HB9 := hide (HB1.out.trans (hb9.mono HB1.out.size))
      clear hb9
      go_wp2_with fail
      refine bodyPost_ret (results_tmp rfl _ _ _) rfl ?_
      exact ⟨rfl, HB9.out⟩
    · skip
      go_enter Tryz.func5, Tryz.ntmps5
      go_wp2_with fail
      refine (HW0.out _ (Below.refl _ _)).mono ?_
      rintro e w1 ⟨rfl, hb1⟩
      have HB1 := hide hb1
      clear hb1 HW0
      go_wp2_with fail
      refine (HP.out _).mono ?_
      rintro e w2 ⟨rfl, rfl⟩
      go_wp2_with fail
      refine (HX.out _).mono ?_
      rintro e w2 ⟨rfl, rfl⟩
      go_wp2_with fail
      refine (HC.out _ HB1.out).mono ?_
      rintro e w2 ⟨rfl, rfl⟩
      go_wp2_with fail
      refine (HF.out _).mono ?_
      rintro e w3 ⟨rfl, hb3⟩
      have HB3 := hide (HB1.out.trans (hb3.mono HB1.out.size))
      clear hb3
      go_wp2_with fail
      refine (HAW.out _ HB3.out).mono ?_
      rintro e w9 ⟨rfl, hb9⟩
      have HB9 := hide (HB3.out.trans (hb9.mono HB3.out.size))
      clear hb9
      go_wp2_with fail
      refine bodyPost_ret (results_tmp rfl _ _ _) rfl ?_
      exact ⟨rfl, HB9.out⟩
end Go.Proofs.YtfcjaljaomknjaaGreatDoor
