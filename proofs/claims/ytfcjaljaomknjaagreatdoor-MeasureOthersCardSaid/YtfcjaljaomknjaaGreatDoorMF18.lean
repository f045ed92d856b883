/-
  Texts laid together.
-/
import Derived.Test.YtfcjaljaomknjaaGreatDoorMF16
import Derived.Test.YtfcjaljaomknjaaGreatDoorMF17
import Derived.Test.YtfcjaljaomknjaaGreatDoorMF2
import Derived.Test.YtfcjaljaomknjaaGreatDoorMF5
import Derived.Test.YtfcjaljaomknjaaGreatDoorMF15
set_option maxRecDepth 100000
set_option maxHeartbeats 16000000
namespace Go.Proofs.YtfcjaljaomknjaaGreatDoor
open Go.RowKit Go.KP Go.KI Go.Shelf
attribute [local go_sem] Oper.semAt_some

def rfM (d : List UInt8) : Nat := dv (ledg d) * 144 + (12 * dv (ledg (pdg d).tail) + dv (ledg (pdg (pdg d).tail).tail))
instance (d : List UInt8) (neg : Bool) : Decidable (rfOK d neg) := inferInstanceAs (Decidable (_ ∧ _ ∧ _ ∧ _ ∧ _ ∧ _ ∧ _ ∧ ¬ _))
def FeetRes (d : List UInt8) (neg : Bool) (w : World) (e : Ending) (w' : World) : Prop := Ret w (pairV (if rfOK d neg then ratS (sgn neg (((rfM d : Nat) : Rat) * (127 / 60))) else []) (if rfOK d neg then 0 else 3)) e w'
theorem pf_err {d : List UInt8} {neg : Bool} (h : ¬ rfOK d neg) {w : World} {e : Ending} {w' : World} (hr : Ret w (.tuple #[.string ⟨#[]⟩, .int .i64 3]) e w') : FeetRes d neg w e w' := by
  unfold FeetRes
  rw [if_neg h, if_neg h, pairV_err]
  exact hr
theorem pf_ok {d : List UInt8} {neg : Bool} (h : rfOK d neg) {w : World} {e : Ending} {w' : World} (hr : Ret w (.tuple #[.string (T (sgn neg (((rfM d : Nat) : Rat) * (127 / 60)))), .int .i64 0]) e w') : FeetRes d neg w e w' := by
  unfold FeetRes
  rw [if_pos h, if_pos h]
  exact hr
theorem byte_at {l : List UInt8} {k : Nat} {c : UInt8} (h : l[k]? = some c) (hp : k < (strB l).size) : ((strB l)[k]'hp).toNat = c.toNat := by
  have h3 : (strB l).data.toList[k]? = some ((strB l)[k]'hp) := by
    have h1 : (strB l).data.toList[k]? = some (strB l).data[k] := by simp
    exact h1
  rw [strB_list, h] at h3
  rw [Option.some.inj h3]
theorem ext_from (l : List UInt8) (k n : Nat) (hn : n = (strB l).size) : (strB l).extract k n = strB (l.drop k) := by
  rw [hn, ext_drop, strB_list]
theorem pdg_at {d : List UInt8} (h : (ledg d).length < d.length) : ∃ m, d[(ledg d).length]? = some m ∧ pdg d = m :: d.drop ((ledg d).length + 1) := by
  refine ⟨d[(ledg d).length], by simp [h], ?_⟩
  rw [pdg_drop, List.drop_eq_getElem_cons h]
theorem pdg_nil {d : List UInt8} (h : (ledg d).length = d.length) : pdg d = [] := by
  rw [pdg_drop, h, List.drop_length]
theorem dv_iB {l : List UInt8} (h : numeral l) : strB l = iB ((dv l : Nat) : Int) := by
  apply bytes_eq
  rw [strB_list, iB_list, Lib.itoa_nonneg]
  exact numeral_dec h
theorem m7pfeet_p (s : ByteArray) (d : List UInt8) (hl : d.length ≤ 90) (hs : s = strB d) (hz : d = [] ∨ ∃ hp : 0 < s.size, (((((s[0]'hp).toNat : Nat) : Int)) == 45) = false) (B : Nat) (w : World) (hB : B ≤ w.heap.size) (hT : PE B w) :
    Calls Tryz.prog 18 #[.string s] w (FeetRes d false w) := by
  have HT := hide hT
  have HD := hide (fun w => m7digits_any (strB d) (by rw [strB_size]; omega) w)
  rw [strB_list, lead_ledg] at HD
  have hds : (strB d).size = d.length := strB_size _
  have hle : (ledg d).length ≤ d.length := lead_le d
  obtain ⟨n, hn⟩ : ∃ n, n = (ledg d).length := ⟨_, rfl⟩
  obtain ⟨SD, hSD⟩ : ∃ S, S = strB d := ⟨_, rfl⟩
  rw [← hn, ← hSD] at HD
  rw [← hSD] at hds
  have hnle : n ≤ SD.size := by omega
  have hsd90 : SD.size ≤ 90 := by omega
  have HN := hide hn
  have HSD := hide hSD
  have HSZ := hide hds
  have HDL := hide hl
  rw [← hSD] at hs
  subst hs
  have g90 : ((90 : Int) < (s.size : Int)) = False := eq_false (by omega)
  have hway0 : ((s.toList == []) = true ∧ (s.toList != []) = false ∧ s.toList.isEmpty = true ∧ s.size = 0) ∨ ((s.toList == []) = false ∧ (s.toList != []) = true ∧ s.toList.isEmpty = false ∧ ∃ hp : 0 < s.size, (((((s[0]'hp).toNat : Nat) : Int)) == 45) = false) := by
    by_cases h : d = []
    · have e : s.toList = [] := by rw [ByteArray.toList_eq, HSD.out, strB_list, h]
      refine .inl ⟨by rw [e]; rfl, by rw [e]; rfl, by rw [e]; rfl, by rw [hds, h]; rfl⟩
    · have e : s.toList = d := by rw [ByteArray.toList_eq, HSD.out, strB_list]
      have e1 : (s.toList == []) = false := by rw [e]; exact beq_false_of_ne h
      refine .inr ⟨e1, by simp only [bne, e1]; rfl, ?_, ?_⟩
      · rw [e]
        cases d with
        | nil => exact absurd rfl h
        | cons a b => rfl
      · rcases hz with hz | hz
        · exact absurd hz h
        · exact hz
  clear hn hSD hds hle hl hT hz
  refine (show Calls Tryz.prog 18 #[.string s] w (FeetRes d false w) from ?_)
  rcases hway0 with ⟨he, he2, he3, h00⟩ | ⟨he, he2, he3, hp, h45⟩
  · have hn0 : n = 0 := by omega
    have z0 : ((n : Int) == 0) = true := by rw [hn0]; rfl
    have HE := hide (show ¬ rfOK d false from fun h => h.1 (List.length_eq_zero_iff.1 (by rw [← HN.out]; exact hn0)))
    clear hn0 h00
    go_enter Tryz.func18, Tryz.ntmps18
    go_wp2_with fail
    refine (HD.out _).mono ?_
    rintro e w1 ⟨rfl, hb1⟩
    have HB1 := hide hb1
    clear hb1
    go_wp2_with fail
    refine bodyPost_ret (results_tmp2 rfl _ _ _) rfl ?_
    exact pf_err HE.out ⟨rfl, HB1.out⟩
  have hp1 : (0 : Int) < (s.size : Int) := by omega
  go_enter Tryz.func18, Tryz.ntmps18
  go_wp2_with fail
  refine (HD.out _).mono ?_
  rintro e w1 ⟨rfl, hb1⟩
  have HB1 := hide hb1
  clear hb1 hp1 h45 he he2 he3 g90
  clear HD
  by_cases c0 : n = 0
  · have z0 : ((n : Int) == 0) = true := by rw [c0]; rfl
    have HE := hide (show ¬ rfOK d false from fun h => h.1 (List.length_eq_zero_iff.1 (by rw [← HN.out]; exact c0)))
    clear c0
    go_wp2_with fail
    refine bodyPost_ret (results_tmp2 rfl _ _ _) rfl ?_
    exact pf_err HE.out ⟨rfl, HB1.out⟩
  have z0 : ((n : Int) == 0) = false := by simp only [beq_eq_false_iff_ne, ne_eq]; omega
  by_cases c1 : n = s.size
  · have z1 : ((n : Int) == (s.size : Int)) = true := by rw [c1]; exact beq_self_eq_true _
    have HE := hide (show ¬ rfOK d false from fun h => by
      have h3 := h.2.2.1
      rw [pdg_nil (by rw [← HN.out, c1, HSZ.out])] at h3
      cases h3)
    clear c0 c1
    go_wp2_with fail
    refine bodyPost_ret (results_tmp2 rfl _ _ _) rfl ?_
    exact pf_err HE.out ⟨rfl, HB1.out⟩
  have z1 : ((n : Int) == (s.size : Int)) = false := by simp only [beq_eq_false_iff_ne, ne_eq]; omega
  have hnl : n < s.size := by omega
  have hnd : (ledg d).length < d.length := by rw [← HN.out, ← HSZ.out]; exact hnl
  obtain ⟨m, hm, hpd⟩ := pdg_at hnd
  have HPD := hide hpd
  have n0 : (0 : Int) ≤ (n : Int) := by omega
  have n1 : (n : Int) < (s.size : Int) := by omega
  have hmv : (s[n]'hnl).toNat = m.toNat := by
    have h := byte_at (l := d) (k := n) (c := m) (by rw [HN.out]; exact hm) (by rw [← HSD.out]; exact hnl)
    rw [← h]
    congr 1
    simp only [HSD.out]
  obtain ⟨y, hy⟩ : ∃ y, y = m.toNat := ⟨_, rfl⟩
  rw [← hy] at hmv
  have HY := hide hy
  clear hm hpd hnd hy
  by_cases c2 : y = 39
  rotate_left
  · have z2 : ((y : Int) == 39) = false := by simp only [beq_eq_false_iff_ne, ne_eq]; omega
    have z3 : ((y : Int) != 39) = true := by simp only [bne, z2]; rfl
    have HE := hide (show ¬ rfOK d false from fun h => by
      have h3 := h.2.2.1
      rw [HPD.out] at h3
      injection h3 with h3
      exact c2 (by rw [HY.out, h3]; rfl))
    clear c0 c1 c2
    go_wp2_with fail
    refine bodyPost_ret (results_tmp2 rfl _ _ _) rfl ?_
    exact pf_err HE.out ⟨rfl, HB1.out⟩
  subst c2
  have HM := hide (show pdg d = 39 :: d.drop (n + 1) by
    rw [HPD.out, HN.out]
    congr 1
    exact UInt8.toNat_inj.1 HY.out.symm)
  have h0l : 0 < s.size := by omega
  obtain ⟨c, hc⟩ : ∃ c, d[0]? = some c := by
    have : 0 < d.length := by rw [← HSZ.out]; exact h0l
    exact ⟨d[0], by simp [this]⟩
  have hcv : (s[0]'h0l).toNat = c.toNat := by
    have h := byte_at hc (by rw [← HSD.out]; exact h0l)
    rw [← h]
    congr 1
    simp only [HSD.out]
  obtain ⟨u, hu⟩ : ∃ y, y = c.toNat := ⟨_, rfl⟩
  rw [← hu] at hcv
  have HHD := hide (show d.head? = some 48 ↔ u = 48 by
    rw [List.head?_eq_getElem?, hc, hu]
    constructor
    · intro h
      injection h with h
      rw [h]
      rfl
    · intro h
      congr 1
      exact UInt8.toNat_inj.1 h)
  clear hc hu
  by_cases c3 : 1 < n ∧ u = 48
  · have z4 : (1 : Int) < (n : Int) := by omega
    have z5 : ((u : Int) == 48) = true := by rw [c3.2]; rfl
    have HE := hide (show ¬ rfOK d false from fun h => h.2.1 ⟨by rw [← HN.out]; exact c3.1, HHD.out.2 c3.2⟩)
    clear c0 c1 c3
    go_wp2_with fail
    refine bodyPost_ret (results_tmp2 rfl _ _ _) rfl ?_
    exact pf_err HE.out ⟨rfl, HB1.out⟩
  have HNUM := hide (show numeral (ledg d) from numeral_ledg.2 ⟨fun e => c0 (by rw [HN.out, e]; rfl), fun h => c3 ⟨by rw [HN.out]; exact h.1, HHD.out.1 h.2⟩⟩)
  have HL0 := hide (show ledg d ≠ [] from fun e => c0 (by rw [HN.out, e]; rfl))
  have HL1 := hide (show ¬ (1 < (ledg d).length ∧ d.head? = some 48) from fun h => c3 ⟨by rw [HN.out]; exact h.1, HHD.out.1 h.2⟩)
  have hway : ((1 : Int) < (n : Int)) = False ∨ ((1 : Int) < (n : Int) ∧ ((u : Int) == 48) = false) := by
    by_cases h : 1 < n
    · exact .inr ⟨by omega, by simp only [beq_eq_false_iff_ne, ne_eq]; exact fun e => c3 ⟨h, by omega⟩⟩
    · exact .inl (eq_false (by omega))
  obtain ⟨R, hR⟩ : ∃ R, R = d.drop (n + 1) := ⟨_, rfl⟩
  have HR := hide (show R = (pdg d).tail by rw [HM.out, hR]; rfl)
  obtain ⟨FT, hFT⟩ : ∃ F, F = strB (ledg d) := ⟨_, rfl⟩
  obtain ⟨SR, hSR⟩ : ∃ F, F = strB R := ⟨_, rfl⟩
  have ex1 : s.extract 0 n = FT := by rw [HSD.out, HN.out, ext_take, ledg_take, hFT]
  have ex2 : s.extract (n + 1) s.size = SR := by rw [HSD.out, ext_from _ _ _ rfl, ← hR, hSR]
  have n2 : n ≤ s.size := by omega
  have n3 : n + 1 ≤ s.size := by omega
  have n4 : (n : Int) + 1 ≤ (s.size : Int) := by omega
  have n5 : (n : Int) ≤ (s.size : Int) := by omega
  have hRl : R.length ≤ 90 := by rw [hR, List.length_drop]; have := HDL.out; omega
  have HRL := hide hRl
  have HS1 := hide (fun w hB hT => m7short_any R (by omega) B w hB hT)
  rw [← hSR] at HS1
  have HFT := hide hFT
  have HSR := hide hSR
  have HSRS := hide (show SR.size = R.length by rw [hSR, strB_size])
  clear c0 c1 c3 hR hFT hSR hRl
  rcases hway with q0 | ⟨q0, q1⟩
  all_goals
    go_wp2_with fail
    go_quiet (fail)
    go_wp2_with fail
    have HBQ := hide (below_drewN HB1.out nq)
    clear HB1 ex1 ex2 n0 n1 n2 n3 n4 n5 z0 z1 hmv hcv HHD
    refine (HS1.out _ (Nat.le_trans hB HBQ.out.size) (HT.out.on HBQ.out hB)).mono ?_
    rintro e w2 ⟨rfl, hb2⟩
    have HB2 := hide (HBQ.out.trans (hb2.mono HBQ.out.size))
    clear hb2
    by_cases c4 : shortT R
    rotate_left
    · have HE := hide (show ¬ rfOK d false from fun h => c4 (by rw [HR.out]; exact h.2.2.2.1))
      unfold shortV
      rw [if_neg c4]
      clear c4
      go_wp2_with fail
      refine bodyPost_ret (results_tmp2 rfl _ _ _) rfl ?_
      exact pf_err HE.out ⟨rfl, HB2.out⟩
    obtain ⟨v, hv⟩ : ∃ v, v = dv (ledg R) := ⟨_, rfl⟩
    obtain ⟨p, hp⟩ : ∃ v, v = (ledg R).length := ⟨_, rfl⟩
    have hv11 : v ≤ 11 := by rw [hv]; exact c4.2.2
    have hp0 : 0 < p := by
      rw [hp]
      refine List.length_pos_iff.2 fun e => ?_
      have h2 := c4.2.1
      rw [e] at h2
      exact decDigits_ne _ h2
    have hple : p ≤ SR.size := by rw [hp, HSRS.out]; exact lead_le R
    unfold shortV
    rw [if_pos c4, ← hv, ← hp]
    have HC4 := hide (show shortT (pdg d).tail by rw [← HR.out]; exact c4)
    have HV := hide hv
    have HP := hide hp
    clear c4 hv hp
    have z0 : ((p : Int) == 0) = false := by simp only [beq_eq_false_iff_ne, ne_eq]; omega
    have n0 : (0 : Int) ≤ (p : Int) := by omega
    by_cases c5 : p = SR.size
    · have z1 : ((p : Int) == (SR.size : Int)) = true := by rw [c5]; exact beq_self_eq_true _
      have HE := hide (show ¬ rfOK d false from fun h => by
        have h3 := h.2.2.2.2.1
        rw [← HR.out, pdg_nil (by rw [← HP.out, c5, HSRS.out])] at h3
        cases h3)
      clear c5
      go_wp2_with fail
      refine bodyPost_ret (results_tmp2 rfl _ _ _) rfl ?_
      exact pf_err HE.out ⟨rfl, HB2.out⟩
    have z1 : ((p : Int) == (SR.size : Int)) = false := by simp only [beq_eq_false_iff_ne, ne_eq]; omega
    have hnl : p < SR.size := by omega
    have hnd : (ledg R).length < R.length := by rw [← HP.out, ← HSRS.out]; exact hnl
    obtain ⟨m2, hm, hpd⟩ := pdg_at hnd
    have HPD2 := hide hpd
    have n1 : (p : Int) < (SR.size : Int) := by omega
    have hmv : (SR[p]'hnl).toNat = m2.toNat := by
      have h := byte_at (l := R) (k := p) (c := m2) (by rw [HP.out]; exact hm) (by rw [← HSR.out]; exact hnl)
      rw [← h]
      congr 1
      simp only [HSR.out]
    obtain ⟨y2, hy⟩ : ∃ y, y = m2.toNat := ⟨_, rfl⟩
    rw [← hy] at hmv
    have HY2 := hide hy
    clear hm hpd hnd hy
    by_cases c6 : y2 = 34
    rotate_left
    · have z2 : ((y2 : Int) == 34) = false := by simp only [beq_eq_false_iff_ne, ne_eq]; omega
      have z3 : ((y2 : Int) != 34) = true := by simp only [bne, z2]; rfl
      have HE := hide (show ¬ rfOK d false from fun h => by
        have h3 := h.2.2.2.2.1
        rw [← HR.out, HPD2.out] at h3
        injection h3 with h3
        exact c6 (by rw [HY2.out, h3]; rfl))
      clear c5 c6
      go_wp2_with fail
      refine bodyPost_ret (results_tmp2 rfl _ _ _) rfl ?_
      exact pf_err HE.out ⟨rfl, HB2.out⟩
    subst c6
    have HM2 := hide (show pdg R = 34 :: R.drop (p + 1) by
      rw [HPD2.out, HP.out]
      congr 1
      exact UInt8.toNat_inj.1 HY2.out.symm)
    obtain ⟨Q, hQ⟩ : ∃ R2, R2 = R.drop (p + 1) := ⟨_, rfl⟩
    have HQ := hide (show Q = (pdg (pdg d).tail).tail by rw [← HR.out, HM2.out, hQ]; rfl)
    have HQ34 := hide (show (pdg (pdg d).tail).head? = some 34 by rw [← HR.out, HM2.out]; rfl)
    obtain ⟨SQ, hSQ⟩ : ∃ F, F = strB Q := ⟨_, rfl⟩
    have ex2 : SR.extract (p + 1) SR.size = SQ := by rw [HSR.out, ext_from _ _ _ rfl, ← hQ, hSQ]
    have n2 : p ≤ SR.size := by omega
    have n3 : p + 1 ≤ SR.size := by omega
    have n4 : (p : Int) + 1 ≤ (SR.size : Int) := by omega
    have n5 : (p : Int) ≤ (SR.size : Int) := by omega
    have n6 : SR.size ≤ 90 := by have := HRL.out; have := HSRS.out; omega
    have hQl : Q.length ≤ 90 := by rw [hQ, List.length_drop]; have := HRL.out; omega
    have HQL := hide hQl
    have HS2 := hide (fun w hB hT => m7short_any Q (by omega) B w hB hT)
    rw [← hSQ] at HS2
    have HSQ := hide hSQ
    have HSQS := hide (show SQ.size = Q.length by rw [hSQ, strB_size])
    clear c5 hQ hSQ hQl
    go_wp2_with fail
    clear ex2 n0 n1 n2 n3 n4 n5 n6 z0 z1 hmv hple
    refine (HS2.out _ (Nat.le_trans hB HB2.out.size) (HT.out.on HB2.out hB)).mono ?_
    rintro e w3 ⟨rfl, hb3⟩
    have HB3 := hide (HB2.out.trans (hb3.mono HB2.out.size))
    clear hb3
    by_cases c7 : shortT Q
    rotate_left
    · have HE := hide (show ¬ rfOK d false from fun h => c7 (by rw [HQ.out]; exact h.2.2.2.2.2.1))
      unfold shortV
      rw [if_neg c7]
      clear c7
      go_wp2_with fail
      refine bodyPost_ret (results_tmp2 rfl _ _ _) rfl ?_
      exact pf_err HE.out ⟨rfl, HB3.out⟩
    obtain ⟨t, ht⟩ : ∃ v, v = dv (ledg Q) := ⟨_, rfl⟩
    obtain ⟨r, hr⟩ : ∃ v, v = (ledg Q).length := ⟨_, rfl⟩
    have ht11 : t ≤ 11 := by rw [ht]; exact c7.2.2
    have hr0 : 0 < r := by
      rw [hr]
      refine List.length_pos_iff.2 fun e => ?_
      have h2 := c7.2.1
      rw [e] at h2
      exact decDigits_ne _ h2
    have hrle : r ≤ SQ.size := by rw [hr, HSQS.out]; exact lead_le Q
    unfold shortV
    rw [if_pos c7, ← ht, ← hr]
    have HC7 := hide (show shortT (pdg (pdg d).tail).tail by rw [← HQ.out]; exact c7)
    have HT9 := hide ht
    have HRR := hide hr
    clear c7 ht hr
    have z0 : ((r : Int) == 0) = false := by simp only [beq_eq_false_iff_ne, ne_eq]; omega
    by_cases c8 : r < SQ.size
    · have z1 : (r : Int) < (SQ.size : Int) := by omega
      have HE := hide (show ¬ rfOK d false from fun h => by
        have h3 := congrArg List.length h.2.2.2.2.2.2.1
        rw [← HQ.out, pdg_drop, List.length_drop, ← HRR.out] at h3
        have := HSQS.out
        simp only [List.length_nil] at h3
        omega)
      clear c8
      go_wp2_with fail
      refine bodyPost_ret (results_tmp2 rfl _ _ _) rfl ?_
      exact pf_err HE.out ⟨rfl, HB3.out⟩
    have z1 : ((r : Int) < (SQ.size : Int)) = False := eq_false (by omega)
    have HQN := hide (show pdg (pdg (pdg d).tail).tail = [] by
      rw [← HQ.out]
      exact pdg_nil (by have := HSQS.out; have := HRR.out; omega))
    have hfl : dv (ledg d) < 10 ^ 90 := by
      refine Nat.lt_of_lt_of_le (dv_lt (ledg d) (ledg_dg d)) (Nat.pow_le_pow_right (by omega) ?_)
      have := lead_le d
      have := HDL.out
      show (lead d).length ≤ 90
      omega
    have eFT : FT = T (((dv (ledg d) : Nat) : Int) : Rat) := by rw [HFT.out, dv_iB HNUM.out, iB_T]
    obtain ⟨f, hf⟩ : ∃ f, f = dv (ledg d) := ⟨_, rfl⟩
    rw [← hf] at eFT hfl
    have sf : sz 90 (((f : Nat) : Int) : Rat) := sz_int (by rw [Int.natAbs_natCast]; exact hfl) (by omega)
    have HP1 := hide (fun w hB hT => m7product_T (sz_fits sf (by rw [most_eq]; omega)) (sz_fits sz_144 (by rw [most_eq]; omega)) (mulC_of sf sz_144 (by rw [most_eq]; omega)) B w hB hT)
    rw [← eFT, t144] at HP1
    obtain ⟨k, hk⟩ : ∃ k, k = 12 * v + t := ⟨_, rfl⟩
    have hk9 : k < 1000 := by omega
    have dk : 12 * (v : Int) + (t : Int) = (k : Int) := by omega
    have HI := hide (fun w (hB : B ≤ w.heap.size) hT => itoa_any (k : Int) (by omega) (by omega) B w hT)
    rw [show strB (Lib.itoa (k : Int)) = T ((k : Int) : Rat) from iB_T (k : Int)] at HI
    have sk : sz 3 ((k : Int) : Rat) := sz_int (by rw [Int.natAbs_natCast]; omega) (by omega)
    have HA := hide (fun w hB hT => r2Add_T (sz_fits (sz_mul sf sz_144) (by rw [most_eq]; omega)) (sz_fits sk (by rw [most_eq]; omega)) B w hB hT)
    have hsum : (((f : Nat) : Int) : Rat) * 144 + ((k : Int) : Rat) = ((rfM d : Nat) : Rat) := by
      have hM : rfM d = f * 144 + k := by
        unfold rfM
        rw [hk, hf, HV.out, HT9.out, HR.out, HQ.out]
      rw [hM, show ((((f * 144 + k : Nat) : Nat) : Rat)) = (((f : Int) * 144 + (k : Int) : Int) : Rat) by rw [← Rat.intCast_natCast]; congr 1, Rat.intCast_add, Rat.intCast_mul]
      rfl
    rw [show addO ((((f : Nat) : Int) : Rat) * 144) ((k : Int) : Rat) = some ((rfM d : Nat) : Rat) by rw [← hsum]; exact if_pos (addC_of (sz_mul sf sz_144) sk (by rw [most_eq]; omega))] at HA
    unfold opV at HA
    dsimp only at HA
    have sM : sz 97 ((rfM d : Nat) : Rat) := by rw [← hsum]; exact sz_mono (sz_add (sz_mul sf sz_144) sk) (by omega)
    have hMz : ((T ((rfM d : Nat) : Rat)).toList == [48]) = decide (rfM d = 0) := by
      rw [T_zero0]
      exact decide_eq_decide.2 Rat.natCast_eq_zero_iff
    have HP2 := hide (fun w hB hT => m7product_T (sz_fits (sz_sgn1 false) (by rw [most_eq]; omega)) (sz_fits sM (by rw [most_eq]; omega)) (mulC_of (sz_sgn1 false) sM (by rw [most_eq]; omega)) B w hB hT)
    rw [sgn_mul, sgn1_lit.2] at HP2
    have sS : sz 98 (sgn false ((rfM d : Nat) : Rat)) := by rw [← sgn_mul]; exact sz_mono (sz_mul (sz_sgn1 false) sM) (by omega)
    have HP3 := hide (fun w hB hT => m7product_T (sz_fits sS (by rw [most_eq]; omega)) (sz_fits sz_tw (by rw [most_eq]; omega)) (mulC_of sS sz_tw (by rw [most_eq]; omega)) B w hB hT)
    rw [tw_lit, show sgn false ((rfM d : Nat) : Rat) * (127 / 60) = sgn false (((rfM d : Nat) : Rat) * (127 / 60)) by rw [← sgn_mul, ← sgn_mul, Rat.mul_assoc]] at HP3
    have HM0 := hide (show rfM d = 0 ↔ dv (ledg d) = 0 ∧ dv (ledg (pdg d).tail) = 0 ∧ dv (ledg (pdg (pdg d).tail).tail) = 0 by
      unfold rfM
      omega)
    obtain ⟨OUT, hOUT⟩ : ∃ X, X = T (sgn false (((rfM d : Nat) : Rat) * (127 / 60))) := ⟨_, rfl⟩
    rw [← hOUT] at HP3
    have HOUT := hide hOUT
    generalize T (sgn false ((rfM d : Nat) : Rat)) = TS at *
    generalize T ((k : Int) : Rat) = TK at *
    generalize T ((((f : Nat) : Int) : Rat) * 144) = TF at *
    obtain ⟨TM, hTM⟩ : ∃ X, X = T ((rfM d : Nat) : Rat) := ⟨_, rfl⟩
    rw [← hTM] at HA HP2 hMz
    obtain ⟨M, hM⟩ : ∃ M, M = rfM d := ⟨_, rfl⟩
    have HMM := hide hM
    rw [← hM] at hMz
    clear hTM hOUT hsum sM sS sf sk hfl eFT hf hk hM c8 hrle hr0 hp0
    go_wp2_with fail
    refine (HP1.out _ (Nat.le_trans hB HB3.out.size) (HT.out.on HB3.out hB).pq).mono ?_
    rintro e w4 ⟨rfl, hb4⟩
    have HB4 := hide (HB3.out.trans (hb4.mono HB3.out.size))
    clear hb4
    go_wp2_with fail
    refine (HI.out _ (Nat.le_trans hB HB4.out.size) (HT.out.on HB4.out hB).pq.p10).mono ?_
    rintro e w5 ⟨rfl, hb5⟩
    have HB5 := hide (HB4.out.trans (hb5.mono HB4.out.size))
    clear hb5
    go_wp2_with fail
    refine (HA.out _ (Nat.le_trans hB HB5.out.size) (HT.out.on HB5.out hB).pq).mono ?_
    rintro e w6 ⟨rfl, hb6⟩
    have HB6 := hide (HB5.out.trans (hb6.mono HB5.out.size))
    clear hb6 z0 z1 dk
    by_cases c9 : M = 0
    · have q9 : (TM.toList == [48]) = true := by rw [hMz, decide_eq_true c9]
      have HOK := hide (show rfOK d false from ⟨HL0.out, HL1.out, by rw [HM.out]; rfl, HC4.out, HQ34.out, HC7.out, HQN.out, fun h => by cases h.2.2.2⟩)
      clear c9 hMz
      go_wp2_with fail
      refine (HP2.out _ (Nat.le_trans hB HB6.out.size) (HT.out.on HB6.out hB).pq).mono ?_
      rintro e w7 ⟨rfl, hb7⟩
      have HB7 := hide (HB6.out.trans (hb7.mono HB6.out.size))
      clear hb7
      go_wp2_with fail
      refine (HP3.out _ (Nat.le_trans hB HB7.out.size) (HT.out.on HB7.out hB).pq).mono ?_
      rintro e w8 ⟨rfl, hb8⟩
      have HB8 := hide (HB7.out.trans (hb8.mono HB7.out.size))
      clear hb8
      go_wp2_with fail
      refine bodyPost_ret (results_tmp2 rfl _ _ _) rfl ?_
      rw [HOUT.out]
      exact pf_ok HOK.out ⟨rfl, HB8.out⟩
    · have q9 : (TM.toList == [48]) = false := by rw [hMz, decide_eq_false c9]
      have HOK := hide (show rfOK d false from ⟨HL0.out, HL1.out, by rw [HM.out]; rfl, HC4.out, HQ34.out, HC7.out, HQN.out, fun h => c9 (by rw [HMM.out]; exact HM0.out.2 ⟨h.1, h.2.1, h.2.2.1⟩)⟩)
      clear c9 hMz
      go_wp2_with fail
      refine (HP2.out _ (Nat.le_trans hB HB6.out.size) (HT.out.on HB6.out hB).pq).mono ?_
      rintro e w7 ⟨rfl, hb7⟩
      have HB7 := hide (HB6.out.trans (hb7.mono HB6.out.size))
      clear hb7
      go_wp2_with fail
      refine (HP3.out _ (Nat.le_trans hB HB7.out.size) (HT.out.on HB7.out hB).pq).mono ?_
      rintro e w8 ⟨rfl, hb8⟩
      have HB8 := hide (HB7.out.trans (hb8.mono HB7.out.size))
      clear hb8
      go_wp2_with fail
      refine bodyPost_ret (results_tmp2 rfl _ _ _) rfl ?_
      rw [HOUT.out]
      exact pf_ok HOK.out ⟨rfl, HB8.out⟩
theorem m7pfeet_n (s : ByteArray) (d : List UInt8) (hl : d.length ≤ 90) (hp : 0 < s.size) (h45 : (((((s[0]'hp).toNat : Nat) : Int)) == 45) = true) (hx0 : s.extract 1 s.size = strB d) (hls : s.size ≤ 90) (B : Nat) (w : World) (hB : B ≤ w.heap.size) (hT : PE B w) :
    Calls Tryz.prog 18 #[.string s] w (FeetRes d true w) := by
  have HT := hide hT
  have HD := hide (fun w => m7digits_any (strB d) (by rw [strB_size]; omega) w)
  rw [strB_list, lead_ledg] at HD
  have hds : (strB d).size = d.length := strB_size _
  have hle : (ledg d).length ≤ d.length := lead_le d
  obtain ⟨n, hn⟩ : ∃ n, n = (ledg d).length := ⟨_, rfl⟩
  obtain ⟨SD, hSD⟩ : ∃ S, S = strB d := ⟨_, rfl⟩
  rw [← hn, ← hSD] at HD
  rw [← hSD] at hds
  have hnle : n ≤ SD.size := by omega
  have hsd90 : SD.size ≤ 90 := by omega
  have HN := hide hn
  have HSD := hide hSD
  have HSZ := hide hds
  have HDL := hide hl
  rw [← hSD] at hx0
  have he : (s.toList == []) = false := by
    rw [ByteArray.toList_eq]
    exact beq_false_of_ne fun e => by
      have : s.data.toList.length = 0 := by rw [e]; rfl
      rw [bytes_len] at this
      omega
  have he2 : (s.toList != []) = true := by simp only [bne, he]; rfl
  have he3 : s.toList.isEmpty = false := by
    cases h : s.toList with
    | nil => rw [h] at he; cases he
    | cons a b => rfl
  have g90 : ((90 : Int) < (s.size : Int)) = False := eq_false (by omega)
  have hp1 : (0 : Int) < (s.size : Int) := by omega
  have hp2 : (1 : Int) ≤ (s.size : Int) := by omega
  have hp3 : 1 ≤ s.size := by omega
  clear hn hSD hds hle hl hT
  go_enter Tryz.func18, Tryz.ntmps18
  go_wp2_with fail
  go_quiet (fail)
  go_wp2_with fail
  refine (HD.out _).mono ?_
  rintro e w1 ⟨rfl, hb1⟩
  have HB1 := hide ((below_drewN (Below.refl w.heap.size w) _).trans (hb1.mono (Nat.le_refl _)))
  clear hb1 hp1 hp2 hp3 h45 he he2 he3 hx0 g90
  clear HD
  by_cases c0 : n = 0
  · have z0 : ((n : Int) == 0) = true := by rw [c0]; rfl
    have HE := hide (show ¬ rfOK d true from fun h => h.1 (List.length_eq_zero_iff.1 (by rw [← HN.out]; exact c0)))
    clear c0
    go_wp2_with fail
    refine bodyPost_ret (results_tmp2 rfl _ _ _) rfl ?_
    exact pf_err HE.out ⟨rfl, HB1.out⟩
  have z0 : ((n : Int) == 0) = false := by simp only [beq_eq_false_iff_ne, ne_eq]; omega
  by_cases c1 : n = SD.size
  · have z1 : ((n : Int) == (SD.size : Int)) = true := by rw [c1]; exact beq_self_eq_true _
    have HE := hide (show ¬ rfOK d true from fun h => by
      have h3 := h.2.2.1
      rw [pdg_nil (by rw [← HN.out, c1, HSZ.out])] at h3
      cases h3)
    clear c0 c1
    go_wp2_with fail
    refine bodyPost_ret (results_tmp2 rfl _ _ _) rfl ?_
    exact pf_err HE.out ⟨rfl, HB1.out⟩
  have z1 : ((n : Int) == (SD.size : Int)) = false := by simp only [beq_eq_false_iff_ne, ne_eq]; omega
  have hnl : n < SD.size := by omega
  have hnd : (ledg d).length < d.length := by rw [← HN.out, ← HSZ.out]; exact hnl
  obtain ⟨m, hm, hpd⟩ := pdg_at hnd
  have HPD := hide hpd
  have n0 : (0 : Int) ≤ (n : Int) := by omega
  have n1 : (n : Int) < (SD.size : Int) := by omega
  have hmv : (SD[n]'hnl).toNat = m.toNat := by
    have h := byte_at (l := d) (k := n) (c := m) (by rw [HN.out]; exact hm) (by rw [← HSD.out]; exact hnl)
    rw [← h]
    congr 1
    simp only [HSD.out]
  obtain ⟨y, hy⟩ : ∃ y, y = m.toNat := ⟨_, rfl⟩
  rw [← hy] at hmv
  have HY := hide hy
  clear hm hpd hnd hy
  by_cases c2 : y = 39
  rotate_left
  · have z2 : ((y : Int) == 39) = false := by simp only [beq_eq_false_iff_ne, ne_eq]; omega
    have z3 : ((y : Int) != 39) = true := by simp only [bne, z2]; rfl
    have HE := hide (show ¬ rfOK d true from fun h => by
      have h3 := h.2.2.1
      rw [HPD.out] at h3
      injection h3 with h3
      exact c2 (by rw [HY.out, h3]; rfl))
    clear c0 c1 c2
    go_wp2_with fail
    refine bodyPost_ret (results_tmp2 rfl _ _ _) rfl ?_
    exact pf_err HE.out ⟨rfl, HB1.out⟩
  subst c2
  have HM := hide (show pdg d = 39 :: d.drop (n + 1) by
    rw [HPD.out, HN.out]
    congr 1
    exact UInt8.toNat_inj.1 HY.out.symm)
  have h0l : 0 < SD.size := by omega
  obtain ⟨c, hc⟩ : ∃ c, d[0]? = some c := by
    have : 0 < d.length := by rw [← HSZ.out]; exact h0l
    exact ⟨d[0], by simp [this]⟩
  have hcv : (SD[0]'h0l).toNat = c.toNat := by
    have h := byte_at hc (by rw [← HSD.out]; exact h0l)
    rw [← h]
    congr 1
    simp only [HSD.out]
  obtain ⟨u, hu⟩ : ∃ y, y = c.toNat := ⟨_, rfl⟩
  rw [← hu] at hcv
  have HHD := hide (show d.head? = some 48 ↔ u = 48 by
    rw [List.head?_eq_getElem?, hc, hu]
    constructor
    · intro h
      injection h with h
      rw [h]
      rfl
    · intro h
      congr 1
      exact UInt8.toNat_inj.1 h)
  clear hc hu
  by_cases c3 : 1 < n ∧ u = 48
  · have z4 : (1 : Int) < (n : Int) := by omega
    have z5 : ((u : Int) == 48) = true := by rw [c3.2]; rfl
    have HE := hide (show ¬ rfOK d true from fun h => h.2.1 ⟨by rw [← HN.out]; exact c3.1, HHD.out.2 c3.2⟩)
    clear c0 c1 c3
    go_wp2_with fail
    refine bodyPost_ret (results_tmp2 rfl _ _ _) rfl ?_
    exact pf_err HE.out ⟨rfl, HB1.out⟩
  have HNUM := hide (show numeral (ledg d) from numeral_ledg.2 ⟨fun e => c0 (by rw [HN.out, e]; rfl), fun h => c3 ⟨by rw [HN.out]; exact h.1, HHD.out.1 h.2⟩⟩)
  have HL0 := hide (show ledg d ≠ [] from fun e => c0 (by rw [HN.out, e]; rfl))
  have HL1 := hide (show ¬ (1 < (ledg d).length ∧ d.head? = some 48) from fun h => c3 ⟨by rw [HN.out]; exact h.1, HHD.out.1 h.2⟩)
  have hway : ((1 : Int) < (n : Int)) = False ∨ ((1 : Int) < (n : Int) ∧ ((u : Int) == 48) = false) := by
    by_cases h : 1 < n
    · exact .inr ⟨by omega, by simp only [beq_eq_false_iff_ne, ne_eq]; exact fun e => c3 ⟨h, by omega⟩⟩
    · exact .inl (eq_false (by omega))
  obtain ⟨R, hR⟩ : ∃ R, R = d.drop (n + 1) := ⟨_, rfl⟩
  have HR := hide (show R = (pdg d).tail by rw [HM.out, hR]; rfl)
  obtain ⟨FT, hFT⟩ : ∃ F, F = strB (ledg d) := ⟨_, rfl⟩
  obtain ⟨SR, hSR⟩ : ∃ F, F = strB R := ⟨_, rfl⟩
  have ex1 : SD.extract 0 n = FT := by rw [HSD.out, HN.out, ext_take, ledg_take, hFT]
  have ex2 : SD.extract (n + 1) SD.size = SR := by rw [HSD.out, ext_from _ _ _ rfl, ← hR, hSR]
  have n2 : n ≤ SD.size := by omega
  have n3 : n + 1 ≤ SD.size := by omega
  have n4 : (n : Int) + 1 ≤ (SD.size : Int) := by omega
  have n5 : (n : Int) ≤ (SD.size : Int) := by omega
  have hRl : R.length ≤ 90 := by rw [hR, List.length_drop]; have := HDL.out; omega
  have HRL := hide hRl
  have HS1 := hide (fun w hB hT => m7short_any R (by omega) B w hB hT)
  rw [← hSR] at HS1
  have HFT := hide hFT
  have HSR := hide hSR
  have HSRS := hide (show SR.size = R.length by rw [hSR, strB_size])
  clear c0 c1 c3 hR hFT hSR hRl
  rcases hway with q0 | ⟨q0, q1⟩
  all_goals
    go_wp2_with fail
    go_quiet (fail)
    go_wp2_with fail
    have HBQ := hide (below_drewN HB1.out nq)
    clear HB1 ex1 ex2 n0 n1 n2 n3 n4 n5 z0 z1 hmv hcv HHD
    refine (HS1.out _ (Nat.le_trans hB HBQ.out.size) (HT.out.on HBQ.out hB)).mono ?_
    rintro e w2 ⟨rfl, hb2⟩
    have HB2 := hide (HBQ.out.trans (hb2.mono HBQ.out.size))
    clear hb2
    by_cases c4 : shortT R
    rotate_left
    · have HE := hide (show ¬ rfOK d true from fun h => c4 (by rw [HR.out]; exact h.2.2.2.1))
      unfold shortV
      rw [if_neg c4]
      clear c4
      go_wp2_with fail
      refine bodyPost_ret (results_tmp2 rfl _ _ _) rfl ?_
      exact pf_err HE.out ⟨rfl, HB2.out⟩
    obtain ⟨v, hv⟩ : ∃ v, v = dv (ledg R) := ⟨_, rfl⟩
    obtain ⟨p, hp⟩ : ∃ v, v = (ledg R).length := ⟨_, rfl⟩
    have hv11 : v ≤ 11 := by rw [hv]; exact c4.2.2
    have hp0 : 0 < p := by
      rw [hp]
      refine List.length_pos_iff.2 fun e => ?_
      have h2 := c4.2.1
      rw [e] at h2
      exact decDigits_ne _ h2
    have hple : p ≤ SR.size := by rw [hp, HSRS.out]; exact lead_le R
    unfold shortV
    rw [if_pos c4, ← hv, ← hp]
    have HC4 := hide (show shortT (pdg d).tail by rw [← HR.out]; exact c4)
    have HV := hide hv
    have HP := hide hp
    clear c4 hv hp
    have z0 : ((p : Int) == 0) = false := by simp only [beq_eq_false_iff_ne, ne_eq]; omega
    have n0 : (0 : Int) ≤ (p : Int) := by omega
    by_cases c5 : p = SR.size
    · have z1 : ((p : Int) == (SR.size : Int)) = true := by rw [c5]; exact beq_self_eq_true _
      have HE := hide (show ¬ rfOK d true from fun h => by
        have h3 := h.2.2.2.2.1
        rw [← HR.out, pdg_nil (by rw [← HP.out, c5, HSRS.out])] at h3
        cases h3)
      clear c5
      go_wp2_with fail
      refine bodyPost_ret (results_tmp2 rfl _ _ _) rfl ?_
      exact pf_err HE.out ⟨rfl, HB2.out⟩
    have z1 : ((p : Int) == (SR.size : Int)) = false := by simp only [beq_eq_false_iff_ne, ne_eq]; omega
    have hnl : p < SR.size := by omega
    have hnd : (ledg R).length < R.length := by rw [← HP.out, ← HSRS.out]; exact hnl
    obtain ⟨m2, hm, hpd⟩ := pdg_at hnd
    have HPD2 := hide hpd
    have n1 : (p : Int) < (SR.size : Int) := by omega
    have hmv : (SR[p]'hnl).toNat = m2.toNat := by
      have h := byte_at (l := R) (k := p) (c := m2) (by rw [HP.out]; exact hm) (by rw [← HSR.out]; exact hnl)
      rw [← h]
      congr 1
      simp only [HSR.out]
    obtain ⟨y2, hy⟩ : ∃ y, y = m2.toNat := ⟨_, rfl⟩
    rw [← hy] at hmv
    have HY2 := hide hy
    clear hm hpd hnd hy
    by_cases c6 : y2 = 34
    rotate_left
    · have z2 : ((y2 : Int) == 34) = false := by simp only [beq_eq_false_iff_ne, ne_eq]; omega
      have z3 : ((y2 : Int) != 34) = true := by simp only [bne, z2]; rfl
      have HE := hide (show ¬ rfOK d true from fun h => by
        have h3 := h.2.2.2.2.1
        rw [← HR.out, HPD2.out] at h3
        injection h3 with h3
        exact c6 (by rw [HY2.out, h3]; rfl))
      clear c5 c6
      go_wp2_with fail
      refine bodyPost_ret (results_tmp2 rfl _ _ _) rfl ?_
      exact pf_err HE.out ⟨rfl, HB2.out⟩
    subst c6
    have HM2 := hide (show pdg R = 34 :: R.drop (p + 1) by
      rw [HPD2.out, HP.out]
      congr 1
      exact UInt8.toNat_inj.1 HY2.out.symm)
    obtain ⟨Q, hQ⟩ : ∃ R2, R2 = R.drop (p + 1) := ⟨_, rfl⟩
    have HQ := hide (show Q = (pdg (pdg d).tail).tail by rw [← HR.out, HM2.out, hQ]; rfl)
    have HQ34 := hide (show (pdg (pdg d).tail).head? = some 34 by rw [← HR.out, HM2.out]; rfl)
    obtain ⟨SQ, hSQ⟩ : ∃ F, F = strB Q := ⟨_, rfl⟩
    have ex2 : SR.extract (p + 1) SR.size = SQ := by rw [HSR.out, ext_from _ _ _ rfl, ← hQ, hSQ]
    have n2 : p ≤ SR.size := by omega
    have n3 : p + 1 ≤ SR.size := by omega
    have n4 : (p : Int) + 1 ≤ (SR.size : Int) := by omega
    have n5 : (p : Int) ≤ (SR.size : Int) := by omega
    have n6 : SR.size ≤ 90 := by have := HRL.out; have := HSRS.out; omega
    have hQl : Q.length ≤ 90 := by rw [hQ, List.length_drop]; have := HRL.out; omega
    have HQL := hide hQl
    have HS2 := hide (fun w hB hT => m7short_any Q (by omega) B w hB hT)
    rw [← hSQ] at HS2
    have HSQ := hide hSQ
    have HSQS := hide (show SQ.size = Q.length by rw [hSQ, strB_size])
    clear c5 hQ hSQ hQl
    go_wp2_with fail
    clear ex2 n0 n1 n2 n3 n4 n5 n6 z0 z1 hmv hple
    refine (HS2.out _ (Nat.le_trans hB HB2.out.size) (HT.out.on HB2.out hB)).mono ?_
    rintro e w3 ⟨rfl, hb3⟩
    have HB3 := hide (HB2.out.trans (hb3.mono HB2.out.size))
    clear hb3
    by_cases c7 : shortT Q
    rotate_left
    · have HE := hide (show ¬ rfOK d true from fun h => c7 (by rw [HQ.out]; exact h.2.2.2.2.2.1))
      unfold shortV
      rw [if_neg c7]
      clear c7
      go_wp2_with fail
      refine bodyPost_ret (results_tmp2 rfl _ _ _) rfl ?_
      exact pf_err HE.out ⟨rfl, HB3.out⟩
    obtain ⟨t, ht⟩ : ∃ v, v = dv (ledg Q) := ⟨_, rfl⟩
    obtain ⟨r, hr⟩ : ∃ v, v = (ledg Q).length := ⟨_, rfl⟩
    have ht11 : t ≤ 11 := by rw [ht]; exact c7.2.2
    have hr0 : 0 < r := by
      rw [hr]
      refine List.length_pos_iff.2 fun e => ?_
      have h2 := c7.2.1
      rw [e] at h2
      exact decDigits_ne _ h2
    have hrle : r ≤ SQ.size := by rw [hr, HSQS.out]; exact lead_le Q
    unfold shortV
    rw [if_pos c7, ← ht, ← hr]
    have HC7 := hide (show shortT (pdg (pdg d).tail).tail by rw [← HQ.out]; exact c7)
    have HT9 := hide ht
    have HRR := hide hr
    clear c7 ht hr
    have z0 : ((r : Int) == 0) = false := by simp only [beq_eq_false_iff_ne, ne_eq]; omega
    by_cases c8 : r < SQ.size
    · have z1 : (r : Int) < (SQ.size : Int) := by omega
      have HE := hide (show ¬ rfOK d true from fun h => by
        have h3 := congrArg List.length h.2.2.2.2.2.2.1
        rw [← HQ.out, pdg_drop, List.length_drop, ← HRR.out] at h3
        have := HSQS.out
        simp only [List.length_nil] at h3
        omega)
      clear c8
      go_wp2_with fail
      refine bodyPost_ret (results_tmp2 rfl _ _ _) rfl ?_
      exact pf_err HE.out ⟨rfl, HB3.out⟩
    have z1 : ((r : Int) < (SQ.size : Int)) = False := eq_false (by omega)
    have HQN := hide (show pdg (pdg (pdg d).tail).tail = [] by
      rw [← HQ.out]
      exact pdg_nil (by have := HSQS.out; have := HRR.out; omega))
    have hfl : dv (ledg d) < 10 ^ 90 := by
      refine Nat.lt_of_lt_of_le (dv_lt (ledg d) (ledg_dg d)) (Nat.pow_le_pow_right (by omega) ?_)
      have := lead_le d
      have := HDL.out
      show (lead d).length ≤ 90
      omega
    have eFT : FT = T (((dv (ledg d) : Nat) : Int) : Rat) := by rw [HFT.out, dv_iB HNUM.out, iB_T]
    obtain ⟨f, hf⟩ : ∃ f, f = dv (ledg d) := ⟨_, rfl⟩
    rw [← hf] at eFT hfl
    have sf : sz 90 (((f : Nat) : Int) : Rat) := sz_int (by rw [Int.natAbs_natCast]; exact hfl) (by omega)
    have HP1 := hide (fun w hB hT => m7product_T (sz_fits sf (by rw [most_eq]; omega)) (sz_fits sz_144 (by rw [most_eq]; omega)) (mulC_of sf sz_144 (by rw [most_eq]; omega)) B w hB hT)
    rw [← eFT, t144] at HP1
    obtain ⟨k, hk⟩ : ∃ k, k = 12 * v + t := ⟨_, rfl⟩
    have hk9 : k < 1000 := by omega
    have dk : 12 * (v : Int) + (t : Int) = (k : Int) := by omega
    have HI := hide (fun w (hB : B ≤ w.heap.size) hT => itoa_any (k : Int) (by omega) (by omega) B w hT)
    rw [show strB (Lib.itoa (k : Int)) = T ((k : Int) : Rat) from iB_T (k : Int)] at HI
    have sk : sz 3 ((k : Int) : Rat) := sz_int (by rw [Int.natAbs_natCast]; omega) (by omega)
    have HA := hide (fun w hB hT => r2Add_T (sz_fits (sz_mul sf sz_144) (by rw [most_eq]; omega)) (sz_fits sk (by rw [most_eq]; omega)) B w hB hT)
    have hsum : (((f : Nat) : Int) : Rat) * 144 + ((k : Int) : Rat) = ((rfM d : Nat) : Rat) := by
      have hM : rfM d = f * 144 + k := by
        unfold rfM
        rw [hk, hf, HV.out, HT9.out, HR.out, HQ.out]
      rw [hM, show ((((f * 144 + k : Nat) : Nat) : Rat)) = (((f : Int) * 144 + (k : Int) : Int) : Rat) by rw [← Rat.intCast_natCast]; congr 1, Rat.intCast_add, Rat.intCast_mul]
      rfl
    rw [show addO ((((f : Nat) : Int) : Rat) * 144) ((k : Int) : Rat) = some ((rfM d : Nat) : Rat) by rw [← hsum]; exact if_pos (addC_of (sz_mul sf sz_144) sk (by rw [most_eq]; omega))] at HA
    unfold opV at HA
    dsimp only at HA
    have sM : sz 97 ((rfM d : Nat) : Rat) := by rw [← hsum]; exact sz_mono (sz_add (sz_mul sf sz_144) sk) (by omega)
    have hMz : ((T ((rfM d : Nat) : Rat)).toList == [48]) = decide (rfM d = 0) := by
      rw [T_zero0]
      exact decide_eq_decide.2 Rat.natCast_eq_zero_iff
    have HP2 := hide (fun w hB hT => m7product_T (sz_fits (sz_sgn1 true) (by rw [most_eq]; omega)) (sz_fits sM (by rw [most_eq]; omega)) (mulC_of (sz_sgn1 true) sM (by rw [most_eq]; omega)) B w hB hT)
    rw [sgn_mul, sgn1_lit.1] at HP2
    have sS : sz 98 (sgn true ((rfM d : Nat) : Rat)) := by rw [← sgn_mul]; exact sz_mono (sz_mul (sz_sgn1 true) sM) (by omega)
    have HP3 := hide (fun w hB hT => m7product_T (sz_fits sS (by rw [most_eq]; omega)) (sz_fits sz_tw (by rw [most_eq]; omega)) (mulC_of sS sz_tw (by rw [most_eq]; omega)) B w hB hT)
    rw [tw_lit, show sgn true ((rfM d : Nat) : Rat) * (127 / 60) = sgn true (((rfM d : Nat) : Rat) * (127 / 60)) by rw [← sgn_mul, ← sgn_mul, Rat.mul_assoc]] at HP3
    have HM0 := hide (show rfM d = 0 ↔ dv (ledg d) = 0 ∧ dv (ledg (pdg d).tail) = 0 ∧ dv (ledg (pdg (pdg d).tail).tail) = 0 by
      unfold rfM
      omega)
    obtain ⟨OUT, hOUT⟩ : ∃ X, X = T (sgn true (((rfM d : Nat) : Rat) * (127 / 60))) := ⟨_, rfl⟩
    rw [← hOUT] at HP3
    have HOUT := hide hOUT
    generalize T (sgn true ((rfM d : Nat) : Rat)) = TS at *
    generalize T ((k : Int) : Rat) = TK at *
    generalize T ((((f : Nat) : Int) : Rat) * 144) = TF at *
    obtain ⟨TM, hTM⟩ : ∃ X, X = T ((rfM d : Nat) : Rat) := ⟨_, rfl⟩
    rw [← hTM] at HA HP2 hMz
    obtain ⟨M, hM⟩ : ∃ M, M = rfM d := ⟨_, rfl⟩
    have HMM := hide hM
    rw [← hM] at hMz
    clear hTM hOUT hsum sM sS sf sk hfl eFT hf hk hM c8 hrle hr0 hp0
    go_wp2_with fail
    refine (HP1.out _ (Nat.le_trans hB HB3.out.size) (HT.out.on HB3.out hB).pq).mono ?_
    rintro e w4 ⟨rfl, hb4⟩
    have HB4 := hide (HB3.out.trans (hb4.mono HB3.out.size))
    clear hb4
    go_wp2_with fail
    refine (HI.out _ (Nat.le_trans hB HB4.out.size) (HT.out.on HB4.out hB).pq.p10).mono ?_
    rintro e w5 ⟨rfl, hb5⟩
    have HB5 := hide (HB4.out.trans (hb5.mono HB4.out.size))
    clear hb5
    go_wp2_with fail
    refine (HA.out _ (Nat.le_trans hB HB5.out.size) (HT.out.on HB5.out hB).pq).mono ?_
    rintro e w6 ⟨rfl, hb6⟩
    have HB6 := hide (HB5.out.trans (hb6.mono HB5.out.size))
    clear hb6 z0 z1 dk
    by_cases c9 : M = 0
    · have q9 : (TM.toList == [48]) = true := by rw [hMz, decide_eq_true c9]
      have HE := hide (show ¬ rfOK d true from fun h => by
        have h8 := h.2.2.2.2.2.2.2
        obtain ⟨a1, a2, a3⟩ := HM0.out.1 (by rw [← HMM.out]; exact c9)
        exact h8 ⟨a1, a2, a3, rfl⟩)
      clear c9 hMz
      go_wp2_with fail
      refine bodyPost_ret (results_tmp2 rfl _ _ _) rfl ?_
      exact pf_err HE.out ⟨rfl, HB6.out⟩
    · have q9 : (TM.toList == [48]) = false := by rw [hMz, decide_eq_false c9]
      have HOK := hide (show rfOK d true from ⟨HL0.out, HL1.out, by rw [HM.out]; rfl, HC4.out, HQ34.out, HC7.out, HQN.out, fun h => c9 (by rw [HMM.out]; exact HM0.out.2 ⟨h.1, h.2.1, h.2.2.1⟩)⟩)
      clear c9 hMz
      go_wp2_with fail
      refine (HP2.out _ (Nat.le_trans hB HB6.out.size) (HT.out.on HB6.out hB).pq).mono ?_
      rintro e w7 ⟨rfl, hb7⟩
      have HB7 := hide (HB6.out.trans (hb7.mono HB6.out.size))
      clear hb7
      go_wp2_with fail
      refine (HP3.out _ (Nat.le_trans hB HB7.out.size) (HT.out.on HB7.out hB).pq).mono ?_
      rintro e w8 ⟨rfl, hb8⟩
      have HB8 := hide (HB7.out.trans (hb8.mono HB7.out.size))
      clear hb8
      go_wp2_with fail
      refine bodyPost_ret (results_tmp2 rfl _ _ _) rfl ?_
      rw [HOUT.out]
      exact pf_ok HOK.out ⟨rfl, HB8.out⟩
open Go.RowKit Go.KP Go.KI Go.Shelf
attribute [local go_sem] Oper.semAt_some

def wcells (ws : List (List UInt8)) : List Value := ws.map fun w => .string (strB w)
theorem wcells_snoc (ws : List (List UInt8)) (v : List UInt8) : wcells (ws ++ [v]) = wcells ws ++ [.string (strB v)] := by simp [wcells]
theorem wcells_at {ws : List (List UInt8)} {k : Nat} (h : k < ws.length) : (wcells ws)[k]? = some (.string (strB (ws.getD k []))) := by
  unfold wcells
  rw [List.getElem?_map, List.getElem?_eq_getElem h]
  simp [h]
def wordsE (l : List UInt8) : Int := if 65536 < l.length then 4 else if (wordsL l).all okW = true then 0 else 3
def WordsAt (w : World) (l : List UInt8) (e : Ending) (w2 : World) : Prop :=
  ∃ v, e = .returned (.tuple #[v, .int .i64 (wordsE l)]) ∧ (if wordsE l = 0 then (∃ base t, w2.ownsRow base t 1 v (wordsL l).length (wcells (wordsL l))) else v = .slice none 0 0) ∧ Below w.heap.size w w2
theorem words_fail3 {w w2 : World} {l : List UInt8} (h : wordsE l = 3) (hb : Below w.heap.size w w2) : WordsAt w l (.returned (.tuple #[.slice none 0 0, .int .i64 3])) w2 :=
  ⟨.slice none 0 0, by rw [h], by rw [if_neg (by rw [h]; decide)], hb⟩
theorem words_fail4 {w w2 : World} {l : List UInt8} (h : wordsE l = 4) (hb : Below w.heap.size w w2) : WordsAt w l (.returned (.tuple #[.slice none 0 0, .int .i64 4])) w2 :=
  ⟨.slice none 0 0, by rw [h], by rw [if_neg (by rw [h]; decide)], hb⟩
theorem words_ret {w w2 : World} {l : List UInt8} {v : Value} {base : Nat} {e : TypeId} (h : wordsE l = 0) (ho : w2.ownsRow base e 1 v (wordsL l).length (wcells (wordsL l))) (hb : Below w.heap.size w w2) : WordsAt w l (.returned (.tuple #[v, .int .i64 0])) w2 :=
  ⟨v, by rw [h], by rw [if_pos h]; exact ⟨_, _, ho⟩, hb⟩
theorem wordsE_long {l : List UInt8} (h : 65536 < l.length) : wordsE l = 4 := if_pos h
theorem wordsE_bad {l : List UInt8} (h : ¬ 65536 < l.length) (h2 : (wordsL l).all okW = false) : wordsE l = 3 := by unfold wordsE; rw [if_neg h, if_neg (by rw [h2]; simp)]
theorem wordsE_ok {l : List UInt8} (h : ¬ 65536 < l.length) (h2 : (wordsL l).all okW = true) : wordsE l = 0 := by unfold wordsE; rw [if_neg h, if_pos h2]
theorem info9 : (Tryz.prog.info? 9).map (fun i => (i.zero, i.size, i.bytes)) = some (some (.string ⟨#[]⟩), 1, 16) := by kernel_rfl
theorem drop_head {α : Type} {L : List α} {k : Nat} {x : α} {r : List α} (d : α) (h : L.drop k = x :: r) : k < L.length ∧ L.getD k d = x ∧ L.drop (k + 1) = r := by
  have hl : k < L.length := by
    rcases Nat.lt_or_ge k L.length with h1 | h1
    · exact h1
    · rw [List.drop_eq_nil_of_le h1] at h
      cases h
  rw [List.drop_eq_getElem_cons hl] at h
  injection h with h1 h2
  exact ⟨hl, by simp [h1, hl], h2⟩
theorem drop_none {α : Type} {L : List α} {k : Nat} (hk : k ≤ L.length) (h : L.drop k = []) : k = L.length := by
  have := congrArg List.length h
  rw [List.length_drop] at this
  simp at this
  omega
open Go.RowKit Go.KP Go.KI Go.Shelf
attribute [local go_sem] Oper.semAt_some

abbrev boxW (s : ByteArray) : Obj := .cells #[.string s] 9
theorem mwords_any (s : ByteArray) (w : World) :
    Calls Tryz.prog 61 #[.string s] w (fun e w' => e = .returned (.func (.func 113) #[] #[.pointer (some ⟨w.heap.size, 0, none⟩)]) ∧ w' = w.alloc (boxW s)) := by
  go_enter Tryz.func61, Tryz.ntmps61
  go_wp2_with fail
  go_ret
  exact ⟨rfl, rfl⟩
def boxLen (bx : Nat) (W : World) : Nat := match W.heap[bx]? with | some (.cells cs _ _) => (match cs[0]? with | some (Value.string s) => s.size | _ => 0) | _ => 0
theorem boxLen_of {bx : Nat} {W : World} {r : List UInt8} (h : W.heap[bx]? = some (boxW (strB r))) : boxLen bx W = r.length := by
  unfold boxLen
  rw [h]
  simp [strB_size]
theorem boxW_set {bx : Nat} {W : World} {s : ByteArray} (h : W.heap[bx]? = some (boxW s)) (t : ByteArray) : (W.setCell ⟨bx, 0, none⟩ (.string t)).heap[bx]? = some (boxW t) := by
  simp only [World.setCell, Array.getElem?_modify, h, Option.map_some, if_true]
  rfl
theorem strB_nil (r : List UInt8) : ((strB r).toList == []) = decide (r = []) := by
  rw [ByteArray.toList_eq, strB_list]
  by_cases h : r = []
  · rw [h]; rfl
  · rw [decide_eq_false h]
    exact beq_false_of_ne h
theorem behind_less {c : UInt8} {l : List UInt8} (h : c ∈ l) : (KI.behind c l).length < l.length := by
  have := congrArg List.length (split_eq h)
  rw [List.length_append, List.length_cons] at this
  omega
def WSt (l : List UInt8) (bx : Nat) (J : Nat → (Nat → Prop) → World → Prop) (n0 : Nat) (k : Nat) (r : List UInt8) (S : Nat → Prop) (wr : World) : Prop :=
  k ≤ (wordsL l).length ∧ (wordsL l).drop k = wordsL r ∧ r.length ≤ l.length ∧ J k S wr ∧ bx < wr.heap.size ∧ wr.heap[bx]? = some (boxW (strB r)) ∧ n0 ≤ wr.heap.size
theorem wordsSeq_any (l : List UInt8) (hl : l.length ≤ 65536) (bx : Nat) (B : Nat) (w : World) (hb : w.heap[bx]? = some (boxW (strB l))) :
    IterOwn Tryz.prog 113 #[.pointer (some ⟨bx, 0, none⟩)] (fun k => #[.string (strB ((wordsL l).getD k []))]) (wordsL l).length (fun _ W => PQ B W) (fun b => b = bx) w := by
  intro lp J Jx W hown hJ hJx hJS hKe hY h0
  refine callsIn_of_wp Tryz.func113 rfl trivial ?_ rfl
  simp only [Tryz.ntmps113, List.size_toArray, List.length_cons, List.length_nil, Nat.reduceAdd, Nat.reduceSub, Array.replicate_succ, Array.replicate_zero, List.push_toArray, List.append_toArray, List.nil_append, List.cons_append]
  have HBX := hide (show bx < W.heap.size ∧ W.heap[bx]? = some (boxW (strB l)) from ⟨(hown bx rfl).1, (hown bx rfl).2.trans hb⟩)
  have HJ := hide hJ; have HJx := hide hJx; have HJS := hide hJS; have HY := hide hY; have H0 := hide h0; have HK := hide hKe
  clear hJ hJx hJS hY h0 hKe hb hown
  gi_wp2
  gi_loopw [3, 4, 5] (fun _ _ _ wr => ∃ (k : Nat) (r : List UInt8) (S : Nat → Prop), Hid (WSt l bx J W.heap.size k r S wr)) (fun _ _ _ wr => boxLen bx wr)
  case atStart => exact ⟨0, l, _, Nat.zero_le _, rfl, Nat.le_refl _, H0.out, HBX.out.1, HBX.out.2, Nat.le_refl _⟩
  case round =>
    obtain ⟨k, r, S, hin⟩ := hrel
    have IN := hide hin.out
    clear hin
    obtain ⟨i1, i2, i3, i4, i5, i6, i7⟩ := IN.out
    have c0 := cell_blk i6 0
    have l0 := i5
    by_cases hr : r = []
    · have he : ((strB r).toList == []) = true := by rw [strB_nil, decide_eq_true hr]
      have he2 : ((strB r).toList != []) = false := by simp only [bne, he]; rfl
      have HE := hide (show k = (wordsL l).length from drop_none i1 (by rw [i2, hr]; rfl))
      clear i1 i2 i3 i4 i5 i6 i7 hr
      gi_wp2
      refine bodyPost_end (results_none rfl _ _ _) rfl ?_
      exact ⟨⟨_, rfl⟩, S, .inl (by rw [← HE.out]; exact IN.out.2.2.2.1)⟩
    have he : ((strB r).toList == []) = false := by rw [strB_nil, decide_eq_false hr]
    have he2 : ((strB r).toList != []) = true := by simp only [bne, he]; rfl
    have HP := HK.out k S wr i1 i4
    have HC := hide (scut_any 32 (strB r) (by rw [strB_size]; omega) B wr HP)
    rw [strB_list] at HC
    have hcut := words_cut hr
    have hBN := hide (boxLen_of i6)
    have hbw : ∀ w2, Below wr.heap.size wr w2 → J k S w2 ∧ bx < w2.heap.size ∧ w2.heap[bx]? = some (boxW (strB r)) ∧ W.heap.size ≤ w2.heap.size := fun w2 hb2 =>
      ⟨HJ.out k _ _ _ i4 ((QuietO.refl _ _ _ wr).of_below hb2 (Nat.le_refl _)), Nat.lt_of_lt_of_le i5 hb2.size, below_blk hb2 i6 i5, Nat.le_trans i7 hb2.size⟩
    have HBW := hide hbw
    have I1 := hide i1; have I2 := hide i2; have I3 := hide i3
    clear i1 i2 i3 i4 i5 i6 i7 HP hbw IN
    obtain ⟨X, hX⟩ : ∃ X, X = KI.ahead 32 r := ⟨_, rfl⟩
    obtain ⟨Y, hY⟩ : ∃ X, X = KI.behind 32 r := ⟨_, rfl⟩
    rw [← hX, ← hY] at HC
    rw [← hX, ← hY] at hcut
    rcases hcut with ⟨h32, hw⟩ | ⟨h32, hyn, hw⟩ | ⟨h32, hyn, hw⟩
    · have hXr : X = r := by rw [hX]; exact ahead_none h32
      rw [if_neg h32, decide_eq_false h32] at HC
      have HD := hide (drop_head [] (I2.out.trans hw))
      have HM := hide (show ([] : List UInt8).length < r.length by cases r with | nil => exact absurd rfl hr | cons a b => simp)
      clear hw h32 hX hY hr
      gi_wp2
      refine ⟨trivial, rfl, (callsIn_wide.2 HC.out).mono ?_⟩
      rintro e w1 ⟨rfl, hb1⟩
      obtain ⟨j1, j2, j3, j4⟩ := HBW.out w1 hb1
      have hyy := HY.out k S _ HD.out.1 j1 j4
      rw [HD.out.2.1, ← hXr] at hyy
      try dsimp only at hyy
      obtain ⟨fn, tmps, assign, body, hy, hR⟩ := hyy
      have HR := hide hR
      have J2 := hide j2; have J3 := hide j3; have J4 := hide j4
      clear hR j1 j2 j3 j4 hb1 HBW HC c0 l0 hXr
      gi_wp2
      refine ⟨rfl, HR.out.mono ?_⟩
      rintro e W5 ⟨S3, hu3, ho3, (⟨rfl, hJ3⟩ | ⟨rfl, hJx3⟩)⟩
      · have H5 := hide (show W5.heap[bx]? = some (boxW (strB r)) from (ho3 bx rfl).trans J3.out)
        have H6 := hide (Nat.le_trans J4.out hu3.size)
        have HJ3 := hide hJ3
        have c3 := cell_blk H5.out 0
        have f3 := froz_blk H5.out 0
        have l3 := lt_blk H5.out
        clear hu3 ho3 hJ3 hy HR
        gi_wp2
        go_roundw
        case rel =>
          refine ⟨k + 1, [], S3, HD.out.1, HD.out.2.2, Nat.zero_le _, HJ.out _ _ _ _ HJ3.out (QuietO.set (O := fun b => b = bx) (p := ⟨bx, 0, none⟩) (QuietO.refl _ _ _ W5) rfl _), ?_, boxW_set H5.out _, ?_⟩
          · simp [World.setCell]; omega
          · have := H6.out; simp [World.setCell]; omega
        case measure =>
          rw [hBN.out, boxLen_of (boxW_set H5.out _)]
          exact HM.out
      · clear hu3 ho3 hy HR
        gi_wp2
        refine bodyPost_ret (results_none rfl _ _ _) rfl ?_
        exact ⟨⟨_, rfl⟩, S3, .inr hJx3⟩
    · rw [if_pos h32, decide_eq_true h32, hyn] at HC
      obtain ⟨Z, hZ⟩ : ∃ Z, Z = strB ([] : List UInt8) := ⟨_, rfl⟩
      rw [← hZ] at HC
      have hz1 : (Z.toList == []) = true := by rw [hZ, strB_nil]; rfl
      have hz2 : Z.toList.isEmpty = true := by rw [hZ, ByteArray.toList_eq]; rfl
      clear hZ
      have HD := hide (drop_head [] (I2.out.trans hw))
      have HD2 := hide (drop_head [] HD.out.2.2)
      clear hw h32 hX hY hr hyn
      gi_wp2
      refine ⟨trivial, rfl, (callsIn_wide.2 HC.out).mono ?_⟩
      rintro e w1 ⟨rfl, hb1⟩
      obtain ⟨j1, j2, j3, j4⟩ := HBW.out w1 hb1
      have hyy := HY.out k S _ HD.out.1 j1 j4
      rw [HD.out.2.1] at hyy
      try dsimp only at hyy
      obtain ⟨fn, tmps, assign, body, hy, hR⟩ := hyy
      have HR := hide hR
      have J4 := hide j4
      clear hR j1 j2 j3 j4 hb1 HBW HC c0 l0
      gi_wp2
      refine ⟨rfl, HR.out.mono ?_⟩
      rintro e W5 ⟨S3, hu3, ho3, (⟨rfl, hJ3⟩ | ⟨rfl, hJx3⟩)⟩
      · have H6 := hide (Nat.le_trans J4.out hu3.size)
        have hyy := HY.out (k + 1) S3 _ HD2.out.1 hJ3 H6.out
        rw [HD2.out.2.1, show strB [] = (⟨#[]⟩ : ByteArray) from rfl] at hyy
        try dsimp only at hyy
        obtain ⟨fn2, tmps2, assign2, body2, hy2, hR2⟩ := hyy
        have HR2 := hide hR2
        clear hu3 ho3 hJ3 hy HR hR2
        gi_wp2
        refine ⟨rfl, HR2.out.mono ?_⟩
        have HE := hide (show k + 1 + 1 = (wordsL l).length from drop_none HD2.out.1 HD2.out.2.2)
        rintro e W6 ⟨S4, hu4, ho4, (⟨rfl, hJ4⟩ | ⟨rfl, hJx4⟩)⟩
        · rw [HE.out] at hJ4
          clear hu4 ho4 hy2 HR2
          gi_wp2
          refine bodyPost_ret (results_none rfl _ _ _) rfl ?_
          exact ⟨⟨_, rfl⟩, S4, .inl hJ4⟩
        · clear hu4 ho4 hy2 HR2
          gi_wp2
          refine bodyPost_ret (results_none rfl _ _ _) rfl ?_
          exact ⟨⟨_, rfl⟩, S4, .inr hJx4⟩
      · clear hu3 ho3 hy HR
        gi_wp2
        refine bodyPost_ret (results_none rfl _ _ _) rfl ?_
        exact ⟨⟨_, rfl⟩, S3, .inr hJx3⟩
    · rw [if_pos h32, decide_eq_true h32] at HC
      have HD := hide (drop_head [] (I2.out.trans hw))
      have HM := hide (show Y.length < r.length by rw [hY]; exact behind_less h32)
      have hye : ((strB Y).toList == []) = false := by rw [strB_nil, decide_eq_false hyn]
      clear hw h32 hX hY hr hyn
      gi_wp2
      refine ⟨trivial, rfl, (callsIn_wide.2 HC.out).mono ?_⟩
      rintro e w1 ⟨rfl, hb1⟩
      obtain ⟨j1, j2, j3, j4⟩ := HBW.out w1 hb1
      have hyy := HY.out k S _ HD.out.1 j1 j4
      rw [HD.out.2.1] at hyy
      try dsimp only at hyy
      obtain ⟨fn, tmps, assign, body, hy, hR⟩ := hyy
      have HR := hide hR
      have J2 := hide j2; have J3 := hide j3; have J4 := hide j4
      clear hR j1 j2 j3 j4 hb1 HBW HC c0 l0
      gi_wp2
      refine ⟨rfl, HR.out.mono ?_⟩
      rintro e W5 ⟨S3, hu3, ho3, (⟨rfl, hJ3⟩ | ⟨rfl, hJx3⟩)⟩
      · have H5 := hide (show W5.heap[bx]? = some (boxW (strB r)) from (ho3 bx rfl).trans J3.out)
        have H6 := hide (Nat.le_trans J4.out hu3.size)
        have HJ3 := hide hJ3
        have c3 := cell_blk H5.out 0
        have f3 := froz_blk H5.out 0
        have l3 := lt_blk H5.out
        clear hu3 ho3 hJ3 hy HR
        gi_wp2
        go_roundw
        case rel =>
          refine ⟨k + 1, Y, S3, HD.out.1, HD.out.2.2, (by have := HM.out; have := I3.out; omega), HJ.out _ _ _ _ HJ3.out (QuietO.set (O := fun b => b = bx) (p := ⟨bx, 0, none⟩) (QuietO.refl _ _ _ W5) rfl _), ?_, boxW_set H5.out _, ?_⟩
          · simp [World.setCell]; omega
          · have := H6.out; simp [World.setCell]; omega
        case measure =>
          rw [hBN.out, boxLen_of (boxW_set H5.out _)]
          exact HM.out
      · clear hu3 ho3 hy HR
        gi_wp2
        refine bodyPost_ret (results_none rfl _ _ _) rfl ?_
        exact ⟨⟨_, rfl⟩, S3, .inr hJx3⟩
open Go.RowKit Go.KP Go.KI Go.Shelf
attribute [local go_sem] Oper.semAt_some

theorem exit_words {a : Act} {W : World} {b0 b1 : Nat} {v : Value} {z : Int} (h0 : W.heap[b0]? = some (.cells #[v] 34 (0, 0))) (h1 : W.heap[b1]? = some (.cells #[.int .i64 z] 25 (0, 0)))
    (h2 : a.tmps[2]? = some (.pointer (some ⟨b0, 0, none⟩))) (h3 : a.tmps[3]? = some (.pointer (some ⟨b1, 0, none⟩))) :
    (results Tryz.f19 a.tmps).run Tryz.prog W = .ok (.tuple #[v, .int .i64 z]) W := by
  have c0 := fun o => cell_blk h0 o
  have c1 := fun o => cell_blk h1 o
  simp [results, go_sem, c0, c1, h2, h3]
theorem words_spoil {l w : List UInt8} {k : Nat} (hk : k < (wordsL l).length) (hw : (wordsL l).getD k [] = w) (h : okW w = false) : (wordsL l).all okW = false := by
  rw [List.all_eq_false]
  refine ⟨w, ?_, by rw [h]; simp⟩
  rw [← hw]
  simp [hk]
theorem words_take {l : List UInt8} {k : Nat} (hk : k < (wordsL l).length) : (wordsL l).take (k + 1) = (wordsL l).take k ++ [(wordsL l).getD k []] := by
  rw [List.take_succ_eq_append_getElem hk]
  simp [hk]
theorem wset_off {w : World} {b c o : Nat} {x : Obj} (h : w.heap[b]? = some x) (hne : c ≠ b) (v : Value) : (w.setCell ⟨c, o, none⟩ v).heap[b]? = some x :=
  (Below.heap_setCell _ _ _ _ (fun e => hne e.symm)).trans h
theorem two_set {w W : World} {u v : Value} {z y : Int} (h0 : W.heap[w.heap.size]? = some (.cells #[u] 34 (0, 0))) (h1 : W.heap[w.heap.size + 1]? = some (.cells #[.int .i64 z] 25 (0, 0))) (hb : Below w.heap.size w W) :
    ((W.setCell ⟨w.heap.size, 0, none⟩ v).setCell ⟨w.heap.size + 1, 0, none⟩ (.int .i64 y)).heap[w.heap.size]? = some (.cells #[v] 34 (0, 0)) ∧
    ((W.setCell ⟨w.heap.size, 0, none⟩ v).setCell ⟨w.heap.size + 1, 0, none⟩ (.int .i64 y)).heap[w.heap.size + 1]? = some (.cells #[.int .i64 y] 25 (0, 0)) ∧
    Below w.heap.size w ((W.setCell ⟨w.heap.size, 0, none⟩ v).setCell ⟨w.heap.size + 1, 0, none⟩ (.int .i64 y)) ∧
    ((W.setCell ⟨w.heap.size, 0, none⟩ v).setCell ⟨w.heap.size + 1, 0, none⟩ (.int .i64 y)).heap.size = W.heap.size ∧
    ∀ b, w.heap.size + 2 ≤ b → ((W.setCell ⟨w.heap.size, 0, none⟩ v).setCell ⟨w.heap.size + 1, 0, none⟩ (.int .i64 y)).heap[b]? = W.heap[b]? := by
  refine ⟨wset_off (Boxed.set v h0) (by omega) _, Boxed.set _ (wset_off h1 (by omega) _), (hb.setCell (p := ⟨w.heap.size, 0, none⟩) (Nat.le_refl _) _).setCell (p := ⟨w.heap.size + 1, 0, none⟩) (by simp) _, by simp [World.setCell], fun b h => ?_⟩
  exact (Below.heap_setCell _ _ _ _ (by simp; omega)).trans (Below.heap_setCell _ _ _ _ (by simp; omega))
theorem mWords_any (s : ByteArray) (hs : s.size ≤ 1000000) (B : Nat) (w : World) (hB : B ≤ w.heap.size) (hT : PQ B w) :
    Calls Tryz.prog 19 #[.string s] w (WordsAt w s.data.toList) := by
  obtain ⟨l, hl⟩ : ∃ l, l = s.data.toList := ⟨_, rfl⟩
  have hll : l.length = s.size := by rw [hl, bytes_len]
  have hsl : s = strB l := by rw [hl]; rfl
  rw [← hl]
  have HT := hide hT
  refine (callsIn_wide (n := 0)).1 ?_
  refine callsIn_of_wp_marks Tryz.func19 rfl trivial ?_ rfl
  simp only [Tryz.ntmps19, List.size_toArray, List.length_cons, List.length_nil, Nat.reduceAdd, Nat.reduceSub, Array.replicate_succ, Array.replicate_zero, List.push_toArray, List.append_toArray, List.nil_append, List.cons_append]
  by_cases h4 : 65536 < s.size
  · have HE := hide (wordsE_long (l := l) (by omega))
    have g : (65536 : Int) < (s.size : Int) := by omega
    clear hl hll hs h4 hT hsl
    gi_wp2_with fail
    obtain ⟨x0, x1, _, x3⟩ := heap2 w (.cells #[.slice none 0 0] 34) (.cells #[.int .i64 4] 25)
    exact ⟨_, exit_words x0 x1 rfl rfl, words_fail4 HE.out x3⟩
  have g4 : ((65536 : Int) < (s.size : Int)) = False := eq_false (by omega)
  have h4l : ¬ 65536 < l.length := by omega
  have HLL := hide hll
  have H4 := hide h4l
  subst hsl
  clear hl hll h4 h4l hT hs
  gi_wp2_with fail
  refine ⟨trivial, rfl, (callsIn_wide.2 (mwords_any (strB l) _)).mono ?_⟩
  rintro e w4 ⟨rfl, hw4⟩
  obtain ⟨Y0, Y1, Y2, y4, Y5⟩ := heap3 w (.cells #[.slice none 0 0] 34) (.cells #[.int .i64 0] 25) (.cells #[.slice none 0 0] 34)
  obtain ⟨Z0, z1, z2⟩ := heap1 (((w.alloc (.cells #[.slice none 0 0] 34)).alloc (.cells #[.int .i64 0] 25)).alloc (.cells #[.slice none 0 0] 34)) (boxW (strB l))
  rw [y4] at Z0 z1 z2
  rw [← hw4] at Z0 z1 z2
  have C0 := hide (below_blk z2 Y0 (by omega)); have C1 := hide (below_blk z2 Y1 (by omega)); have C2 := hide (below_blk z2 Y2 (by omega)); have C3 := hide Z0
  have HB4 := hide (Y5.trans (z2.mono (by omega)))
  have hs4 : w4.heap.size = w.heap.size + 4 := by omega
  obtain ⟨i0, hi0, hz0, hz1, hz2⟩ := info_parts info9
  have hsl : l.length ≤ 65536 := by have := H4.out; omega
  have hwl := words_len l
  clear hw4 Y0 Y1 Y2 y4 Y5 Z0 z1 z2
  gi_wp2_with fail
  refine wp_iter_own (gf := 113) (lb := #[.pointer (some ⟨w.heap.size + 3, 0, none⟩)]) rfl (enters_of Tryz.func113 (by kernel_rfl) rfl)
    (wordsSeq_any l hsl (w.heap.size + 3) B w4 C3.out) (fun b hb => ⟨by rw [hb, hs4]; omega, rfl⟩) (fun _ => rfl)
    (fun k S W => ∃ v, S = OwnOf v ∧ W.heap[w.heap.size]? = some (.cells #[.slice none 0 0] 34 (0, 0)) ∧ W.heap[w.heap.size + 1]? = some (.cells #[.int .i64 0] 25 (0, 0)) ∧ W.heap[w.heap.size + 1 + 1]? = some (.cells #[v] 34 (0, 0)) ∧
      W.ownsRow w4.heap.size 9 1 v k (wcells ((wordsL l).take k)) ∧ ((wordsL l).take k).all okW = true ∧ Below w.heap.size w W)
    (fun c S W => c = .ret ∧ (wordsL l).all okW = false ∧ W.heap[w.heap.size]? = some (.cells #[.slice none 0 0] 34 (0, 0)) ∧ W.heap[w.heap.size + 1]? = some (.cells #[.int .i64 3] 25 (0, 0)) ∧ Below w.heap.size w W ∧ w4.heap.size ≤ W.heap.size) ?hI ?hIx ?h0 ?hke
    (fun k S a1' W => ∃ x : ByteArray, x = strB ((wordsL l)[k]?.getD []) ∧ a1' = { tmps := #[.string (strB l), undef, .pointer (some ⟨w.heap.size, 0, none⟩), .pointer (some ⟨w.heap.size + 1, 0, none⟩), .pointer (some ⟨w.heap.size + 1 + 1, 0, none⟩), .string x, undef, .string (strB l), .int .i64 ((strB l).size : Nat), .bool false, .string (strB l), .func (.func 113) #[] #[.pointer (some ⟨w.heap.size + 1 + 1 + 1, 0, none⟩)], .string x, undef, undef, undef, undef, undef, undef, undef, undef, undef, undef, undef, undef, undef, undef, undef, undef, undef, undef, undef, undef, undef, undef, undef], defers := [] })
    ?hAx ?hassign ?hS ?hbody ?hdone ?hstop
  case hI =>
    rintro k S W W2 ⟨v, rfl, e0, e1, e2, hown, hok, hb⟩ hq
    have e : ∀ {b : Nat} {o : Obj}, b < w.heap.size + 3 → W.heap[b]? = some o → W2.heap[b]? = some o := fun {b} {o} hb h => (hq.block b (by omega) (.inl (by omega)) (lt_blk h)).trans h
    exact ⟨v, rfl, e (by omega) e0, e (by omega) e1, e (by omega) e2, owns_stay hown (fun r hr => hq.block r (by have := (hown.lt r hr).1; omega) (.inr hr) (hown.lt r hr).2), hok,
      ⟨hq.os.trans hb.os, hq.tape.trans hb.tape, hq.output.trans hb.output, Nat.le_trans hb.size hq.size, fun j hj => (hq.block j (by omega) (.inl (by omega)) (by have := hb.size; omega)).trans (hb.block j hj)⟩⟩
  case hIx =>
    rintro c S W W2 ⟨rfl, hbad, e0, e1, hb, hsz⟩ hq
    have e : ∀ {b : Nat} {o : Obj}, b < w.heap.size + 3 → W.heap[b]? = some o → W2.heap[b]? = some o := fun {b} {o} hb h => (hq.block b (by omega) (.inl (by omega)) (lt_blk h)).trans h
    exact ⟨rfl, hbad, e (by omega) e0, e (by omega) e1,
      ⟨hq.os.trans hb.os, hq.tape.trans hb.tape, hq.output.trans hb.output, Nat.le_trans hb.size hq.size, fun j hj => (hq.block j (by omega) (.inl (by omega)) (by have := hb.size; omega)).trans (hb.block j hj)⟩, Nat.le_trans hsz hq.size⟩
  case h0 => exact ⟨.slice none 0 0, by funext b; simp [OwnOf, Value.ownBlock], C0.out, C1.out, C2.out, World.ownsRow_nil _ _ _ _, rfl, HB4.out⟩
  case hke =>
    rintro k S W _ ⟨v, _, _, _, _, _, _, hb⟩
    exact HT.out.on hb hB
  case hAx =>
    rintro k S a1' W l r r2 h _
    exact h
  case hassign =>
    intro lp k S W K hsz hSlt hK
    gi_wp2
    exact hK _ _ (Quiet.refl _ _ _) (Upd.refl _ _ _) ⟨_, rfl, rfl⟩
  case hS =>
    rintro k S W ⟨v, rfl, _, _, _, hown, _⟩ b hb
    exact owns_lt hown b hb
  case hstop =>
    rintro D c S W hD ⟨rfl, hbad, e0, e1, hb, hsz⟩ hK
    have HK := hide hK
    have HBD := hide hbad
    have E0 := hide e0; have E1 := hide e1; have HB := hide hb
    clear hK hbad e0 e1 hb
    gi_wp2
    refine ⟨by simp, .inl ⟨_, _, rfl, run_takeDeferred HK.out, ?_⟩⟩
    exact ⟨_, exit_words ((World.putObj_heap_other (by omega)).trans E0.out) ((World.putObj_heap_other (by omega)).trans E1.out) rfl rfl, words_fail3 (wordsE_bad H4.out HBD.out) (HB.out.trans (belowK_b (w := w) (Nat.le_refl _) W D _ _ (by omega) HK.out rfl rfl))⟩
  case hdone =>
    rintro D S W hD ⟨v, rfl, e0, e1, e2, hown, hok, hb⟩ hK
    rw [List.take_length] at hown hok
    obtain ⟨va, vc, rfl⟩ := owns_form hown
    have c2 := cell_blk e2 0
    have c0 := cell_blk e0 0
    have c1 := cell_blk e1 0
    have f0 := froz_blk e0 0
    have f1 := froz_blk e1 0
    obtain ⟨p1, p2, p3, p4, p5⟩ := two_set (v := .slice va (wordsL l).length vc) (y := 0) e0 e1 hb
    have P1 := hide p1; have P2 := hide p2; have P3 := hide p3
    have HO := hide (owns_stay hown (fun r hr => p5 r (by have := (hown.lt r hr).1; omega)))
    have HK := hide ((p5 D (by omega)).trans hK)
    have HOK := hide hok
    have l2 := lt_blk e2
    have P4 := hide p4
    clear hown hok hb hK e0 e1 e2 p1 p2 p3 p4 p5
    gi_wp2
    refine ⟨by simp, .inl ⟨_, _, rfl, run_takeDeferred HK.out, ?_⟩⟩
    exact ⟨_, exit_words ((World.putObj_heap_other (by omega)).trans P1.out) ((World.putObj_heap_other (by omega)).trans P2.out) rfl rfl, words_ret (wordsE_ok H4.out HOK.out) (ownsRow_putObj HO.out _ HK.out rfl) (P3.out.trans (belowK_b (w := w) (Nat.le_refl _) _ D _ _ (by omega) HK.out rfl rfl))⟩
  case hbody =>
    rintro lp k S a1' W hk ⟨v, rfl, e0, e1, e2, hown, hok, hb⟩ ⟨x, hx, rfl⟩ hsz
    obtain ⟨X, hX⟩ : ∃ X, X = (wordsL l).getD k [] := ⟨_, rfl⟩
    have hx2 : x = strB X := by rw [hx, hX, List.getD_eq_getElem?_getD]
    have hxl : x.data.toList = X := by rw [hx2, strB_list]
    have hxs : X.length = x.size := by rw [← hxl, bytes_len]
    have hxm : x.size ≤ 70000 := by
      have := word_len hk
      rw [← hX] at this
      omega
    have c0 := cell_blk e0 0
    have c1 := cell_blk e1 0
    have c2 := cell_blk e2 0
    have f0 := froz_blk e0 0
    have f1 := froz_blk e1 0
    have f2 := froz_blk e2 0
    have l2 := lt_blk e2
    obtain ⟨p1, p2, p3, p4, p5⟩ := two_set (v := .slice none 0 0) (y := 3) e0 e1 hb
    have HSTOP := hide (fun (h : (wordsL l).all okW = false) => show bodyEndO w4.heap.size (fun b => b = w.heap.size + 3) (fun S W => ∃ v, S = OwnOf v ∧ W.heap[w.heap.size]? = some (.cells #[.slice none 0 0] 34 (0, 0)) ∧ W.heap[w.heap.size + 1]? = some (.cells #[.int .i64 0] 25 (0, 0)) ∧ W.heap[w.heap.size + 1 + 1]? = some (.cells #[v] 34 (0, 0)) ∧
        W.ownsRow w4.heap.size 9 1 v (k + 1) (wcells ((wordsL l).take (k + 1))) ∧ ((wordsL l).take (k + 1)).all okW = true ∧ Below w.heap.size w W)
      (fun c S W => c = .ret ∧ (wordsL l).all okW = false ∧ W.heap[w.heap.size]? = some (.cells #[.slice none 0 0] 34 (0, 0)) ∧ W.heap[w.heap.size + 1]? = some (.cells #[.int .i64 3] 25 (0, 0)) ∧ Below w.heap.size w W ∧ w4.heap.size ≤ W.heap.size) (OwnOf v) W .ret { tmps := #[], defers := [] }
        ((W.setCell ⟨w.heap.size, 0, none⟩ (.slice none 0 0)).setCell ⟨w.heap.size + 1, 0, none⟩ (.int .i64 3)) from
      ⟨OwnOf v, ((Upd.refl _ _ _).setBox (p := ⟨w.heap.size, 0, none⟩) (by simp; omega) _).setBox (p := ⟨w.heap.size + 1, 0, none⟩) (by simp; omega) _, fun b hb => p5 b (by omega), rfl, h, p1, p2, p3, by omega⟩)
    have E0 := hide e0; have E1 := hide e1; have E2 := hide e2; have HO := hide hown; have HOK := hide hok; have HB := hide hb
    have HSP := hide (fun h : okW X = false => words_spoil hk hX.symm h)
    have HX2 := hide hx2
    have HXL := hide hxl
    clear e0 e1 e2 hown hok hb p1 p2 p3 p4 p5 hx hx2
    by_cases h0 : X = []
    · have he : (x.toList == []) = true := by rw [ByteArray.toList_eq, hxl, h0]; rfl
      have he2 : x.toList.isEmpty = true := by rw [ByteArray.toList_eq, hxl, h0]; rfl
      have hbad := HSTOP.out (HSP.out (by rw [h0]; rfl))
      have HBAD := hide hbad
      clear hbad h0 HSTOP hxl hxs hX
      gi_wp2
      exact HBAD.out
    have he : (x.toList == []) = false := by rw [ByteArray.toList_eq, hxl]; exact beq_false_of_ne h0
    have he2 : x.toList.isEmpty = false := by
      rw [ByteArray.toList_eq, hxl]
      cases X with
      | nil => exact absurd rfl h0
      | cons a b => rfl
    have H0 := hide h0
    have HX := hide hX
    clear hX hxl h0
    gi_wp2
    gi_loopw [6, 17] (fun _ c wr => ∃ j : Nat, j ≤ x.size ∧ c = .int .i64 j ∧ Hid ((X.take j).all prn = true) ∧ wr = W) (fun _ c _ => x.size - (intOf c).toNat)
    case atStart => exact ⟨0, by omega, rfl, hide rfl, by first | rfl | trivial⟩
    case round =>
      obtain ⟨j, hjl, rfl, HA, rfl⟩ := hrel
      have hj0 : (0 : Int) ≤ (j : Int) := by omega
      by_cases hlt : j < x.size
      · have hki : (j : Int) < (x.size : Int) := by omega
        obtain ⟨c, hc⟩ : ∃ c, x[j]'hlt = c := ⟨_, rfl⟩
        have hat : X[j]? = some c := by
          have h3 : x.data.toList[j]? = some x.data[j] := by simp
          rw [← HXL.out, h3]
          exact congrArg some hc
        obtain ⟨y, hyv⟩ : ∃ y : Nat, y = c.toNat := ⟨_, rfl⟩
        have hyv2 : (x[j]'hlt).toNat = y := by rw [hc, hyv]
        have HAT := hide hat
        have HY := hide hyv
        clear hat hc hyv
        rcases (show (33 ≤ y ∧ y ≤ 126) ∨ y < 33 ∨ (33 ≤ y ∧ 126 < y) by omega) with v | v | v
        · have r1 : ((y : Int) < 33) = False := eq_false (by omega)
          have r2 : ((126 : Int) < (y : Int)) = False := eq_false (by omega)
          have HN := hide (show (X.take (j + 1)).all prn = true from by
            rw [List.take_add_one, HAT.out, List.all_append, HA.out]
            simp only [Option.toList, List.all_cons, List.all_nil, Bool.and_true, Bool.true_and]
            unfold prn
            rw [← HY.out, decide_eq_true v.1, decide_eq_true v.2]
            rfl)
          clear v HA
          gi_wp2
          go_roundw
          case rel => exact ⟨j + 1, by omega, by go_num, HN, by first | rfl | trivial⟩
          case measure => simp [intOf]; omega
        · have r1 : ((y : Int) < 33) = True := eq_true (by omega)
          have HBAD := hide (HSTOP.out (HSP.out (by
            unfold okW
            rw [List.all_eq_false.2 ⟨c, List.mem_of_getElem? HAT.out, by unfold prn; rw [← HY.out, decide_eq_false (by omega)]; simp⟩, Bool.and_false])))
          clear v HA HSTOP
          gi_wp2
          exact HBAD.out
        · have r1 : ((y : Int) < 33) = False := eq_false (by omega)
          have r2 : ((126 : Int) < (y : Int)) = True := eq_true (by omega)
          have HBAD := hide (HSTOP.out (HSP.out (by
            unfold okW
            rw [List.all_eq_false.2 ⟨c, List.mem_of_getElem? HAT.out, by unfold prn; rw [← HY.out, decide_eq_false (show ¬ y ≤ 126 by omega), Bool.and_false]; simp⟩, Bool.and_false])))
          clear v HA HSTOP
          gi_wp2
          exact HBAD.out
      · have hki : ((j : Int) < (x.size : Int)) = False := eq_false (by omega)
        have HAL := hide (show okW X = true from by
          have h1 := HA.out
          rw [List.take_of_length_le (by omega)] at h1
          unfold okW
          rw [h1, Bool.and_true]
          simp only [Bool.not_eq_true', List.isEmpty_eq_false_iff]
          exact H0.out)
        clear hlt HA HSTOP HSP
        have hwk : k < 70000 := by omega
        gi_wp2_with (gi_at_builtin; refine in_append _ rfl (.tmp 31) (.tmp 33) 34 rfl w4.heap.size 9 i0 (.string ⟨#[]⟩) 1 16 Tryz.underlying34 hi0 hz0 hz1 hz2 rfl (by decide) _ _ _ rfl (HO.out.alloc _) ⟨wr.heap.size, 0, none⟩ 1 1 [.string x] rfl rfl (World.news_of_block (cs := #[.string x]) (t := 9) (fr := (0, 0)) (heap_alloc_new wr _)) (by simp [Value.oneCell']) (by omega) (by simp only [maxLen]; omega) (by omega) (by simp; omega) ?_; intro g2 cap2 w2 hown2 hg2 hat2 hlt2; have hblk := fun b (hb : b < w4.heap.size) => (hg2.block b (by simp; omega) (owns_ne HO.out (by omega))).trans (Below.heap_alloc _ _ _ (show b < wr.heap.size by omega)); have c4 := (World.cell?_of_block (a := ⟨w.heap.size + 1 + 1, 0, none⟩) (hblk _ (by simp; omega))).trans c2; have f4 := (World.frozen?_of_block (a := ⟨w.heap.size + 1 + 1, 0, none⟩) (hblk _ (by simp; omega))).trans f2; have HBk := hide hblk; have HO2 := hide hown2; have HG2 := hide hg2; have HA2 := hide hat2; clear hblk hown2 hg2 hat2)
        refine ⟨OwnOf (.slice (some ⟨g2, 0, none⟩) (k + 1) cap2), upd_append (w1 := wr.alloc (.cells #[.string x] 9)) (by omega) ((Upd.refl _ _ _).alloc _) HG2.out HA2.out, fun b hb => (Below.heap_setCell _ _ _ _ (by simp; omega)).trans (HBk.out b (by omega)),
          .slice (some ⟨g2, 0, none⟩) (k + 1) cap2, rfl, wset_off ((HBk.out _ (by omega)).trans E0.out) (by omega) _, wset_off ((HBk.out _ (by omega)).trans E1.out) (by omega) _, Boxed.set _ ((HBk.out _ (by omega)).trans E2.out), ?_, ?_, ?_⟩
        · rw [words_take hk, wcells_snoc, ← HX.out, ← HX2.out]
          exact owns_stay HO2.out (fun r hr => Below.heap_setCell _ _ _ _ (by have := (HO2.out.lt r hr).1; simp; omega))
        · rw [words_take hk, List.all_append, HOK.out, ← HX.out]
          simp [HAL.out]
        · exact ((HB.out.alloc HB.out.size _).grown HG2.out (by simp; omega) (owns_ge HO.out (by omega))).setCell (p := ⟨w.heap.size + 1 + 1, 0, none⟩) (by simp; omega) _
open Go.RowKit Go.KP Go.KI Go.Shelf
attribute [local go_sem] Oper.semAt_some

theorem ext_mid (s : ByteArray) (k i : Nat) : s.extract k i = strB ((s.data.toList.drop k).take (i - k)) := by
  apply bytes_eq
  rw [strB_list, ByteArray.data_extract, Array.toList_extract]
def PassW (w : World) (l : List UInt8) (v : Value) (P : List (List UInt8)) (k i : Nat) (wr : World) : Prop :=
  wr.ownsRow w.heap.size 9 1 v P.length (wcells P) ∧ Below w.heap.size w wr ∧ (Pass l P k i ∨ (i = l.length + 1 ∧ P = wordsL l ∧ (wordsL l).all okW = true))
theorem m7Words_any (s : ByteArray) (hs : s.size ≤ 1000000) (w : World) :
    Calls Tryz.prog 20 #[.string s] w (WordsAt w s.data.toList) := by
  obtain ⟨l, hl⟩ : ∃ l, l = s.data.toList := ⟨_, rfl⟩
  have hll : l.length = s.size := by rw [hl, bytes_len]
  rw [← hl]
  by_cases h4 : 65536 < s.size
  · have HE := hide (wordsE_long (l := l) (by omega))
    have g : (65536 : Int) < (s.size : Int) := by omega
    clear hl hll hs h4
    go_enter Tryz.func20, Tryz.ntmps20
    go_wp2_with fail
    refine bodyPost_ret (results_tmp2 rfl _ _ _) rfl ?_
    exact words_fail4 HE.out (Below.refl _ _)
  have g4 : ((65536 : Int) < (s.size : Int)) = False := eq_false (by omega)
  have h4l : ¬ 65536 < l.length := by omega
  by_cases h0 : s.size = 0
  · have hnil : l = [] := List.length_eq_zero_iff.1 (by omega)
    have he : (s.toList == []) = true := by rw [ByteArray.toList_eq, ← hl, hnil]; rfl
    have he2 : (s.toList != []) = false := by simp only [bne, he]; rfl
    have HE := hide (wordsE_ok (l := l) h4l (by rw [hnil]; rfl))
    have HN := hide hnil
    have gi : (0 : Int) ≤ (s.size : Int) := by omega
    have gz : s.size = 0 := h0
    clear hl hll hs h4 h4l hnil h0
    go_enter Tryz.func20, Tryz.ntmps20
    go_wp2_with fail
    go_loopw [4, 5, 6] (fun out fr i wr => out = .slice none 0 0 ∧ fr = .int .i64 0 ∧ i = .int .i64 0 ∧ wr = w) (fun _ _ _ _ => 0)
    case atStart => exact ⟨rfl, rfl, rfl, by first | rfl | trivial⟩
    case round =>
      obtain ⟨rfl, rfl, rfl, rfl⟩ := hrel
      go_wp2_with fail
      refine bodyPost_ret (results_tmp2 rfl _ _ _) rfl ?_
      refine words_ret (base := 0) (e := 9) HE.out ?_ (Below.refl _ _)
      rw [HN.out]
      exact World.ownsRow_nil _ _ _ _
  have he : (s.toList == []) = false := by
    rw [ByteArray.toList_eq, ← hl]
    exact beq_false_of_ne fun e => h0 (by rw [← hll, e]; rfl)
  have he2 : (s.toList != []) = true := by simp only [bne, he]; rfl
  have HLN := hide (show l ≠ [] from fun e => h0 (by rw [← hll, e]; rfl))
  have HL := hide hl
  have HLL := hide hll
  have H4 := hide h4l
  have hsz : s.size ≤ 65536 := by omega
  obtain ⟨i0, hi0, hz0, hz1, hz2⟩ := info_parts info9
  clear hl hll hs h4 h4l h0
  go_enter Tryz.func20, Tryz.ntmps20
  go_wp2_with fail
  go_loopw [4, 5, 6] (fun out fr i wr => ∃ (va : Option Addr) (vc : Nat) (P : List (List UInt8)) (k j : Nat), out = .slice va P.length vc ∧ fr = .int .i64 k ∧ i = .int .i64 j ∧ k ≤ j ∧ j ≤ s.size + 1 ∧ Hid (PassW w l (.slice va P.length vc) P k j wr)) (fun _ _ i _ => s.size + 1 - (intOf i).toNat)
  case atStart => exact ⟨none, 0, [], 0, 0, rfl, rfl, rfl, by omega, by omega, World.ownsRow_nil _ _ _ _, Below.refl _ _, .inl (Pass.start l)⟩
  case round =>
    obtain ⟨va, vc, P, k, j, rfl, rfl, rfl, hkj, hj, hin⟩ := hrel
    have IN := hide hin.out
    clear hin
    have hj0 : (0 : Int) ≤ (j : Int) := by omega
    have hk0 : (0 : Int) ≤ (k : Int) := by omega
    by_cases hend : j = s.size + 1
    · have q0 : ((j : Int) ≤ (s.size : Int)) = False := eq_false (by omega)
      have HF := hide (show P = wordsL l ∧ (wordsL l).all okW = true from by
        rcases IN.out.2.2 with h | h
        · have := h.len; have := HLL.out; omega
        · exact h.2)
      clear hend
      go_wp2_with fail
      refine bodyPost_ret (results_tmp2 rfl _ _ _) rfl ?_
      refine words_ret (base := w.heap.size) (e := 9) (wordsE_ok H4.out HF.out.2) ?_ IN.out.2.1
      rw [← HF.out.1]
      exact IN.out.1
    have q0 : (j : Int) ≤ (s.size : Int) := by omega
    have HP := hide (show Pass l P k j from by
      rcases IN.out.2.2 with h | h
      · exact h
      · have := h.1; have := HLL.out; omega)
    have HOW := hide IN.out.1
    have HBW := hide IN.out.2.1
    have hPl : P.length ≤ 65537 := by have := HP.out.count; have := HLL.out; omega
    clear IN
    by_cases hlt : j < s.size
    · have q1 : (j : Int) < (s.size : Int) := by omega
      obtain ⟨c, hc⟩ : ∃ c, s[j]'hlt = c := ⟨_, rfl⟩
      have hat : l[j]? = some c := by
        have h3 : s.data.toList[j]? = some s.data[j] := by simp
        rw [HL.out, h3]
        exact congrArg some hc
      obtain ⟨y, hyv⟩ : ∃ y : Nat, y = c.toNat := ⟨_, rfl⟩
      have hyv2 : (s[j]'hlt).toNat = y := by rw [hc, hyv]
      have HAT := hide hat
      have HY := hide hyv
      clear hat hc hyv
      rcases (show (33 ≤ y ∧ y ≤ 126) ∨ (y < 32 ∨ 126 < y) ∨ y = 32 by omega) with v | v | v
      · have r1 : (33 : Int) ≤ (y : Int) := by omega
        have r2 : (y : Int) ≤ 126 := by omega
        have HN := hide (HP.out.step HAT.out (by unfold prn; rw [← HY.out, decide_eq_true v.1, decide_eq_true v.2]; rfl))
        clear v HP
        go_wp2_with fail
        go_roundw
        case rel => exact ⟨va, vc, P, k, j + 1, rfl, rfl, by go_num, by omega, by omega, HOW.out, HBW.out, .inl HN.out⟩
        case measure => simp [intOf]; omega
      · have HE := hide (wordsE_bad H4.out (HP.out.bad HAT.out (by unfold prn; rw [← HY.out]; rcases v with v | v; rw [decide_eq_false (by omega)]; rfl; rw [decide_eq_false (show ¬ y ≤ 126 by omega), Bool.and_false]) (fun e => by have := HY.out; rw [e] at this; have e2 : (32 : UInt8).toNat = 32 := rfl; omega)))
        have r0 : ((y : Int) == 32) = false := by simp only [beq_eq_false_iff_ne, ne_eq]; omega
        have r00 : ((y : Int) != 32) = true := by simp only [bne, r0]; rfl
        rcases v with v | v
        · have r1 : ((33 : Int) ≤ (y : Int)) = False := eq_false (by omega)
          clear v HP
          go_wp2_with fail
          refine bodyPost_ret (results_tmp2 rfl _ _ _) rfl ?_
          exact words_fail3 HE.out HBW.out
        · have r1 : (33 : Int) ≤ (y : Int) := by omega
          have r2 : ((y : Int) ≤ 126) = False := eq_false (by omega)
          clear v HP
          go_wp2_with fail
          refine bodyPost_ret (results_tmp2 rfl _ _ _) rfl ?_
          exact words_fail3 HE.out HBW.out
      · have hc32 : l[j]? = some 32 := by
          rw [HAT.out]
          congr 1
          apply UInt8.toNat_inj.1
          rw [← HY.out, v]
          rfl
        have HC32 := hide hc32
        subst v
        clear hc32
        by_cases hjk : j = k
        · have HE := hide (wordsE_bad H4.out (by
            have h := HP.out
            rw [hjk] at h
            exact h.hole (by rw [← hjk]; exact HC32.out)))
          have r3 : ((j : Int) == (k : Int)) = true := by rw [hjk]; exact beq_self_eq_true _
          clear hjk HP
          go_wp2_with fail
          refine bodyPost_ret (results_tmp2 rfl _ _ _) rfl ?_
          exact words_fail3 HE.out HBW.out
        · have r3 : ((j : Int) == (k : Int)) = false := by simp only [beq_eq_false_iff_ne, ne_eq]; omega
          have hkl : k < j := by omega
          have HN := hide (HP.out.word HC32.out hkl)
          have r4 : (k : Int) ≤ (j : Int) := by omega
          have r5 : j ≤ s.size := by omega
          obtain ⟨X, hX⟩ : ∃ X, X = s.extract k j := ⟨_, rfl⟩
          have HX := hide (show X = strB ((l.drop k).take (j - k)) by rw [hX, ext_mid, HL.out])
          have hX2 : s.extract k j = X := hX.symm
          have HOW2 := hide (HOW.out.alloc (.cells #[.string X] 9))
          have HNW := hide (show ∀ j u, ([.string X] : List Value)[j]? = some u → (wr.alloc (.cells #[.string X] 9)).cell? ((⟨wr.heap.size, 0, none⟩ : Addr).add j) = some u from World.news_of_block (cs := #[.string X]) (t := 9) (fr := (0, 0)) (heap_alloc_new wr _))
          clear hjk hX HP
          go_wp2_with (at_builtin; go_must (refine wpList_append_own _ rfl (.tmp 51) (.tmp 56) 34 rfl w.heap.size 9 i0 _ 1 16 Tryz.underlying34 hi0 hz0 hz1 hz2 rfl (by decide) (.slice va P.length vc) _ _ rfl HOW2.out ⟨wr.heap.size, 0, none⟩ 1 1 [.string X] rfl rfl HNW.out (by simp [Value.oneCell']) (by simp only [maxLen]; omega) (by omega) (by have := HBW.out.size; simp; omega) ?_); intro v1 w5 hown hg1 hiff; clear hiff; obtain ⟨a6, c6, hv6⟩ := owns_form hown; subst hv6; have HOW5 := hide hown; have HGR := hide hg1; clear hown hg1)
          go_roundw
          case rel =>
            refine ⟨a6, c6, P ++ [(l.drop k).take (j - k)], j + 1, j + 1, ?_, by go_num, by go_num, by omega, by omega, ?_⟩
            · rw [List.length_append]; rfl
            · refine ⟨?_, (HBW.out.alloc HBW.out.size _).grown HGR.out (by have := HBW.out.size; simp; omega) (owns_ge HOW.out (Nat.le_refl _)), .inl HN.out⟩
              rw [wcells_snoc, ← HX.out, List.length_append]
              exact HOW5.out
          case measure => simp [intOf]; omega
    · have hje : j = s.size := by omega
      have q1 : ((j : Int) < (s.size : Int)) = False := eq_false (by omega)
      by_cases hjk : j = k
      · have HE := hide (wordsE_bad H4.out (by
          have h := HP.out
          rw [← hjk, show j = l.length by rw [HLL.out]; exact hje] at h
          exact h.holeEnd HLN.out))
        have r3 : ((j : Int) == (k : Int)) = true := by rw [hjk]; exact beq_self_eq_true _
        clear hjk HP hje
        go_wp2_with fail
        refine bodyPost_ret (results_tmp2 rfl _ _ _) rfl ?_
        exact words_fail3 HE.out HBW.out
      · have r3 : ((j : Int) == (k : Int)) = false := by simp only [beq_eq_false_iff_ne, ne_eq]; omega
        have hjl : j = l.length := by rw [HLL.out]; exact hje
        have HN := hide (show wordsL l = P ++ [(l.drop k).take (j - k)] ∧ (wordsL l).all okW = true from by
          have h := HP.out
          rw [hjl] at h hjk ⊢
          exact h.last (by have := h.le; omega))
        have r4 : (k : Int) ≤ (j : Int) := by omega
        have r5 : j ≤ s.size := by omega
        obtain ⟨X, hX⟩ : ∃ X, X = s.extract k j := ⟨_, rfl⟩
        have HX := hide (show X = strB ((l.drop k).take (j - k)) by rw [hX, ext_mid, HL.out])
        have hX2 : s.extract k j = X := hX.symm
        have HOW2 := hide (HOW.out.alloc (.cells #[.string X] 9))
        have HNW := hide (show ∀ j u, ([.string X] : List Value)[j]? = some u → (wr.alloc (.cells #[.string X] 9)).cell? ((⟨wr.heap.size, 0, none⟩ : Addr).add j) = some u from World.news_of_block (cs := #[.string X]) (t := 9) (fr := (0, 0)) (heap_alloc_new wr _))
        have HJL := hide hjl
        have hlt2 : j < s.size + 1 := by omega
        clear hjk hX HP hje hjl hlt
        go_wp2_with (at_builtin; go_must (refine wpList_append_own _ rfl (.tmp 51) (.tmp 56) 34 rfl w.heap.size 9 i0 _ 1 16 Tryz.underlying34 hi0 hz0 hz1 hz2 rfl (by decide) (.slice va P.length vc) _ _ rfl HOW2.out ⟨wr.heap.size, 0, none⟩ 1 1 [.string X] rfl rfl HNW.out (by simp [Value.oneCell']) (by simp only [maxLen]; omega) (by omega) (by have := HBW.out.size; simp; omega) ?_); intro v1 w5 hown hg1 hiff; clear hiff; obtain ⟨a6, c6, hv6⟩ := owns_form hown; subst hv6; have HOW5 := hide hown; have HGR := hide hg1; clear hown hg1)
        go_roundw
        case rel =>
          refine ⟨a6, c6, P ++ [(l.drop k).take (j - k)], j + 1, j + 1, ?_, by go_num, by go_num, by omega, by omega, ?_⟩
          · rw [List.length_append]; rfl
          · refine ⟨?_, (HBW.out.alloc HBW.out.size _).grown HGR.out (by have := HBW.out.size; simp; omega) (owns_ge HOW.out (Nat.le_refl _)), .inr ⟨by rw [HJL.out], HN.out.1.symm, HN.out.2⟩⟩
            rw [wcells_snoc, ← HX.out, List.length_append]
            exact HOW5.out
        case measure => simp [intOf]; omega
end Go.Proofs.YtfcjaljaomknjaaGreatDoor
