/-
  Texts laid together.
-/
import Derived.Test.YtfcjaljaomknjaaGreatDoorMF14
import Derived.Test.YtfcjaljaomknjaaGreatDoorMF3
import Derived.Test.YtfcjaljaomknjaaGreatDoorMF4
import Derived.Test.YtfcjaljaomknjaaGreatDoorMF9
import Derived.Test.YtfcjaljaomknjaaGreatDoorMF2
import Derived.Test.YtfcjaljaomknjaaGreatDoorMF11
import Derived.Test.YtfcjaljaomknjaaGreatDoorMF13
import Derived.Test.YtfcjaljaomknjaaGreatDoorMF5
import Derived.Lib.MinMax
set_option maxRecDepth 100000
set_option maxHeartbeats 16000000
namespace Go.Proofs.YtfcjaljaomknjaaGreatDoor
open Go.RowKit Go.KP Go.KI Go.Shelf
attribute [local go_sem] Oper.semAt_some

theorem iB_short {z : Int} (h : (iB z).size ≤ 18) : z.natAbs < 1000000000000000000 := by
  rw [← bytes_len, iB_list] at h
  refine (dec_len_le (n := 18) (by omega)).1 ?_
  rcases itoa_cases z with ⟨_, a⟩ | ⟨_, a⟩
  · rw [a, List.length_cons] at h; omega
  · rw [a] at h; exact h
theorem iB_dv {z : Int} (h : 0 ≤ z) : dv (iB z).data.toList = z.natAbs ∧ ∀ c ∈ (iB z).data.toList, isDg c = true := by
  rw [iB_nonneg h]
  exact ⟨dv_decDigits _, decDigits_dg _⟩
theorem make_text {n d : Int} (hd : 0 < d) : (d / (Nat.gcd n.natAbs d.natAbs : Nat) = 1 → iB (n / (Nat.gcd n.natAbs d.natAbs : Nat)) = T (Rat.divInt n d)) ∧
    (d / (Nat.gcd n.natAbs d.natAbs : Nat) ≠ 1 → iB (n / (Nat.gcd n.natAbs d.natAbs : Nat)) ++ ⟨#[47]⟩ ++ iB (d / (Nat.gcd n.natAbs d.natAbs : Nat)) = T (Rat.divInt n d)) := by
  have h := ratS_of (n := n) hd
  constructor
  · intro h1
    rw [if_pos h1] at h
    apply bytes_eq
    rw [iB_list, T_list, h]
  · intro h1
    rw [if_neg h1] at h
    apply bytes_eq
    rw [T_list, h]
    simp [iB, strB]
structure MakeOk (n d : Int) : Prop where
  pos : 0 < d
  fn : fits n
  fd : fits d
theorem r2make_any {n d : Int} (hd : d ≠ 0) (fn : fits n) (fd : fits d) (B : Nat) (w : World) (hB : B ≤ w.heap.size) (hT : P10 B w) :
    Calls Tryz.prog 93 #[.string (iB n), .string (iB d)] w (Ret w (.tuple #[.string (T (Rat.divInt n d)), .int .i64 0])) := by
  have HT := hide hT
  obtain ⟨n', d', hpos, fn', fd', hX, hst⟩ : ∃ n' d' : Int, 0 < d' ∧ fits n' ∧ fits d' ∧ Rat.divInt n d = Rat.divInt n' d' ∧ ((n' = n ∧ d' = d ∧ ¬ d < 0) ∨ (d < 0 ∧ d' = -d ∧ n' = -n)) := by
    by_cases h : d < 0
    · exact ⟨-n, -d, by omega, fits_of_le fn (by omega), fits_of_le fd (by omega), (Rat.divInt_eq_divInt_iff hd (by omega)).2 (by rw [Int.mul_neg, Int.neg_mul]), .inr ⟨h, rfl, rfl⟩⟩
    · exact ⟨n, d, by omega, fn, fd, rfl, .inl ⟨rfl, rfl, h⟩⟩
  rw [hX]
  clear hX
  obtain ⟨hn0, ehn⟩ := iB_head n
  obtain ⟨hd0, ehd⟩ := iB_head d
  have zn := iB_zero_test n
  have hszN := iB_size fn
  have hszD := iB_size fd
  have hpn : (0 : Int) < ((iB n).size : Int) := by omega
  have hpd : (0 : Int) < ((iB d).size : Int) := by omega
  have hpn1 : (1 : Int) ≤ ((iB n).size : Int) := by omega
  have hpd1 : (1 : Int) ≤ ((iB d).size : Int) := by omega
  have hcat : (9223372036854775807 < 1 + (iB n).size) = False := eq_false (by omega)
  have hcases : (((((iB d)[0]'hd0).toNat : Nat) : Int) == 45) = false ∧ iB n = iB n' ∧ iB d = iB d' ∨
      ((((((iB d)[0]'hd0).toNat : Nat) : Int) == 45) = true ∧ (iB d).extract 1 (iB d).size = iB d' ∧
        ((((((iB n)[0]'hn0).toNat : Nat) : Int) == 45) = true ∧ (iB n).extract 1 (iB n).size = iB n' ∨
         ((((((iB n)[0]'hn0).toNat : Nat) : Int) == 45) = false ∧ (((iB n).toList == [48]) = true ∧ iB n = iB n' ∨ ((iB n).toList == [48]) = false ∧ (⟨#[45]⟩ : ByteArray) ++ iB n = iB n')))) := by
    rcases hst with ⟨rfl, rfl, h⟩ | ⟨h, rfl, rfl⟩
    · exact .inl ⟨by rw [ehd, decide_eq_false h], rfl, rfl⟩
    · refine .inr ⟨by rw [ehd, decide_eq_true h], iB_neg_drop h, ?_⟩
      by_cases hn : n < 0
      · exact .inl ⟨by rw [ehn, decide_eq_true hn], iB_neg_drop hn⟩
      · refine .inr ⟨by rw [ehn, decide_eq_false hn], ?_⟩
        by_cases hz : n = 0
        · exact .inl ⟨by rw [zn, decide_eq_true hz], by rw [hz]; rfl⟩
        · exact .inr ⟨by rw [zn, decide_eq_false hz], iB_pos_neg (by omega)⟩
  clear hst ehn ehd zn fn fd hd
  obtain ⟨hn2, ehn2⟩ := iB_head n'
  have hs1 := iB_size fn'
  have hs2 := iB_size fd'
  have hq1 : (1 : Int) ≤ ((iB n').size : Int) := by omega
  have hq0 : (0 : Int) < ((iB n').size : Int) := by omega
  have hway : (((iB n').size : Int) ≤ 18 ∧ ((iB d').size : Int) ≤ 18) ∨ (((iB n').size : Int) ≤ 18 ∧ (((iB d').size : Int) ≤ 18) = False) ∨ (((iB n').size : Int) ≤ 18) = False := by
    by_cases a : (iB n').size ≤ 18
    · by_cases b : (iB d').size ≤ 18
      · exact .inl ⟨by omega, by omega⟩
      · exact .inr (.inl ⟨by omega, eq_false (by omega)⟩)
    · exact .inr (.inr (eq_false (by omega)))
  have HQ := hide (fun (h1 : ((iB n').size : Int) ≤ 18) (h2 : ((iB d').size : Int) ≤ 18) => show ∃ (u v : Nat), (u : Int) < 1000000000000000000 ∧ (d' = (v : Int)) ∧ (0 ≤ n' → n' = (u : Int)) ∧ (n' < 0 → n' = -(u : Int)) ∧
      (∀ w, Calls Tryz.prog 128 #[.string (iB d')] w (Ret w (.int .i64 v))) ∧
      (0 ≤ n' → ∀ w, Calls Tryz.prog 128 #[.string (iB n')] w (Ret w (.int .i64 u))) ∧
      (n' < 0 → ∀ w, Calls Tryz.prog 128 #[.string (iB (-n'))] w (Ret w (.int .i64 u))) ∧
      (∀ w, Calls Tryz.prog 90 #[.int .i64 n', .int .i64 v] w (Ret w (.string (T (Rat.divInt n' d'))))) from by
    have b1 := iB_short (z := n') (by omega)
    have b2 := iB_short (z := d') (by omega)
    refine ⟨n'.natAbs, d'.natAbs, by omega, by omega, fun _ => by omega, fun _ => by omega, ?_, ?_, ?_, ?_⟩
    · intro w
      have e := iB_dv (z := d') (by omega)
      have h := r2small_any (iB d') e.2 (by omega) w
      rw [e.1] at h
      exact h
    · intro h0 w
      have e := iB_dv (z := n') h0
      have h := r2small_any (iB n') e.2 (by omega) w
      rw [e.1] at h
      exact h
    · intro h0 w
      have e := iB_dv (z := -n') (by omega)
      have l : (iB (-n')).size ≤ 18 := by
        have e2 := congrArg ByteArray.size (iB_neg_drop h0)
        rw [ByteArray.size_extract] at e2
        omega
      have h := r2small_any (iB (-n')) e.2 l w
      rw [e.1, Int.natAbs_neg] at h
      exact h
    · intro w
      have h := r2quick_any n' d'.natAbs (by omega) (by omega) (by omega) w
      rw [show ((d'.natAbs : Nat) : Int) = d' by omega] at h
      rw [show ((d'.natAbs : Nat) : Int) = d' by omega]
      exact h)
  obtain ⟨g, hg⟩ : ∃ g, g = Nat.gcd n'.natAbs d'.natAbs := ⟨_, rfl⟩
  have hgp : 0 < g := by rw [hg]; exact Nat.gcd_pos_of_pos_right _ (by omega)
  have hgd : g ≤ d'.natAbs := by rw [hg]; exact Nat.gcd_le_right _ (by omega)
  have fg : fits ((g : Nat) : Int) := fits_of_le fd' (by omega)
  have HG := hide (fun w hB hT => rGcd_I fn' fd' B w hB hT)
  have HV1 := hide (fun w hB hT => rDivide_I fn' fg (by omega) B w hB hT)
  have HV2 := hide (fun w hB hT => rDivide_I fd' fg (by omega) B w hB hT)
  rw [← hg] at HG
  have mt := make_text (n := n') hpos
  rw [← hg] at mt
  have fN1 : fits (n' / (g : Int)) := fits_of_le fn' (by
    rw [Int.natAbs_ediv_of_dvd (by rw [hg]; exact Int.ofNat_dvd_left.2 (Nat.gcd_dvd_left _ _)), Int.natAbs_natCast]
    exact Nat.div_le_self _ _)
  have fD1 : fits (d' / (g : Int)) := fits_of_le fd' (by
    rw [Int.natAbs_ediv_of_dvd (by rw [hg]; exact Int.ofNat_dvd_left.2 (Nat.gcd_dvd_right _ _)), Int.natAbs_natCast]
    exact Nat.div_le_self _ _)
  obtain ⟨N1, hN1⟩ : ∃ x, x = n' / (g : Int) := ⟨_, rfl⟩
  obtain ⟨D1, hD1⟩ : ∃ x, x = d' / (g : Int) := ⟨_, rfl⟩
  obtain ⟨R1, hR1⟩ : ∃ x, x = iB (n' % (g : Int)) := ⟨_, rfl⟩
  obtain ⟨R2, hR2⟩ : ∃ x, x = iB (d' % (g : Int)) := ⟨_, rfl⟩
  have hD1p : 0 ≤ D1 := by rw [hD1]; exact Int.ediv_nonneg (by omega) (by omega)
  rw [← hN1] at HV1 fN1 mt
  rw [← hD1] at HV2 fD1 mt
  rw [← hR1] at HV1
  rw [← hR2] at HV2
  obtain ⟨hn3, ehn3⟩ := iB_head N1
  have s1 := iB_size fN1
  have s1p : (0 : Int) < ((iB N1).size : Int) := by omega
  have s1q : (1 : Int) ≤ ((iB N1).size : Int) := by omega
  have s2 : (iB D1).size ≤ 300 := by
    rw [← bytes_len, iB_nonneg hD1p]
    exact fits_len.1 fD1
  have s2i : ((300 : Int) < ((iB D1).size : Int)) = False := eq_false (by omega)
  have s2n : (300 < (iB D1).size) = False := eq_false (by omega)
  have hM : (((((iB N1)[0]'hn3).toNat : Nat) : Int) == 45) = false ∧ ((300 : Int) < ((iB N1).size : Int)) = False ∨ (((((iB N1)[0]'hn3).toNat : Nat) : Int) == 45) = true ∧ ∃ M : ByteArray, (iB N1).extract 1 (iB N1).size = M ∧ ((300 : Int) < (M.size : Int)) = False := by
    by_cases h : N1 < 0
    · refine .inr ⟨by rw [ehn3, decide_eq_true h], _, iB_neg_drop h, eq_false ?_⟩
      have := fits_len.1 fN1
      have e : (iB (-N1)).size = (Lib.decDigits N1.natAbs).length := by rw [← bytes_len, iB_nonneg (by omega), Int.natAbs_neg]
      omega
    · refine .inl ⟨by rw [ehn3, decide_eq_false h], eq_false ?_⟩
      have := fits_len.1 fN1
      have e : (iB N1).size = (Lib.decDigits N1.natAbs).length := by rw [← bytes_len, iB_nonneg (by omega)]
      omega
  have hE : ((iB D1).toList == [49]) = true ∧ iB N1 = T (Rat.divInt n' d') ∨ ((iB D1).toList == [49]) = false ∧ iB N1 ++ ⟨#[47]⟩ ++ iB D1 = T (Rat.divInt n' d') := by
    rw [iB_one_test]
    by_cases h : D1 = 1
    · exact .inl ⟨decide_eq_true h, mt.1 h⟩
    · exact .inr ⟨decide_eq_false h, mt.2 h⟩
  have c1 : (9223372036854775807 < (iB N1).size + 1) = False := eq_false (by omega)
  have c2 : (9223372036854775807 < (iB N1).size + 1 + (iB D1).size) = False := eq_false (by omega)
  have HM := hide hM
  have HE := hide hE
  have hsg : (((((iB n')[0]'hn2).toNat : Nat) : Int) == 45) = true ∧ n' < 0 ∧ (iB n').extract 1 (iB n').size = iB (-n') ∨ (((((iB n')[0]'hn2).toNat : Nat) : Int) == 45) = false ∧ 0 ≤ n' := by
    by_cases h : n' < 0
    · exact .inl ⟨by rw [ehn2, decide_eq_true h], h, iB_neg_drop h⟩
    · exact .inr ⟨by rw [ehn2, decide_eq_false h], by omega⟩
  obtain ⟨X, hX⟩ : ∃ X, X = T (Rat.divInt n' d') := ⟨_, rfl⟩
  rw [← hX] at HQ HE ⊢
  obtain ⟨GB, hGB⟩ : ∃ X, X = iB ((g : Nat) : Int) := ⟨_, rfl⟩
  rw [← hGB] at HG HV1 HV2
  obtain ⟨NB, hNB⟩ : ∃ X, X = iB N1 := ⟨_, rfl⟩
  obtain ⟨DB, hDB⟩ : ∃ X, X = iB D1 := ⟨_, rfl⟩
  clear hM hE mt fN1 fD1 ehn3 ehn2 hN1 hD1 hR1 hR2 hD1p hg hgp hgd fg hX hGB hT s2 fn' fd' hs1 hs2
  subst hNB
  subst hDB
  generalize iB n = NN at hn0 hpn hpn1 hcat hszN hcases ⊢
  generalize iB d = DD at hd0 hpd hpd1 hszD hcases ⊢
  generalize iB (-n') = N3 at hsg HQ
  generalize iB n' = N2 at hn2 hq1 hq0 hcases hsg hway HQ HG HV1
  generalize iB d' = D2 at hcases hway HQ HG HV2
  rcases hcases with ⟨z1, rfl, rfl⟩ | ⟨z1, e2, ⟨z2, e1⟩ | ⟨z2, ⟨z3, rfl⟩ | ⟨z3, e1⟩⟩⟩
  case inl =>
    rcases hway with ⟨a1, a2⟩ | ⟨a1, a2⟩ | a1
    · obtain ⟨u, v, hu, hv, hp, hm, HS2, HS1, HS3, HQQ⟩ := HQ.out a1 a2
      have HU2 := hide HS2
      rcases hsg with ⟨s1, hneg, e3⟩ | ⟨s1, hnn⟩
      · have hn' := hm hneg
        have HU1 := hide (HS3 hneg)
        have HU3 := hide HQQ
        rw [hn'] at HU3
        clear HQ HG HV1 HV2 HM HE hv hp hm HS2 HS1 HS3 HQQ hn' hneg c1 c2 s2i s2n s1p s1q
        go_enter Tryz.func93, Tryz.ntmps93
        go_wp2_with fail
        refine (HU1.out _).mono ?_
        rintro e w1 ⟨rfl, hb1⟩
        have HB1 := hide hb1
        clear hb1
        go_wp2_with fail
        refine (HU2.out _).mono ?_
        rintro e w2 ⟨rfl, hb2⟩
        have HB2 := hide (HB1.out.trans (hb2.mono HB1.out.size))
        clear hb2
        go_wp2_with fail
        refine (HU3.out _).mono ?_
        rintro e w3 ⟨rfl, hb3⟩
        have HB3 := hide (HB2.out.trans (hb3.mono HB2.out.size))
        clear hb3
        go_wp2_with fail
        refine bodyPost_ret (results_tmp2 rfl _ _ _) rfl ?_
        exact ⟨rfl, HB3.out⟩
      · have hn' := hp hnn
        have HU1 := hide (HS1 hnn)
        have HU3 := hide HQQ
        rw [hn'] at HU3
        clear HQ HG HV1 HV2 HM HE hv hp hm HS2 HS1 HS3 HQQ hn' hnn c1 c2 s2i s2n s1p s1q
        go_enter Tryz.func93, Tryz.ntmps93
        go_wp2_with fail
        refine (HU1.out _).mono ?_
        rintro e w1 ⟨rfl, hb1⟩
        have HB1 := hide hb1
        clear hb1
        go_wp2_with fail
        refine (HU2.out _).mono ?_
        rintro e w2 ⟨rfl, hb2⟩
        have HB2 := hide (HB1.out.trans (hb2.mono HB1.out.size))
        clear hb2
        go_wp2_with fail
        refine (HU3.out _).mono ?_
        rintro e w3 ⟨rfl, hb3⟩
        have HB3 := hide (HB2.out.trans (hb3.mono HB2.out.size))
        clear hb3
        go_wp2_with fail
        refine bodyPost_ret (results_tmp2 rfl _ _ _) rfl ?_
        exact ⟨rfl, HB3.out⟩
    all_goals
      clear HQ hsg
      rcases HE.out with ⟨t1, e9⟩ | ⟨t1, e9⟩ <;> rcases HM.out with ⟨m1, m2⟩ | ⟨m1, M, m3, m2⟩
      all_goals
        have E9 := hide e9
        clear e9 HE HM
        go_enter Tryz.func93, Tryz.ntmps93
        go_wp2_with fail
        refine (HG.out _ hB HT.out).mono ?_
        rintro e w1 ⟨rfl, hb1⟩
        have HB1 := hide hb1
        clear hb1
        go_wp2_with fail
        refine (HV1.out _ (Nat.le_trans hB HB1.out.size) (HT.out.on HB1.out hB)).mono ?_
        rintro e w2 ⟨rfl, hb2⟩
        have HB2 := hide (HB1.out.trans (hb2.mono HB1.out.size))
        clear hb2
        go_wp2_with fail
        refine (HV2.out _ (Nat.le_trans hB HB2.out.size) (HT.out.on HB2.out hB)).mono ?_
        rintro e w3 ⟨rfl, hb3⟩
        have HB3 := hide (HB2.out.trans (hb3.mono HB2.out.size))
        clear hb3
        go_wp2_with fail
        refine bodyPost_ret (results_tmp2 rfl _ _ _) rfl ?_
        exact ⟨by rw [← E9.out]; first | rfl | (simp; done), HB3.out⟩
  case inr.inl =>
    rcases hway with ⟨a1, a2⟩ | ⟨a1, a2⟩ | a1
    · obtain ⟨u, v, hu, hv, hp, hm, HS2, HS1, HS3, HQQ⟩ := HQ.out a1 a2
      have HU2 := hide HS2
      rcases hsg with ⟨s1, hneg, e3⟩ | ⟨s1, hnn⟩
      · have hn' := hm hneg
        have HU1 := hide (HS3 hneg)
        have HU3 := hide HQQ
        rw [hn'] at HU3
        clear HQ HG HV1 HV2 HM HE hv hp hm HS2 HS1 HS3 HQQ hn' hneg c1 c2 s2i s2n s1p s1q
        go_enter Tryz.func93, Tryz.ntmps93
        go_wp2_with fail
        refine (HU1.out _).mono ?_
        rintro e w1 ⟨rfl, hb1⟩
        have HB1 := hide hb1
        clear hb1
        go_wp2_with fail
        refine (HU2.out _).mono ?_
        rintro e w2 ⟨rfl, hb2⟩
        have HB2 := hide (HB1.out.trans (hb2.mono HB1.out.size))
        clear hb2
        go_wp2_with fail
        refine (HU3.out _).mono ?_
        rintro e w3 ⟨rfl, hb3⟩
        have HB3 := hide (HB2.out.trans (hb3.mono HB2.out.size))
        clear hb3
        go_wp2_with fail
        refine bodyPost_ret (results_tmp2 rfl _ _ _) rfl ?_
        exact ⟨rfl, HB3.out⟩
      · have hn' := hp hnn
        have HU1 := hide (HS1 hnn)
        have HU3 := hide HQQ
        rw [hn'] at HU3
        clear HQ HG HV1 HV2 HM HE hv hp hm HS2 HS1 HS3 HQQ hn' hnn c1 c2 s2i s2n s1p s1q
        go_enter Tryz.func93, Tryz.ntmps93
        go_wp2_with fail
        refine (HU1.out _).mono ?_
        rintro e w1 ⟨rfl, hb1⟩
        have HB1 := hide hb1
        clear hb1
        go_wp2_with fail
        refine (HU2.out _).mono ?_
        rintro e w2 ⟨rfl, hb2⟩
        have HB2 := hide (HB1.out.trans (hb2.mono HB1.out.size))
        clear hb2
        go_wp2_with fail
        refine (HU3.out _).mono ?_
        rintro e w3 ⟨rfl, hb3⟩
        have HB3 := hide (HB2.out.trans (hb3.mono HB2.out.size))
        clear hb3
        go_wp2_with fail
        refine bodyPost_ret (results_tmp2 rfl _ _ _) rfl ?_
        exact ⟨rfl, HB3.out⟩
    all_goals
      clear HQ hsg
      rcases HE.out with ⟨t1, e9⟩ | ⟨t1, e9⟩ <;> rcases HM.out with ⟨m1, m2⟩ | ⟨m1, M, m3, m2⟩
      all_goals
        have E9 := hide e9
        clear e9 HE HM
        go_enter Tryz.func93, Tryz.ntmps93
        go_wp2_with fail
        refine (HG.out _ hB HT.out).mono ?_
        rintro e w1 ⟨rfl, hb1⟩
        have HB1 := hide hb1
        clear hb1
        go_wp2_with fail
        refine (HV1.out _ (Nat.le_trans hB HB1.out.size) (HT.out.on HB1.out hB)).mono ?_
        rintro e w2 ⟨rfl, hb2⟩
        have HB2 := hide (HB1.out.trans (hb2.mono HB1.out.size))
        clear hb2
        go_wp2_with fail
        refine (HV2.out _ (Nat.le_trans hB HB2.out.size) (HT.out.on HB2.out hB)).mono ?_
        rintro e w3 ⟨rfl, hb3⟩
        have HB3 := hide (HB2.out.trans (hb3.mono HB2.out.size))
        clear hb3
        go_wp2_with fail
        refine bodyPost_ret (results_tmp2 rfl _ _ _) rfl ?_
        exact ⟨by rw [← E9.out]; first | rfl | (simp; done), HB3.out⟩
  case inr.inr.inl =>
    rcases hway with ⟨a1, a2⟩ | ⟨a1, a2⟩ | a1
    · obtain ⟨u, v, hu, hv, hp, hm, HS2, HS1, HS3, HQQ⟩ := HQ.out a1 a2
      have HU2 := hide HS2
      obtain ⟨s1, hnn⟩ := hsg.resolve_left (fun h => by rw [z2] at h; exact absurd h.1 (by decide))
      clear s1
      · have hn' := hp hnn
        have HU1 := hide (HS1 hnn)
        have HU3 := hide HQQ
        rw [hn'] at HU3
        clear HQ HG HV1 HV2 HM HE hv hp hm HS2 HS1 HS3 HQQ hn' hnn c1 c2 s2i s2n s1p s1q
        go_enter Tryz.func93, Tryz.ntmps93
        go_wp2_with fail
        refine (HU1.out _).mono ?_
        rintro e w1 ⟨rfl, hb1⟩
        have HB1 := hide hb1
        clear hb1
        go_wp2_with fail
        refine (HU2.out _).mono ?_
        rintro e w2 ⟨rfl, hb2⟩
        have HB2 := hide (HB1.out.trans (hb2.mono HB1.out.size))
        clear hb2
        go_wp2_with fail
        refine (HU3.out _).mono ?_
        rintro e w3 ⟨rfl, hb3⟩
        have HB3 := hide (HB2.out.trans (hb3.mono HB2.out.size))
        clear hb3
        go_wp2_with fail
        refine bodyPost_ret (results_tmp2 rfl _ _ _) rfl ?_
        exact ⟨rfl, HB3.out⟩
    all_goals
      clear HQ hsg
      rcases HE.out with ⟨t1, e9⟩ | ⟨t1, e9⟩ <;> rcases HM.out with ⟨m1, m2⟩ | ⟨m1, M, m3, m2⟩
      all_goals
        have E9 := hide e9
        clear e9 HE HM
        go_enter Tryz.func93, Tryz.ntmps93
        go_wp2_with fail
        refine (HG.out _ hB HT.out).mono ?_
        rintro e w1 ⟨rfl, hb1⟩
        have HB1 := hide hb1
        clear hb1
        go_wp2_with fail
        refine (HV1.out _ (Nat.le_trans hB HB1.out.size) (HT.out.on HB1.out hB)).mono ?_
        rintro e w2 ⟨rfl, hb2⟩
        have HB2 := hide (HB1.out.trans (hb2.mono HB1.out.size))
        clear hb2
        go_wp2_with fail
        refine (HV2.out _ (Nat.le_trans hB HB2.out.size) (HT.out.on HB2.out hB)).mono ?_
        rintro e w3 ⟨rfl, hb3⟩
        have HB3 := hide (HB2.out.trans (hb3.mono HB2.out.size))
        clear hb3
        go_wp2_with fail
        refine bodyPost_ret (results_tmp2 rfl _ _ _) rfl ?_
        exact ⟨by rw [← E9.out]; first | rfl | (simp; done), HB3.out⟩
  case inr.inr.inr =>
    rcases hway with ⟨a1, a2⟩ | ⟨a1, a2⟩ | a1
    · obtain ⟨u, v, hu, hv, hp, hm, HS2, HS1, HS3, HQQ⟩ := HQ.out a1 a2
      have HU2 := hide HS2
      rcases hsg with ⟨s1, hneg, e3⟩ | ⟨s1, hnn⟩
      · have hn' := hm hneg
        have HU1 := hide (HS3 hneg)
        have HU3 := hide HQQ
        rw [hn'] at HU3
        clear HQ HG HV1 HV2 HM HE hv hp hm HS2 HS1 HS3 HQQ hn' hneg c1 c2 s2i s2n s1p s1q
        go_enter Tryz.func93, Tryz.ntmps93
        go_wp2_with fail
        refine (HU1.out _).mono ?_
        rintro e w1 ⟨rfl, hb1⟩
        have HB1 := hide hb1
        clear hb1
        go_wp2_with fail
        refine (HU2.out _).mono ?_
        rintro e w2 ⟨rfl, hb2⟩
        have HB2 := hide (HB1.out.trans (hb2.mono HB1.out.size))
        clear hb2
        go_wp2_with fail
        refine (HU3.out _).mono ?_
        rintro e w3 ⟨rfl, hb3⟩
        have HB3 := hide (HB2.out.trans (hb3.mono HB2.out.size))
        clear hb3
        go_wp2_with fail
        refine bodyPost_ret (results_tmp2 rfl _ _ _) rfl ?_
        exact ⟨rfl, HB3.out⟩
      · have hn' := hp hnn
        have HU1 := hide (HS1 hnn)
        have HU3 := hide HQQ
        rw [hn'] at HU3
        clear HQ HG HV1 HV2 HM HE hv hp hm HS2 HS1 HS3 HQQ hn' hnn c1 c2 s2i s2n s1p s1q
        go_enter Tryz.func93, Tryz.ntmps93
        go_wp2_with fail
        refine (HU1.out _).mono ?_
        rintro e w1 ⟨rfl, hb1⟩
        have HB1 := hide hb1
        clear hb1
        go_wp2_with fail
        refine (HU2.out _).mono ?_
        rintro e w2 ⟨rfl, hb2⟩
        have HB2 := hide (HB1.out.trans (hb2.mono HB1.out.size))
        clear hb2
        go_wp2_with fail
        refine (HU3.out _).mono ?_
        rintro e w3 ⟨rfl, hb3⟩
        have HB3 := hide (HB2.out.trans (hb3.mono HB2.out.size))
        clear hb3
        go_wp2_with fail
        refine bodyPost_ret (results_tmp2 rfl _ _ _) rfl ?_
        exact ⟨rfl, HB3.out⟩
    all_goals
      clear HQ hsg
      rcases HE.out with ⟨t1, e9⟩ | ⟨t1, e9⟩ <;> rcases HM.out with ⟨m1, m2⟩ | ⟨m1, M, m3, m2⟩
      all_goals
        have E9 := hide e9
        clear e9 HE HM
        go_enter Tryz.func93, Tryz.ntmps93
        go_wp2_with fail
        refine (HG.out _ hB HT.out).mono ?_
        rintro e w1 ⟨rfl, hb1⟩
        have HB1 := hide hb1
        clear hb1
        go_wp2_with fail
        refine (HV1.out _ (Nat.le_trans hB HB1.out.size) (HT.out.on HB1.out hB)).mono ?_
        rintro e w2 ⟨rfl, hb2⟩
        have HB2 := hide (HB1.out.trans (hb2.mono HB1.out.size))
        clear hb2
        go_wp2_with fail
        refine (HV2.out _ (Nat.le_trans hB HB2.out.size) (HT.out.on HB2.out hB)).mono ?_
        rintro e w3 ⟨rfl, hb3⟩
        have HB3 := hide (HB2.out.trans (hb3.mono HB2.out.size))
        clear hb3
        go_wp2_with fail
        refine bodyPost_ret (results_tmp2 rfl _ _ _) rfl ?_
        exact ⟨by rw [← E9.out]; first | rfl | (simp; done), HB3.out⟩
end Go.Proofs.YtfcjaljaomknjaaGreatDoor
namespace Go.KI
open Go
theorem fits_neg {z : Int} (h : fits z) : fits (-z) := fits_of_le h (by omega)
theorem fitsQ_neg {q : Rat} (h : fitsQ q) : fitsQ (-q) := ⟨by rw [Rat.neg_num]; exact fits_neg h.1, by rw [Rat.neg_den]; exact h.2⟩
theorem addC_neg (x y : Rat) : addC x (-y) ↔ subC x y := by
  unfold addC subC
  rw [Rat.neg_num, Rat.neg_den, Int.neg_mul, ← Int.sub_eq_add_neg]
  constructor
  · rintro ⟨a, b, c, d⟩
    exact ⟨a, by have := fits_neg b; rwa [Int.neg_neg] at this, c, d⟩
  · rintro ⟨a, b, c, d⟩
    exact ⟨a, fits_neg b, c, d⟩
theorem prod9 {a b : Int} (ha : a.natAbs < 1000000000) (hb : b.natAbs < 1000000000) : (a * b).natAbs < 1000000000000000000 := by
  rw [Int.natAbs_mul]
  exact Nat.lt_of_lt_of_le (Nat.mul_lt_mul'' ha hb) (by decide)
theorem short_sz {q : Rat} (h : shortQ q) : sz 9 q := ⟨(shortQ_lt h).1, (shortQ_lt h).2⟩
end Go.KI
namespace Go.Proofs.YtfcjaljaomknjaaGreatDoor
open Go.RowKit Go.KP Go.KI Go.Shelf
attribute [local go_sem] Oper.semAt_some

abbrev noB : ByteArray := ⟨#[]⟩
theorem r2products_no {a b c d : Int} (fa : fits a) (fb : fits b) (fc : fits c) (fd : fits d) (h : ¬ (fits (a * b) ∧ fits (c * d))) (B : Nat) (w : World) (hB : B ≤ w.heap.size) (hT : P10 B w) :
    ∃ x y : ByteArray, Calls Tryz.prog 155 #[.string (iB a), .string (iB b), .string (iB c), .string (iB d)] w (Ret w (.tuple #[.string x, .string y, .int .i64 4])) := by
  have HT := hide hT
  have H1 := hide (fun w hB hT => rMul_I fa fb B w hB hT)
  have H2 := hide (fun w hB hT => rMul_I fc fd B w hB hT)
  obtain ⟨A, hA⟩ : ∃ x, x = iB a := ⟨_, rfl⟩
  obtain ⟨B', hB'⟩ : ∃ x, x = iB b := ⟨_, rfl⟩
  obtain ⟨C, hC⟩ : ∃ x, x = iB c := ⟨_, rfl⟩
  obtain ⟨D, hD⟩ : ∃ x, x = iB d := ⟨_, rfl⟩
  simp only [← hA, ← hB', ← hC, ← hD] at *
  clear hA hB' hC hD
  by_cases h1 : fits (a * b)
  · have h2 : ¬ fits (c * d) := fun e => h ⟨h1, e⟩
    rw [resI_yes h1] at H1
    rw [resI_no h2] at H2
    obtain ⟨X, hX⟩ : ∃ x, x = iB (a * b) := ⟨_, rfl⟩
    rw [← hX] at H1
    refine ⟨X, noB, ?_⟩
    clear hX h h1 h2 fa fb fc fd hT
    go_enter Tryz.func155, Tryz.ntmps155
    go_wp2_with fail
    refine (H1.out _ hB HT.out).mono ?_
    rintro e w1 ⟨rfl, hb1⟩
    have HB1 := hide hb1
    clear hb1
    go_wp2_with fail
    refine (H2.out _ (Nat.le_trans hB HB1.out.size) (HT.out.on HB1.out hB)).mono ?_
    rintro e w2 ⟨rfl, hb2⟩
    have HB2 := hide (HB1.out.trans (hb2.mono HB1.out.size))
    clear hb2
    go_wp2_with fail
    refine ret3v rfl rfl rfl rfl rfl ?_
    exact ⟨rfl, HB2.out⟩
  · rw [resI_no h1] at H1
    refine ⟨noB, noB, ?_⟩
    clear h h1 fa fb fc fd hT H2
    go_enter Tryz.func155, Tryz.ntmps155
    go_wp2_with fail
    refine (H1.out _ hB HT.out).mono ?_
    rintro e w1 ⟨rfl, hb1⟩
    have HB1 := hide hb1
    clear hb1
    go_wp2_with fail
    refine ret3v rfl rfl rfl rfl rfl ?_
    exact ⟨rfl, HB1.out⟩
theorem r2products_yes {a b c d : Int} (fa : fits a) (fb : fits b) (fc : fits c) (fd : fits d) (h1 : fits (a * b)) (h2 : fits (c * d)) (B : Nat) (w : World) (hB : B ≤ w.heap.size) (hT : P10 B w) :
    Calls Tryz.prog 155 #[.string (iB a), .string (iB b), .string (iB c), .string (iB d)] w (Ret w (.tuple #[.string (iB (a * b)), .string (iB (c * d)), .int .i64 0])) := by
  have HT := hide hT
  have H1 := hide (fun w hB hT => rMul_I fa fb B w hB hT)
  have H2 := hide (fun w hB hT => rMul_I fc fd B w hB hT)
  rw [resI_yes h1] at H1
  rw [resI_yes h2] at H2
  obtain ⟨A, hA⟩ : ∃ x, x = iB a := ⟨_, rfl⟩
  obtain ⟨B', hB'⟩ : ∃ x, x = iB b := ⟨_, rfl⟩
  obtain ⟨C, hC⟩ : ∃ x, x = iB c := ⟨_, rfl⟩
  obtain ⟨D, hD⟩ : ∃ x, x = iB d := ⟨_, rfl⟩
  obtain ⟨X, hX⟩ : ∃ x, x = iB (a * b) := ⟨_, rfl⟩
  obtain ⟨Y, hY⟩ : ∃ x, x = iB (c * d) := ⟨_, rfl⟩
  simp only [← hA, ← hB', ← hC, ← hD, ← hX, ← hY] at *
  clear hA hB' hC hD hX hY h1 h2 fa fb fc fd hT
  go_enter Tryz.func155, Tryz.ntmps155
  go_wp2_with fail
  refine (H1.out _ hB HT.out).mono ?_
  rintro e w1 ⟨rfl, hb1⟩
  have HB1 := hide hb1
  clear hb1
  go_wp2_with fail
  refine (H2.out _ (Nat.le_trans hB HB1.out.size) (HT.out.on HB1.out hB)).mono ?_
  rintro e w2 ⟨rfl, hb2⟩
  have HB2 := hide (HB1.out.trans (hb2.mono HB1.out.size))
  clear hb2
  go_wp2_with fail
  refine ret3v rfl rfl rfl rfl rfl ?_
  exact ⟨rfl, HB2.out⟩
def opV (o : Option Rat) : Value := match o with | some q => .tuple #[.string (T q), .int .i64 0] | none => .tuple #[.string noB, .int .i64 4]
theorem r2add_T {x y : Rat} (fx : fitsQ x) (fy : fitsQ y) (B : Nat) (w : World) (hB : B ≤ w.heap.size) (hT : PQ B w) :
    Calls Tryz.prog 100 #[.string (T x), .string (T y)] w (Ret w (opV (addO x y))) := by
  have HT := hide hT
  have HI1 := hide (fun w => r2ints_T fx w)
  have HI2 := hide (fun w => r2ints_T fy w)
  have HP1 := hide (fun w => r2parts_T fx w)
  have HP2 := hide (fun w => r2parts_T fy w)
  unfold intsQ at HI1 HI2
  obtain ⟨S, hS⟩ : ∃ s, s = T x := ⟨_, rfl⟩
  obtain ⟨U, hU⟩ : ∃ s, s = T y := ⟨_, rfl⟩
  rw [← hS, ← hU]
  rw [← hS] at HI1 HP1
  rw [← hU] at HI2 HP2
  clear hS hU hT
  by_cases hs : shortQ x ∧ shortQ y
  · rw [if_pos hs.1] at HI1
    rw [if_pos hs.2] at HI2
    obtain ⟨a1, a2⟩ := shortQ_lt hs.1
    obtain ⟨b1, b2⟩ := shortQ_lt hs.2
    have ap := x.den_pos
    have bp := y.den_pos
    rw [addO_sz (short_sz hs.1) (short_sz hs.2) (by rw [most_eq]; omega)]
    unfold opV
    have hdiv := divInt_add x y
    have m1 := prod9 (a := x.num) (b := (y.den : Int)) a1 (by omega)
    have m2 := prod9 (a := y.num) (b := (x.den : Int)) b1 (by omega)
    have m3 := prod9 (a := (x.den : Int)) (b := (y.den : Int)) (by omega) (by omega)
    have m4 : 0 < x.den * y.den := Nat.mul_pos ap bp
    have m5 : ((x.den * y.den : Nat) : Int) = (x.den : Int) * (y.den : Int) := by push_cast; rfl
    have HQ := hide (fun w => r2quick_any (x.num * y.den + y.num * x.den) (x.den * y.den) (by omega) (by omega) m4 w)
    rw [m5, hdiv] at HQ
    obtain ⟨R, hR⟩ : ∃ s, s = T (x + y) := ⟨_, rfl⟩
    have hR2 : strB (ratS (x + y)) = R := hR.symm
    rw [hR2] at HQ
    dsimp only
    rw [← hR]
    obtain ⟨n, hn⟩ : ∃ n, n = x.num := ⟨_, rfl⟩
    obtain ⟨d, hd⟩ : ∃ n, n = (x.den : Int) := ⟨_, rfl⟩
    obtain ⟨m, hm⟩ : ∃ n, n = y.num := ⟨_, rfl⟩
    obtain ⟨c, hc⟩ : ∃ n, n = (y.den : Int) := ⟨_, rfl⟩
    simp only [← hn, ← hd, ← hm, ← hc] at HI1 HI2 HQ m1 m2 m3
    have v1 : IntKind.i64.wrap (n * c) = n * c := IntWalk.i64_in _ (by omega)
    have v2 : IntKind.i64.wrap (m * d) = m * d := IntWalk.i64_in _ (by omega)
    have v3 : IntKind.i64.wrap (d * c) = d * c := IntWalk.i64_in _ (by omega)
    have v4 : IntKind.i64.wrap (n * c + m * d) = n * c + m * d := IntWalk.i64_in _ (by omega)
    clear hR hR2 hdiv m1 m2 m3 m4 m5 hs a1 a2 b1 b2 ap bp hn hd hm hc HP1 HP2 fx fy
    go_enter Tryz.func100, Tryz.ntmps100
    go_wp2_with fail
    refine (HI1.out _).mono ?_
    rintro e w1 ⟨rfl, hb1⟩
    have HB1 := hide hb1
    clear hb1
    go_wp2_with fail
    refine (HI2.out _).mono ?_
    rintro e w2 ⟨rfl, hb2⟩
    have HB2 := hide (HB1.out.trans (hb2.mono HB1.out.size))
    clear hb2
    go_wp2_with fail
    refine (HQ.out _).mono ?_
    rintro e w3 ⟨rfl, hb3⟩
    have HB3 := hide (HB2.out.trans (hb3.mono HB2.out.size))
    clear hb3
    go_wp2_with fail
    refine bodyPost_ret (results_tmp2 rfl _ _ _) rfl ?_
    exact ⟨rfl, HB3.out⟩
  · have hway : (∃ v1 v2 : Int, ∃ b1 b2 : Bool, ∃ v3 v4 : Int, Hid (∀ w, Calls Tryz.prog 89 #[.string S] w (Ret w (.tuple #[.int .i64 v1, .int .i64 v2, .bool b1]))) ∧ Hid (∀ w, Calls Tryz.prog 89 #[.string U] w (Ret w (.tuple #[.int .i64 v3, .int .i64 v4, .bool b2]))) ∧ (b1 = false ∨ (b1 = true ∧ b2 = false))) := by
      by_cases h1 : shortQ x
      · have h2 : ¬ shortQ y := fun e => hs ⟨h1, e⟩
        rw [if_pos h1] at HI1
        rw [if_neg h2] at HI2
        exact ⟨_, _, _, _, _, _, HI1, HI2, .inr ⟨rfl, rfl⟩⟩
      · rw [if_neg h1] at HI1
        by_cases h2 : shortQ y
        · rw [if_pos h2] at HI2
          exact ⟨_, _, _, _, _, _, HI1, HI2, .inl rfl⟩
        · rw [if_neg h2] at HI2
          exact ⟨_, _, _, _, _, _, HI1, HI2, .inl rfl⟩
    clear HI1 HI2 hs
    obtain ⟨i1, i2, b1, b2, i3, i4, HI1, HI2, hb⟩ := hway
    obtain ⟨n, hn⟩ : ∃ n, n = x.num := ⟨_, rfl⟩
    obtain ⟨d, hd⟩ : ∃ n, n = (x.den : Int) := ⟨_, rfl⟩
    obtain ⟨m, hm⟩ : ∃ n, n = y.num := ⟨_, rfl⟩
    obtain ⟨c, hc⟩ : ∃ n, n = (y.den : Int) := ⟨_, rfl⟩
    have hd0 : 0 < d := by have := x.den_pos; omega
    have hc0 : 0 < c := by have := y.den_pos; omega
    have fn : fits n := by rw [hn]; exact fx.1
    have fd : fits d := by rw [hd]; exact fx.2
    have fm : fits m := by rw [hm]; exact fy.1
    have fc : fits c := by rw [hc]; exact fy.2
    have hdiv := divInt_add x y
    have hO : addO x y = if fits (n * c) ∧ fits (m * d) ∧ fits (n * c + m * d) ∧ fits (d * c) then some (x + y) else none := by
      rw [hn, hd, hm, hc]
      unfold addO
      by_cases h : addC x y
      · exact (if_pos h).trans (if_pos h).symm
      · exact (if_neg h).trans (if_neg h).symm
    simp only [← hn, ← hd, ← hm, ← hc] at HP1 HP2 hdiv
    rw [hO]
    have e1 := iB1
    have f1 : fits 1 := fits_one
    have hdc : d * c ≠ 0 := by have := Int.mul_pos hd0 hc0; omega
    have HPY := hide (fun (h1 : fits (n * c)) (h2 : fits (m * d)) w hB hT => r2products_yes fn fc fm fd h1 h2 B w hB hT)
    have HPN := hide (fun (h : ¬ (fits (n * c) ∧ fits (m * d))) w hB hT => r2products_no fn fc fm fd h B w hB hT)
    have HPY2 := hide (fun (h1 : fits (d * c)) w hB hT => r2products_yes fd fc f1 f1 h1 (by rw [Int.mul_one]; exact f1) B w hB hT)
    have HPN2 := hide (fun (h : ¬ (fits (d * c) ∧ fits (1 * 1))) w hB hT => r2products_no fd fc f1 f1 h B w hB hT)
    have HAD := hide (fun (h1 : fits (n * c)) (h2 : fits (m * d)) w hB hT => rAdd_I h1 h2 B w hB hT)
    have HMK := hide (fun (h1 : fits (n * c + m * d)) (h2 : fits (d * c)) w hB hT => r2make_any hdc h1 h2 B w hB hT)
    rw [hdiv] at HMK
    rw [Int.mul_one] at HPY2 HPN2
    rw [e1] at HPY2 HPN2
    obtain ⟨NB, hNB⟩ : ∃ s, s = iB n := ⟨_, rfl⟩
    obtain ⟨DB, hDB⟩ : ∃ s, s = iB d := ⟨_, rfl⟩
    obtain ⟨MB, hMB⟩ : ∃ s, s = iB m := ⟨_, rfl⟩
    obtain ⟨CB, hCB⟩ : ∃ s, s = iB c := ⟨_, rfl⟩
    obtain ⟨PB, hPB⟩ : ∃ s, s = iB (n * c) := ⟨_, rfl⟩
    obtain ⟨QB, hQB⟩ : ∃ s, s = iB (m * d) := ⟨_, rfl⟩
    obtain ⟨DC, hDC⟩ : ∃ s, s = iB (d * c) := ⟨_, rfl⟩
    simp only [← hNB, ← hDB, ← hMB, ← hCB, ← hPB, ← hQB, ← hDC] at HP1 HP2 HPY HPN HPY2 HPN2 HAD HMK
    clear hNB hDB hMB hCB hPB hQB hDC hn hd hm hc hd0 hc0 hdiv hO hdc e1 fn fd fm fc fx fy
    by_cases c1 : fits (n * c) ∧ fits (m * d)
    rotate_left
    · rw [if_neg (fun e => c1 ⟨e.1, e.2.1⟩)]
      unfold opV
      have HN := hide (HPN.out c1)
      clear HPY HPN HPY2 HPN2 HAD HMK c1
      rcases hb with rfl | ⟨rfl, rfl⟩
      all_goals
        go_enter Tryz.func100, Tryz.ntmps100
        go_wp2_with fail
        refine (HI1.out _).mono ?_
        rintro e w1 ⟨rfl, hb1⟩
        have HB1 := hide hb1
        clear hb1
        go_wp2_with fail
        refine (HI2.out _).mono ?_
        rintro e w2 ⟨rfl, hb2⟩
        have HB2 := hide (HB1.out.trans (hb2.mono HB1.out.size))
        clear hb2
        go_wp2_with fail
        refine (HP1.out _).mono ?_
        rintro e w3 ⟨rfl, hb3⟩
        have HB3 := hide (HB2.out.trans (hb3.mono HB2.out.size))
        clear hb3
        go_wp2_with fail
        refine (HP2.out _).mono ?_
        rintro e w4 ⟨rfl, hb4⟩
        have HB4 := hide (HB3.out.trans (hb4.mono HB3.out.size))
        clear hb4
        go_wp2_with fail
        obtain ⟨X, Y, hXY⟩ := HN.out _ (Nat.le_trans hB HB4.out.size) (HT.out.p10.on HB4.out hB)
        refine hXY.mono ?_
        rintro e w5 ⟨rfl, hb5⟩
        have HB5 := hide (HB4.out.trans (hb5.mono HB4.out.size))
        clear hb5 hXY
        go_wp2_with fail
        refine bodyPost_ret (results_tmp2 rfl _ _ _) rfl ?_
        exact ⟨rfl, HB5.out⟩
    have H1 := hide (HPY.out c1.1 c1.2)
    by_cases c2 : fits (d * c)
    rotate_left
    · rw [if_neg (fun e => c2 e.2.2.2)]
      unfold opV
      have HN := hide (HPN2.out (fun e => c2 e.1))
      clear HPY HPN HPY2 HPN2 HAD HMK c1 c2
      rcases hb with rfl | ⟨rfl, rfl⟩
      all_goals
        go_enter Tryz.func100, Tryz.ntmps100
        go_wp2_with fail
        refine (HI1.out _).mono ?_
        rintro e w1 ⟨rfl, hb1⟩
        have HB1 := hide hb1
        clear hb1
        go_wp2_with fail
        refine (HI2.out _).mono ?_
        rintro e w2 ⟨rfl, hb2⟩
        have HB2 := hide (HB1.out.trans (hb2.mono HB1.out.size))
        clear hb2
        go_wp2_with fail
        refine (HP1.out _).mono ?_
        rintro e w3 ⟨rfl, hb3⟩
        have HB3 := hide (HB2.out.trans (hb3.mono HB2.out.size))
        clear hb3
        go_wp2_with fail
        refine (HP2.out _).mono ?_
        rintro e w4 ⟨rfl, hb4⟩
        have HB4 := hide (HB3.out.trans (hb4.mono HB3.out.size))
        clear hb4
        go_wp2_with fail
        refine (H1.out _ (Nat.le_trans hB HB4.out.size) (HT.out.p10.on HB4.out hB)).mono ?_
        rintro e w5 ⟨rfl, hb5⟩
        have HB5 := hide (HB4.out.trans (hb5.mono HB4.out.size))
        clear hb5
        go_wp2_with fail
        obtain ⟨X, Y, hXY⟩ := HN.out _ (Nat.le_trans hB HB5.out.size) (HT.out.p10.on HB5.out hB)
        refine hXY.mono ?_
        rintro e w6 ⟨rfl, hb6⟩
        have HB6 := hide (HB5.out.trans (hb6.mono HB5.out.size))
        clear hb6 hXY
        go_wp2_with fail
        refine bodyPost_ret (results_tmp2 rfl _ _ _) rfl ?_
        exact ⟨rfl, HB6.out⟩
    have H2 := hide (HPY2.out c2)
    have H3 := hide (HAD.out c1.1 c1.2)
    by_cases c3 : fits (n * c + m * d)
    rotate_left
    · rw [if_neg (fun e => c3 e.2.2.1)]
      unfold opV
      rw [resI_no c3] at H3
      clear HPY HPN HPY2 HPN2 HAD HMK c1 c2 c3
      rcases hb with rfl | ⟨rfl, rfl⟩
      all_goals
        go_enter Tryz.func100, Tryz.ntmps100
        go_wp2_with fail
        refine (HI1.out _).mono ?_
        rintro e w1 ⟨rfl, hb1⟩
        have HB1 := hide hb1
        clear hb1
        go_wp2_with fail
        refine (HI2.out _).mono ?_
        rintro e w2 ⟨rfl, hb2⟩
        have HB2 := hide (HB1.out.trans (hb2.mono HB1.out.size))
        clear hb2
        go_wp2_with fail
        refine (HP1.out _).mono ?_
        rintro e w3 ⟨rfl, hb3⟩
        have HB3 := hide (HB2.out.trans (hb3.mono HB2.out.size))
        clear hb3
        go_wp2_with fail
        refine (HP2.out _).mono ?_
        rintro e w4 ⟨rfl, hb4⟩
        have HB4 := hide (HB3.out.trans (hb4.mono HB3.out.size))
        clear hb4
        go_wp2_with fail
        refine (H1.out _ (Nat.le_trans hB HB4.out.size) (HT.out.p10.on HB4.out hB)).mono ?_
        rintro e w5 ⟨rfl, hb5⟩
        have HB5 := hide (HB4.out.trans (hb5.mono HB4.out.size))
        clear hb5
        go_wp2_with fail
        refine (H2.out _ (Nat.le_trans hB HB5.out.size) (HT.out.p10.on HB5.out hB)).mono ?_
        rintro e w6 ⟨rfl, hb6⟩
        have HB6 := hide (HB5.out.trans (hb6.mono HB5.out.size))
        clear hb6
        go_wp2_with fail
        refine (H3.out _ (Nat.le_trans hB HB6.out.size) (HT.out.p10.on HB6.out hB)).mono ?_
        rintro e w7 ⟨rfl, hb7⟩
        have HB7 := hide (HB6.out.trans (hb7.mono HB6.out.size))
        clear hb7
        go_wp2_with fail
        refine bodyPost_ret (results_tmp2 rfl _ _ _) rfl ?_
        exact ⟨rfl, HB7.out⟩
    rw [if_pos ⟨c1.1, c1.2, c3, c2⟩]
    unfold opV
    rw [resI_yes c3] at H3
    have H4 := hide (HMK.out c3 c2)
    obtain ⟨SB, hSB⟩ : ∃ s, s = iB (n * c + m * d) := ⟨_, rfl⟩
    obtain ⟨R, hR⟩ : ∃ s, s = T (x + y) := ⟨_, rfl⟩
    rw [← hSB] at H3 H4
    rw [← hR] at H4
    dsimp only
    rw [← hR]
    clear HPY HPN HPY2 HPN2 HAD HMK c1 c2 c3 hSB hR
    rcases hb with rfl | ⟨rfl, rfl⟩
    all_goals
      go_enter Tryz.func100, Tryz.ntmps100
      go_wp2_with fail
      refine (HI1.out _).mono ?_
      rintro e w1 ⟨rfl, hb1⟩
      have HB1 := hide hb1
      clear hb1
      go_wp2_with fail
      refine (HI2.out _).mono ?_
      rintro e w2 ⟨rfl, hb2⟩
      have HB2 := hide (HB1.out.trans (hb2.mono HB1.out.size))
      clear hb2
      go_wp2_with fail
      refine (HP1.out _).mono ?_
      rintro e w3 ⟨rfl, hb3⟩
      have HB3 := hide (HB2.out.trans (hb3.mono HB2.out.size))
      clear hb3
      go_wp2_with fail
      refine (HP2.out _).mono ?_
      rintro e w4 ⟨rfl, hb4⟩
      have HB4 := hide (HB3.out.trans (hb4.mono HB3.out.size))
      clear hb4
      go_wp2_with fail
      refine (H1.out _ (Nat.le_trans hB HB4.out.size) (HT.out.p10.on HB4.out hB)).mono ?_
      rintro e w5 ⟨rfl, hb5⟩
      have HB5 := hide (HB4.out.trans (hb5.mono HB4.out.size))
      clear hb5
      go_wp2_with fail
      refine (H2.out _ (Nat.le_trans hB HB5.out.size) (HT.out.p10.on HB5.out hB)).mono ?_
      rintro e w6 ⟨rfl, hb6⟩
      have HB6 := hide (HB5.out.trans (hb6.mono HB5.out.size))
      clear hb6
      go_wp2_with fail
      refine (H3.out _ (Nat.le_trans hB HB6.out.size) (HT.out.p10.on HB6.out hB)).mono ?_
      rintro e w7 ⟨rfl, hb7⟩
      have HB7 := hide (HB6.out.trans (hb7.mono HB6.out.size))
      clear hb7
      go_wp2_with fail
      refine (H4.out _ (Nat.le_trans hB HB7.out.size) (HT.out.p10.on HB7.out hB)).mono ?_
      rintro e w8 ⟨rfl, hb8⟩
      have HB8 := hide (HB7.out.trans (hb8.mono HB7.out.size))
      clear hb8
      go_wp2_with fail
      refine bodyPost_ret (results_tmp2 rfl _ _ _) rfl ?_
      exact ⟨rfl, HB8.out⟩
end Go.Proofs.YtfcjaljaomknjaaGreatDoor
namespace Go.KI
open Go
end Go.KI
namespace Go.Proofs.YtfcjaljaomknjaaGreatDoor
open Go.RowKit Go.KP Go.KI Go.Shelf
attribute [local go_sem] Oper.semAt_some

theorem ratS_eq (q : Rat) : ratS q = Lib.itoa q.num ++ (if q.den = 1 then [] else 47 :: Lib.decDigits q.den) := by
  unfold ratS
  by_cases h : q.den = 1
  · rw [if_pos h, if_pos h, List.append_nil]
  · rw [if_neg h, if_neg h]
theorem T_head0 (q : Rat) : ∃ h : 0 < (T q).size, (((((T q)[0]'h).toNat : Nat) : Int) == 45) = decide (q.num < 0) := by
  have hne : (T q).data.toList ≠ [] := by
    rw [T_list, ratS_eq]
    intro e
    have e2 := (List.append_eq_nil_iff.1 e).1
    rcases itoa_cases q.num with ⟨_, a⟩ | ⟨_, a⟩ <;> rw [a] at e2
    · cases e2
    · exact decDigits_ne _ e2
  obtain ⟨hp, hh⟩ := bytes_head hne
  refine ⟨hp, ?_⟩
  rw [T_list] at hh
  have h2 := ratS_head (q := q)
  rw [hh] at h2
  by_cases h : q.num < 0
  · have h3 := h2.2 h
    injection h3 with h3
    rw [h3, decide_eq_true h]
    rfl
  · rw [decide_eq_false h]
    simp only [beq_eq_false_iff_ne, ne_eq]
    intro e
    refine h (h2.1 ?_)
    congr 1
    apply UInt8.toNat_inj.1
    have e2 : (45 : UInt8).toNat = 45 := rfl
    omega
theorem T_neg_drop {q : Rat} (h : q.num < 0) : (T q).extract 1 (T q).size = T (-q) := by
  rw [ext_drop, T_list]
  apply bytes_eq
  rw [strB_list, T_list, ratS_eq, ratS_eq, Rat.neg_num, Rat.neg_den]
  rcases itoa_cases q.num with ⟨_, a⟩ | ⟨a, _⟩
  · rcases itoa_cases (-q.num) with ⟨b, _⟩ | ⟨_, b⟩
    · omega
    · rw [a, b, Int.natAbs_neg]
      rfl
  · omega
theorem T_pos_neg {q : Rat} (h : 0 < q.num) : (⟨#[45]⟩ : ByteArray) ++ T q = T (-q) := by
  apply bytes_eq
  have e : ((⟨#[45]⟩ : ByteArray) ++ T q).data.toList = 45 :: (T q).data.toList := by simp
  rw [e, T_list, T_list, ratS_eq, ratS_eq, Rat.neg_num, Rat.neg_den]
  rcases itoa_cases q.num with ⟨a, _⟩ | ⟨_, a⟩
  · omega
  · rcases itoa_cases (-q.num) with ⟨_, b⟩ | ⟨b, _⟩
    · rw [a, b, Int.natAbs_neg]
      rfl
    · omega
theorem T_zero0 (q : Rat) : ((T q).toList == [48]) = decide (q = 0) := by
  rw [list_is (T_list q)]
  have h0 : ratS 0 = [48] := by rw [← T_list, T0]
  refine decide_eq_decide.2 ⟨fun e => ratS_inj (e.trans h0.symm), fun e => by rw [e, h0]⟩
theorem r2check_any (s t : ByteArray) (hs : s.size ≤ 1000000) (ht : t.size ≤ 1000000) (B : Nat) (w : World) (hB : B ≤ w.heap.size) (hT : PQ B w) :
    Calls Tryz.prog 98 #[.string s, .string t] w (Ret w (.int .i64 (bothQ s.data.toList t.data.toList))) := by
  have HT := hide hT
  have H1 := hide (fun w hB hT => r2Check_any s hs B w hB hT)
  have H2 := hide (fun w hB hT => r2Check_any t ht B w hB hT)
  unfold bothQ
  obtain ⟨x, hx⟩ : ∃ x, x = chkQ s.data.toList := ⟨_, rfl⟩
  obtain ⟨y, hy⟩ : ∃ x, x = chkQ t.data.toList := ⟨_, rfl⟩
  rw [← hx] at H1 ⊢
  rw [← hy] at H2 ⊢
  clear hx hy hT
  by_cases h : x = 0
  · subst h
    rw [if_pos rfl]
    go_enter Tryz.func98, Tryz.ntmps98
    go_wp2_with fail
    refine (H1.out _ hB HT.out).mono ?_
    rintro e w1 ⟨rfl, hb1⟩
    have HB1 := hide hb1
    clear hb1
    go_wp2_with fail
    refine (H2.out _ (Nat.le_trans hB HB1.out.size) (HT.out.on HB1.out hB)).mono ?_
    rintro e w2 ⟨rfl, hb2⟩
    have HB2 := hide (HB1.out.trans (hb2.mono HB1.out.size))
    clear hb2
    go_wp2_with fail
    go_ret
    exact ⟨rfl, HB2.out⟩
  · rw [if_neg h]
    have hne : (x != 0) = true := by simpa using h
    clear h
    go_enter Tryz.func98, Tryz.ntmps98
    go_wp2_with fail
    refine (H1.out _ hB HT.out).mono ?_
    rintro e w1 ⟨rfl, hb1⟩
    have HB1 := hide hb1
    clear hb1
    go_wp2_with fail
    go_ret
    exact ⟨rfl, HB1.out⟩
theorem r2check_T {x y : Rat} (fx : fitsQ x) (fy : fitsQ y) (B : Nat) (w : World) (hB : B ≤ w.heap.size) (hT : PQ B w) :
    Calls Tryz.prog 98 #[.string (T x), .string (T y)] w (Ret w (.int .i64 0)) := by
  have h := r2check_any (T x) (T y) (T_good fx).1 (T_good fy).1 B w hB hT
  rw [zero_bothQ (T_good fx).2.1 (T_good fy).2.1] at h
  exact h
theorem r2Add_T {x y : Rat} (fx : fitsQ x) (fy : fitsQ y) (B : Nat) (w : World) (hB : B ≤ w.heap.size) (hT : PQ B w) :
    Calls Tryz.prog 53 #[.string (T x), .string (T y)] w (Ret w (opV (addO x y))) := by
  have HT := hide hT
  have H1 := hide (fun w hB hT => r2check_T fx fy B w hB hT)
  have H2 := hide (fun w hB hT => r2add_T fx fy B w hB hT)
  obtain ⟨S, hS⟩ : ∃ s, s = T x := ⟨_, rfl⟩
  obtain ⟨U, hU⟩ : ∃ s, s = T y := ⟨_, rfl⟩
  rw [← hS, ← hU] at H1 H2 ⊢
  clear hS hU hT fx fy
  generalize addO x y = O at H2 ⊢
  cases O
  all_goals
    unfold opV at H2 ⊢
    dsimp only at H2 ⊢
    go_enter Tryz.func53, Tryz.ntmps53
    go_wp2_with fail
    refine (H1.out _ hB HT.out).mono ?_
    rintro e w1 ⟨rfl, hb1⟩
    have HB1 := hide hb1
    clear hb1
    go_wp2_with fail
    refine (H2.out _ (Nat.le_trans hB HB1.out.size) (HT.out.on HB1.out hB)).mono ?_
    rintro e w2 ⟨rfl, hb2⟩
    have HB2 := hide (HB1.out.trans (hb2.mono HB1.out.size))
    clear hb2
    go_wp2_with fail
    refine bodyPost_ret (results_tmp2 rfl _ _ _) rfl ?_
    exact ⟨rfl, HB2.out⟩
def mulI (n d m c : Int) : Option Rat := if fits (n * m) ∧ fits (d * c) then some (Rat.divInt (n * m) (d * c)) else none
theorem r2mul_I {n d m c : Int} (fn : fits n) (fd : fits d) (fm : fits m) (fc : fits c) (hd : d * c ≠ 0) (B : Nat) (w : World) (hB : B ≤ w.heap.size) (hT : P10 B w) :
    Calls Tryz.prog 99 #[.string (iB n), .string (iB d), .string (iB m), .string (iB c)] w (Ret w (opV (mulI n d m c))) := by
  have HT := hide hT
  unfold mulI
  have HPY := hide (fun (h : fits (n * m) ∧ fits (d * c)) w hB hT => r2products_yes fn fm fd fc h.1 h.2 B w hB hT)
  have HPN := hide (fun (h : ¬ (fits (n * m) ∧ fits (d * c))) w hB hT => r2products_no fn fm fd fc h B w hB hT)
  have HMK := hide (fun (h : fits (n * m) ∧ fits (d * c)) w hB hT => r2make_any hd h.1 h.2 B w hB hT)
  obtain ⟨NB, hNB⟩ : ∃ s, s = iB n := ⟨_, rfl⟩
  obtain ⟨DB, hDB⟩ : ∃ s, s = iB d := ⟨_, rfl⟩
  obtain ⟨MB, hMB⟩ : ∃ s, s = iB m := ⟨_, rfl⟩
  obtain ⟨CB, hCB⟩ : ∃ s, s = iB c := ⟨_, rfl⟩
  obtain ⟨PB, hPB⟩ : ∃ s, s = iB (n * m) := ⟨_, rfl⟩
  obtain ⟨QB, hQB⟩ : ∃ s, s = iB (d * c) := ⟨_, rfl⟩
  simp only [← hNB, ← hDB, ← hMB, ← hCB, ← hPB, ← hQB] at HPY HPN HMK ⊢
  clear hNB hDB hMB hCB hPB hQB fn fd fm fc hd hT
  by_cases h : fits (n * m) ∧ fits (d * c)
  · rw [if_pos h]
    have H1 := hide (HPY.out h)
    have H2 := hide (HMK.out h)
    unfold opV
    dsimp only
    clear HPY HPN HMK h
    go_enter Tryz.func99, Tryz.ntmps99
    go_wp2_with fail
    refine (H1.out _ hB HT.out).mono ?_
    rintro e w1 ⟨rfl, hb1⟩
    have HB1 := hide hb1
    clear hb1
    go_wp2_with fail
    refine (H2.out _ (Nat.le_trans hB HB1.out.size) (HT.out.on HB1.out hB)).mono ?_
    rintro e w2 ⟨rfl, hb2⟩
    have HB2 := hide (HB1.out.trans (hb2.mono HB1.out.size))
    clear hb2
    go_wp2_with fail
    refine bodyPost_ret (results_tmp2 rfl _ _ _) rfl ?_
    exact ⟨rfl, HB2.out⟩
  · rw [if_neg h]
    have HN := hide (HPN.out h)
    unfold opV
    dsimp only
    clear HPY HPN HMK h
    go_enter Tryz.func99, Tryz.ntmps99
    go_wp2_with fail
    obtain ⟨X, Y, hXY⟩ := HN.out _ hB HT.out
    refine hXY.mono ?_
    rintro e w1 ⟨rfl, hb1⟩
    have HB1 := hide hb1
    clear hb1 hXY
    go_wp2_with fail
    refine bodyPost_ret (results_tmp2 rfl _ _ _) rfl ?_
    exact ⟨rfl, HB1.out⟩
theorem ints_long {x y : Rat} (fx : fitsQ x) (fy : fitsQ y) (hs : ¬ (shortQ x ∧ shortQ y)) : ∃ v1 v2 : Int, ∃ b1 b2 : Bool, ∃ v3 v4 : Int, Hid (∀ w, Calls Tryz.prog 89 #[.string (T x)] w (Ret w (.tuple #[.int .i64 v1, .int .i64 v2, .bool b1]))) ∧ Hid (∀ w, Calls Tryz.prog 89 #[.string (T y)] w (Ret w (.tuple #[.int .i64 v3, .int .i64 v4, .bool b2]))) ∧ (b1 = false ∨ (b1 = true ∧ b2 = false)) := by
  have HI1 := fun w => r2ints_T fx w
  have HI2 := fun w => r2ints_T fy w
  unfold intsQ at HI1 HI2
  by_cases h1 : shortQ x
  · have h2 : ¬ shortQ y := fun e => hs ⟨h1, e⟩
    rw [if_pos h1] at HI1
    rw [if_neg h2] at HI2
    exact ⟨_, _, _, _, _, _, hide HI1, hide HI2, .inr ⟨rfl, rfl⟩⟩
  · rw [if_neg h1] at HI1
    by_cases h2 : shortQ y
    · rw [if_pos h2] at HI2
      exact ⟨_, _, _, _, _, _, hide HI1, hide HI2, .inl rfl⟩
    · rw [if_neg h2] at HI2
      exact ⟨_, _, _, _, _, _, hide HI1, hide HI2, .inl rfl⟩
theorem ints_short {x : Rat} (fx : fitsQ x) (h : shortQ x) (w : World) : Calls Tryz.prog 89 #[.string (T x)] w (Ret w (.tuple #[.int .i64 x.num, .int .i64 (x.den : Int), .bool true])) := by
  have H := r2ints_T fx w
  unfold intsQ at H
  rw [if_pos h] at H
  exact H
theorem r2Mul_T {x y : Rat} (fx : fitsQ x) (fy : fitsQ y) (B : Nat) (w : World) (hB : B ≤ w.heap.size) (hT : PQ B w) :
    Calls Tryz.prog 87 #[.string (T x), .string (T y)] w (Ret w (opV (mulO x y))) := by
  have HT := hide hT
  have H1 := hide (fun w hB hT => r2check_T fx fy B w hB hT)
  by_cases hs : shortQ x ∧ shortQ y
  · have HI1 := hide (fun w => ints_short fx hs.1 w)
    have HI2 := hide (fun w => ints_short fy hs.2 w)
    obtain ⟨a1, a2⟩ := shortQ_lt hs.1
    obtain ⟨b1, b2⟩ := shortQ_lt hs.2
    have ap := x.den_pos
    have bp := y.den_pos
    rw [mulO_sz (short_sz hs.1) (short_sz hs.2) (by rw [most_eq]; omega)]
    unfold opV
    have hdiv := divInt_mul x y
    have m1 := prod9 (a := x.num) (b := y.num) a1 b1
    have m3 := prod9 (a := (x.den : Int)) (b := (y.den : Int)) (by omega) (by omega)
    have m4 : 0 < x.den * y.den := Nat.mul_pos ap bp
    have m5 : ((x.den * y.den : Nat) : Int) = (x.den : Int) * (y.den : Int) := by push_cast; rfl
    have HQ := hide (fun w => r2quick_any (x.num * y.num) (x.den * y.den) (by omega) (by omega) m4 w)
    rw [m5, hdiv] at HQ
    obtain ⟨R, hR⟩ : ∃ s, s = T (x * y) := ⟨_, rfl⟩
    have hR2 : strB (ratS (x * y)) = R := hR.symm
    rw [hR2] at HQ
    dsimp only
    rw [← hR]
    obtain ⟨S, hS⟩ : ∃ s, s = T x := ⟨_, rfl⟩
    obtain ⟨U, hU⟩ : ∃ s, s = T y := ⟨_, rfl⟩
    obtain ⟨n, hn⟩ : ∃ n, n = x.num := ⟨_, rfl⟩
    obtain ⟨d, hd⟩ : ∃ n, n = (x.den : Int) := ⟨_, rfl⟩
    obtain ⟨m, hm⟩ : ∃ n, n = y.num := ⟨_, rfl⟩
    obtain ⟨c, hc⟩ : ∃ n, n = (y.den : Int) := ⟨_, rfl⟩
    simp only [← hn, ← hd, ← hm, ← hc, ← hS, ← hU] at HI1 HI2 HQ m1 m3 H1 ⊢
    have v1 : IntKind.i64.wrap (n * m) = n * m := IntWalk.i64_in _ (by omega)
    have v3 : IntKind.i64.wrap (d * c) = d * c := IntWalk.i64_in _ (by omega)
    clear hR hR2 hdiv m1 m3 m4 m5 hs a1 a2 b1 b2 ap bp hn hd hm hc fx fy hS hU hT
    go_enter Tryz.func87, Tryz.ntmps87
    go_wp2_with fail
    refine (H1.out _ hB HT.out).mono ?_
    rintro e w1 ⟨rfl, hb1⟩
    have HB1 := hide hb1
    clear hb1
    go_wp2_with fail
    refine (HI1.out _).mono ?_
    rintro e w2 ⟨rfl, hb2⟩
    have HB2 := hide (HB1.out.trans (hb2.mono HB1.out.size))
    clear hb2
    go_wp2_with fail
    refine (HI2.out _).mono ?_
    rintro e w3 ⟨rfl, hb3⟩
    have HB3 := hide (HB2.out.trans (hb3.mono HB2.out.size))
    clear hb3
    go_wp2_with fail
    refine (HQ.out _).mono ?_
    rintro e w4 ⟨rfl, hb4⟩
    have HB4 := hide (HB3.out.trans (hb4.mono HB3.out.size))
    clear hb4
    go_wp2_with fail
    refine bodyPost_ret (results_tmp2 rfl _ _ _) rfl ?_
    exact ⟨rfl, HB4.out⟩
  · obtain ⟨i1, i2, b1, b2, i3, i4, HI1, HI2, hb⟩ := ints_long fx fy hs
    have HP1 := hide (fun w => r2parts_T fx w)
    have HP2 := hide (fun w => r2parts_T fy w)
    have hO : mulI x.num (x.den : Int) y.num (y.den : Int) = mulO x y := by
      unfold mulI mulO
      rw [divInt_mul]
      by_cases h : mulC x y
      · exact (if_pos h).trans (if_pos h).symm
      · exact (if_neg h).trans (if_neg h).symm
    have hdc : (x.den : Int) * (y.den : Int) ≠ 0 := by have := dens_pos x y; omega
    have HM := hide (fun w hB hT => r2mul_I fx.1 fx.2 fy.1 fy.2 hdc B w hB hT)
    rw [hO] at HM
    obtain ⟨S, hS⟩ : ∃ s, s = T x := ⟨_, rfl⟩
    obtain ⟨U, hU⟩ : ∃ s, s = T y := ⟨_, rfl⟩
    obtain ⟨NB, hNB⟩ : ∃ s, s = iB x.num := ⟨_, rfl⟩
    obtain ⟨DB, hDB⟩ : ∃ s, s = iB (x.den : Int) := ⟨_, rfl⟩
    obtain ⟨MB, hMB⟩ : ∃ s, s = iB y.num := ⟨_, rfl⟩
    obtain ⟨CB, hCB⟩ : ∃ s, s = iB (y.den : Int) := ⟨_, rfl⟩
    simp only [← hNB, ← hDB, ← hMB, ← hCB, ← hS, ← hU] at HI1 HI2 HP1 HP2 HM H1 ⊢
    clear hNB hDB hMB hCB hS hU hO hdc hs fx fy hT
    generalize mulO x y = O at HM ⊢
    cases O
    all_goals
      unfold opV at HM ⊢
      dsimp only at HM ⊢
      rcases hb with rfl | ⟨rfl, rfl⟩
      all_goals
        go_enter Tryz.func87, Tryz.ntmps87
        go_wp2_with fail
        refine (H1.out _ hB HT.out).mono ?_
        rintro e w1 ⟨rfl, hb1⟩
        have HB1 := hide hb1
        clear hb1
        go_wp2_with fail
        refine (HI1.out _).mono ?_
        rintro e w2 ⟨rfl, hb2⟩
        have HB2 := hide (HB1.out.trans (hb2.mono HB1.out.size))
        clear hb2
        go_wp2_with fail
        refine (HI2.out _).mono ?_
        rintro e w3 ⟨rfl, hb3⟩
        have HB3 := hide (HB2.out.trans (hb3.mono HB2.out.size))
        clear hb3
        go_wp2_with fail
        refine (HP1.out _).mono ?_
        rintro e w4 ⟨rfl, hb4⟩
        have HB4 := hide (HB3.out.trans (hb4.mono HB3.out.size))
        clear hb4
        go_wp2_with fail
        refine (HP2.out _).mono ?_
        rintro e w5 ⟨rfl, hb5⟩
        have HB5 := hide (HB4.out.trans (hb5.mono HB4.out.size))
        clear hb5
        go_wp2_with fail
        refine (HM.out _ (Nat.le_trans hB HB5.out.size) (HT.out.p10.on HB5.out hB)).mono ?_
        rintro e w6 ⟨rfl, hb6⟩
        have HB6 := hide (HB5.out.trans (hb6.mono HB5.out.size))
        clear hb6
        go_wp2_with fail
        refine bodyPost_ret (results_tmp2 rfl _ _ _) rfl ?_
        exact ⟨rfl, HB6.out⟩
end Go.Proofs.YtfcjaljaomknjaaGreatDoor
namespace Go.KP
open Go
theorem region_class {P : Program} {C : World → Prop} {id : Nat} {Q : Exit → Act → World → Prop} {a : Act} {w : World} {l : List Oper} (hm : P.follows .mixedOrders = true) (hno : Region.noSelect l.toArray = true)
    (hlex : Region.lexFrom .any l.toArray l.length 0 (Array.replicate l.length false) = true) (hC : C { w with drawn := w.drawn + 1 })
    (h : wpQuiet P l.toArray C (fun a' => ∀ w', C w' → Q .normal a' w') l a) : (Code.region id l.toArray true).wp P Q a w := by
  refine wp_region_any hm ?_
  have h1 := wpAnyQ_lex (P := P) (C := C) (md := .any) hno l 0 (Array.replicate l.length false) a (by simp) hlex h
  have e : l.toArray.size = l.length := by simp
  rw [e]
  exact wpAny_of_quiet (C := C) (Q := fun a' => ∀ w', C w' → Q .normal a' w') (fun _ w' hw h => h w' hw) _ _ _ _ hC h1
end Go.KP
namespace Go.Proofs.YtfcjaljaomknjaaGreatDoor
open Go.RowKit Go.KP Go.KI Go.Shelf
attribute [local go_sem] Oper.semAt_some

theorem iB_T (z : Int) : iB z = T (z : Rat) := by
  apply bytes_eq
  rw [iB_list, T_list, ratS_int]
theorem sz_int {z : Int} {p : Nat} (h : z.natAbs < 10 ^ p) (hp : 1 ≤ p) : sz p (z : Rat) :=
  ⟨h, Nat.lt_of_lt_of_le (show (1 : Nat) < 10 ^ 1 by decide) (Nat.pow_le_pow_right (by omega) hp)⟩
theorem fitsQ_int {z : Int} (h : fits z) : fitsQ (z : Rat) := ⟨h, fits_one⟩
end Go.Proofs.YtfcjaljaomknjaaGreatDoor
namespace Go.KI
open Go
end Go.KI
namespace Go.Proofs.YtfcjaljaomknjaaGreatDoor
open Go.RowKit Go.KP Go.KI Go.Shelf
attribute [local go_sem] Oper.semAt_some

theorem T_num0 (q : Rat) : ((T q).toList == [48]) = decide (q.num = 0) := by
  rw [list_is (T_list q)]
  have h0 : ratS 0 = [48] := by rw [← T_list, T0]
  refine decide_eq_decide.2 ⟨fun e => by rw [ratS_inj (e.trans h0.symm)]; rfl, fun e => by rw [Rat.num_eq_zero.1 e, h0]⟩
open Go.RowKit Go.KP Go.KI Go.Shelf
attribute [local go_sem] Oper.semAt_some

theorem iB_lit (n : Nat) (l : List UInt8) (h : Lib.decDigits n = l) : iB (n : Int) = strB l := by
  unfold iB
  rw [Lib.itoa_nonneg, h]
theorem lit1 : iB ((1 : Nat) : Int) = ⟨#[49]⟩ := iB_lit 1 [49] (by decide +kernel)
end Go.Proofs.YtfcjaljaomknjaaGreatDoor
namespace Go.KP
open Go Go.RowKit

structure QuietO (O : Nat → Prop) (B : Nat) (S : Nat → Prop) (W W2 : World) : Prop where
  os : W2.os = W.os
  tape : W2.tape = W.tape
  output : W2.output = W.output
  size : W.heap.size ≤ W2.heap.size
  block : ∀ b, ¬ O b → (b < B ∨ S b) → b < W.heap.size → W2.heap[b]? = W.heap[b]?
theorem Quiet.toO {B : Nat} {S : Nat → Prop} {W W2 : World} (h : Quiet B S W W2) (O : Nat → Prop) : QuietO O B S W W2 :=
  ⟨h.os, h.tape, h.output, h.size, fun b _ hb hl => h.block b hb hl⟩
theorem QuietO.refl (O : Nat → Prop) (B : Nat) (S : Nat → Prop) (W : World) : QuietO O B S W W := ⟨rfl, rfl, rfl, Nat.le_refl _, fun _ _ _ _ => rfl⟩
theorem QuietO.trans {O : Nat → Prop} {B : Nat} {S : Nat → Prop} {a b c : World} (h : QuietO O B S a b) (k : QuietO O B S b c) : QuietO O B S a c :=
  ⟨k.os.trans h.os, k.tape.trans h.tape, k.output.trans h.output, Nat.le_trans h.size k.size, fun i hn hi hl => (k.block i hn hi (Nat.lt_of_lt_of_le hl h.size)).trans (h.block i hn hi hl)⟩
theorem QuietO.of_below {O : Nat → Prop} {B n : Nat} {S : Nat → Prop} {a w w2 : World} (h : QuietO O B S a w) (hb : Below n w w2) (hn : w.heap.size ≤ n) : QuietO O B S a w2 :=
  h.trans ⟨hb.os, hb.tape, hb.output, hb.size, fun b _ _ hl => hb.block b (by omega)⟩
theorem QuietO.set {O : Nat → Prop} {B : Nat} {S : Nat → Prop} {a w : World} (h : QuietO O B S a w) {p : Addr} (hp : O p.block) (u : Value) : QuietO O B S a (w.setCell p u) :=
  h.trans ⟨rfl, rfl, rfl, by simp [World.setCell], fun b hn _ _ => Below.heap_setCell _ _ _ _ (fun e => hn (by rw [e]; exact hp))⟩
def StaysO (O : Nat → Prop) (B : Nat) (J : (Nat → Prop) → World → Prop) : Prop := ∀ S W W2, J S W → QuietO O B S W W2 → J S W2
variable {P : Program}

def IterOwn (P : Program) (gf : Nat) (lb : Array Value) (encs : Nat → Array Value) (N : Nat) (Ke : Nat → World → Prop) (O : Nat → Prop) (w : World) : Prop :=
  ∀ (l : Nat) (J : Nat → (Nat → Prop) → World → Prop) (Jx : (Nat → Prop) → World → Prop) (W : World),
    (∀ b, O b → b < W.heap.size ∧ W.heap[b]? = w.heap[b]?) → (∀ k, StaysO O W.heap.size (J k)) → StaysO O W.heap.size Jx → (∀ k S W1, J k S W1 → ∀ b, S b → b < W1.heap.size) → (∀ k S W1, k ≤ N → J k S W1 → Ke k W1) →
    (∀ k S W1, k < N → J k S W1 → W.heap.size ≤ W1.heap.size →
      YieldAt Fence.wide 0 P l (encs k) W1 fun e W2 => ∃ S', Upd W.heap.size S S' W1 W2 ∧ (∀ b, O b → W2.heap[b]? = W1.heap[b]?) ∧
        ((e = .returned (.bool true) ∧ J (k + 1) S' W2) ∨ (e = .returned (.bool false) ∧ Jx S' W2))) →
    J 0 (fun _ => False) W →
    CallsIn Fence.wide 0 P gf (#[.func (.yield l) #[] #[]] ++ lb) W fun e W2 => (∃ v, e = .returned v) ∧ ∃ S, J N S W2 ∨ Jx S W2

def bodyEndO (B : Nat) (O : Nat → Prop) (I : (Nat → Prop) → World → Prop) (Ix : Code → (Nat → Prop) → World → Prop) (S : Nat → Prop) (W : World) : Exit → Act → World → Prop
  | .normal, _, W2 => ∃ S', Upd B S S' W W2 ∧ (∀ b, O b → W2.heap[b]? = W.heap[b]?) ∧ I S' W2
  | .ret, _, W2 => ∃ S', Upd B S S' W W2 ∧ (∀ b, O b → W2.heap[b]? = W.heap[b]?) ∧ Ix .ret S' W2
  | .exit id, _, W2 => ∃ S', Upd B S S' W W2 ∧ (∀ b, O b → W2.heap[b]? = W.heap[b]?) ∧ Ix (.exit id) S' W2
  | .goto t, _, W2 => ∃ S', Upd B S S' W W2 ∧ (∀ b, O b → W2.heap[b]? = W.heap[b]?) ∧ Ix (.goto t) S' W2
  | .panic _, _, _ => False
  | .outgrown, _, _ => False

theorem wp_iter_own {g : Operand} {ps : Array Tmp} {assign body : Code} {Q : Exit → Act → World → Prop} {a : Act} {w : World}
    {gf : Nat} {lb : Array Value} (hg : a.eval g = .func (.func gf) #[] lb) (eg : ∀ args w, (callFunc gf args).run P w = .ok (.enter gf args) w)
    {encs : Nat → Array Value} {N : Nat} {Ke : Nat → World → Prop} {O : Nat → Prop} {w0 : World} (hseq : IterOwn P gf lb encs N Ke O w0) (hO : ∀ b, O b → b < w.heap.size ∧ w.heap[b]? = w0.heap[b]?) (hps : ∀ k, (encs k).size = ps.size)
    (I : Nat → (Nat → Prop) → World → Prop) (Ix : Code → (Nat → Prop) → World → Prop) (hI : ∀ k, StaysO O w.heap.size (I k)) (hIx : ∀ c, StaysO O w.heap.size (Ix c)) (h0 : I 0 (fun _ => False) w) (hke : ∀ k S W, k ≤ N → I k S W → Ke k W)
    (Ax : Nat → (Nat → Prop) → Act → World → Prop)
    (hAx : ∀ k S a1 W l r r2, Ax k S a1 W → W.heap[l]? = some (.loop r) → Ax k S a1 (W.putObj l (.loop r2)))
    (hassign : ∀ (l k : Nat) (S : Nat → Prop) (W : World) (K : Act → World → Prop), w.heap.size ≤ W.heap.size → (∀ b, S b → b < W.heap.size) → (∀ a1 W1, Quiet w.heap.size S W W1 → Upd w.heap.size S S W W1 → Ax k S a1 W1 → K a1 W1) →
      assign.wpIn (Fence.wide.inRound l) 0 P (Exit.then K (fun _ _ _ => False)) { tmps := (ps.zip (encs k)).foldl (fun t (p, v) => t.setIfInBounds p v) a.tmps, defers := [] } W)
    (hS : ∀ k S W, I k S W → ∀ b, S b → b < W.heap.size)
    (hbody : ∀ (l k : Nat) (S : Nat → Prop) (a1 : Act) (W : World), k < N → I k S W → Ax k S a1 W → w.heap.size ≤ W.heap.size →
      body.wpIn (Fence.wide.inRound l) 0 P (bodyEndO w.heap.size O (I (k + 1)) Ix S W) a1 W)
    (hdone : ∀ (D : Nat) (S : Nat → Prop) (W : World), w.heap.size ≤ D → I N S W → W.heap[D]? = some (.deferred (some [])) → Q .normal { a with defers := { target := .collected D, args := #[] } :: a.defers } W)
    (hstop : ∀ (D : Nat) (c : Code) (S : Nat → Prop) (W : World), w.heap.size ≤ D → Ix c S W → W.heap[D]? = some (.deferred (some [])) → c.wpIn Fence.wide 0 P Q { a with defers := { target := .collected D, args := #[] } :: a.defers } W) :
    (Code.rangeFunc g ps assign body).wpIn Fence.wide 0 P Q a w := by
  refine wpIn_rangeFunc ?_
  intro fn _
  obtain ⟨rec, hrec⟩ : ∃ rec : LoopState → Option Code → Loop, rec = fun st pe => { state := st, pending := pe, fn, tmps := a.tmps, params := ps, assign, body, defers := w.heap.size } := ⟨_, rfl⟩
  obtain ⟨W1, hW1⟩ : ∃ W1, (w.alloc (.deferred (some []))).alloc (.loop (rec .ready none)) = W1 := ⟨_, rfl⟩
  have hL1 : W1.heap[w.heap.size + 1]? = some (.loop (rec .ready none)) := by
    rw [← hW1]; have h := World.alloc_heap_new (w.alloc (.deferred (some []))) (.loop (rec .ready none)); rwa [World.size_alloc] at h
  have hK1 : W1.heap[w.heap.size]? = some (.deferred (some [])) := by
    rw [← hW1]; exact (Below.heap_alloc _ _ _ (by simp)).trans (World.alloc_heap_new w _)
  have hq1 : Quiet w.heap.size (fun _ => False) w W1 := by rw [← hW1]; exact ((Quiet.refl _ _ w).alloc _).alloc _
  have hs1 : W1.heap.size = w.heap.size + 2 := by rw [← hW1]; simp
  have hn0 : ¬ O w.heap.size := fun h => by have := (hO _ h).1; omega
  have hn1 : ¬ O (w.heap.size + 1) := fun h => by have := (hO _ h).1; omega
  have hO1 : ∀ b, O b → b < W1.heap.size ∧ W1.heap[b]? = w0.heap[b]? := fun b hb => by
    obtain ⟨h1, h2⟩ := hO b hb
    exact ⟨by omega, (hq1.block b (.inl h1) h1).trans h2⟩
  have inner : ∀ (i : Nat) (S S' : Nat → Prop) (W W2 : World), w.heap.size ≤ i → i < w.heap.size + 2 → i < W.heap.size → ¬ S i → Upd w.heap.size S S' W W2 → W2.heap[i]? = W.heap[i]? ∧ ¬ S' i := fun i S S' W W2 h1 _ h3 h4 hu => hu.block i h1 h3 h4
  refine ⟨w.heap.size + 1, [{ target := .collected w.heap.size, args := #[] }], W1, { target := .fn (.func gf) lb, args := #[.func (.yield (w.heap.size + 1)) #[] #[]] }, W1, gf,
    #[.func (.yield (w.heap.size + 1)) #[] #[]] ++ lb, W1, ?_, ?_, ?_, ?_, fun h => by simp [Fence.wide] at h, ?_⟩
  · rw [← hW1, hrec]; exact run_enterLoop_outer _ _ _ _ _
  · simp only [resolve, hg]
    simp [go_sem]
  · exact fun _ _ => trivial
  · simp [invoke, go_sem, eg]
  · refine (hseq (w.heap.size + 1)
      (fun k S W => I k S W ∧ ¬ S w.heap.size ∧ ¬ S (w.heap.size + 1) ∧ W1.heap.size ≤ W.heap.size ∧ W.heap[w.heap.size + 1]? = some (.loop (rec .ready none)) ∧ W.heap[w.heap.size]? = some (.deferred (some [])))
      (fun S W => ∃ c, Ix c S W ∧ ¬ S w.heap.size ∧ ¬ S (w.heap.size + 1) ∧ W1.heap.size ≤ W.heap.size ∧ W.heap[w.heap.size + 1]? = some (.loop (rec .done (some c))) ∧ W.heap[w.heap.size]? = some (.deferred (some [])))
      W1 hO1 ?_ ?_ (fun k S W1 h => hS k S W1 h.1) (fun k S W1 hk h => hke k S W1 hk h.1) ?_ ⟨hI 0 _ _ _ h0 (hq1.toO O), fun h => h, fun h => h, Nat.le_refl _, hL1, hK1⟩).mono ?_
    · rintro k S W W2 ⟨hi, n1, n2, hsz, hl, hk⟩ hq
      have hw : w.heap.size + 1 < W.heap.size := (Array.getElem?_eq_some_iff.1 hl).1
      exact ⟨hI k _ _ _ hi ⟨hq.os, hq.tape, hq.output, hq.size, fun b hn hb hlt => hq.block b hn (hb.imp (fun h => by omega) id) hlt⟩, n1, n2, Nat.le_trans hsz hq.size,
        (hq.block _ hn1 (.inl (by omega)) hw).trans hl, (hq.block _ hn0 (.inl (by omega)) (by omega)).trans hk⟩
    · rintro S W W2 ⟨c, hi, n1, n2, hsz, hl, hk⟩ hq
      have hw : w.heap.size + 1 < W.heap.size := (Array.getElem?_eq_some_iff.1 hl).1
      exact ⟨c, hIx c _ _ _ hi ⟨hq.os, hq.tape, hq.output, hq.size, fun b hn hb hlt => hq.block b hn (hb.imp (fun h => by omega) id) hlt⟩, n1, n2, Nat.le_trans hsz hq.size,
        (hq.block _ hn1 (.inl (by omega)) hw).trans hl, (hq.block _ hn0 (.inl (by omega)) (by omega)).trans hk⟩
    · rintro k S W hkN ⟨hi, n1, n2, hsz, hl, hk⟩ _
      have hlt : w.heap.size + 1 < W.heap.size := (Array.getElem?_eq_some_iff.1 hl).1
      have hy := run_yield (P := P) (args := encs k) hl (by rw [hrec]; exact hps k)
      rw [hrec] at hy
      refine ⟨fn, _, assign, body, hy, roundIn_of_wpIn trivial (hassign _ k S W _ (by omega) (hS k S W hi) ?_)⟩
      intro a1 Wa hqa hua hax
      have hla := (inner (w.heap.size + 1) _ _ _ _ (by omega) (by omega) hlt n2 hua).1.trans hl
      have hka := (inner w.heap.size _ _ _ _ (by omega) (by omega) (by omega) n1 hua).1.trans hk
      have hsa := hua.size
      refine ⟨_, run_beginRound hla (by rw [hrec]), ?_⟩
      have hlt2 : w.heap.size + 1 < Wa.heap.size := by omega
      have hia := hI k _ _ _ hi (hqa.toO O)
      obtain ⟨W2, hW2⟩ : ∃ W2, Wa.putObj (w.heap.size + 1) (.loop { rec .ready none with state := .busy }) = W2 := ⟨_, rfl⟩
      have hq2 : Quiet w.heap.size S Wa W2 := by rw [← hW2]; exact putObj_quiet _ _ _ (by omega) n2
      have hax2 : Ax k S a1 W2 := by rw [← hW2]; exact hAx _ _ _ _ _ _ _ hax hla
      have hl2 : W2.heap[w.heap.size + 1]? = some (.loop { rec .ready none with state := .busy }) := by rw [← hW2]; exact World.putObj_heap_same hlt2
      have hk2 : W2.heap[w.heap.size]? = some (.deferred (some [])) := by rw [← hW2]; exact (World.putObj_heap_other (by omega)).trans hka
      have hs2 : W2.heap.size = Wa.heap.size := by rw [← hW2]; simp
      rw [hW2]
      refine wpIn_mono (hbody _ k S a1 W2 hkN (hI k _ _ _ hia (hq2.toO O)) hax2 (by omega)) ?_
      have fin : ∀ (jump : Option Code) (S' : Nat → Prop) (W3 : World), Upd w.heap.size S S' W2 W3 → (∀ b, O b → W3.heap[b]? = W2.heap[b]?) →
          ∃ W4, (Instr.endRound (w.heap.size + 1) jump).run P W3 = .ok (.bool jump.isNone) W4 ∧ Upd W1.heap.size S S' W W4 ∧ (∀ b, O b → W4.heap[b]? = W.heap[b]?) ∧ Quiet w.heap.size S' W3 W4 ∧
            ¬ S' w.heap.size ∧ ¬ S' (w.heap.size + 1) ∧ W1.heap.size ≤ W4.heap.size ∧
            W4.heap[w.heap.size + 1]? = some (.loop (rec (if jump.isNone then .ready else .done) jump)) ∧ W4.heap[w.heap.size]? = some (.deferred (some [])) := fun jump S' W3 hu ho3 => by
        have hl3 := (inner (w.heap.size + 1) _ _ _ _ (by omega) (by omega) (by omega) n2 hu)
        have hk3 := (inner w.heap.size _ _ _ _ (by omega) (by omega) (by omega) n1 hu)
        have hl4 := hl3.1.trans hl2
        have hs3 := hu.size
        have hr := run_endRound (P := P) jump hl4
        have e : ({ rec .ready none with state := if jump.isNone then LoopState.ready else LoopState.done, pending := jump } : Loop) = rec (if jump.isNone then .ready else .done) jump := by rw [hrec]
        simp only at hr
        rw [e] at hr
        have hq4 : Quiet w.heap.size S' W3 (W3.putObj (w.heap.size + 1) (.loop (rec (if jump.isNone then .ready else .done) jump))) := putObj_quiet _ _ _ (by omega) hl3.2
        refine ⟨_, hr, ⟨by simp; omega, fun b hB hlt' hs' => ?_⟩, fun b hb => ?_, hq4, hk3.2, hl3.2, by simp; omega, World.putObj_heap_same (by omega), (World.putObj_heap_other (by omega)).trans (hk3.1.trans hk2)⟩
        · obtain ⟨g1, g2⟩ := hua.block b (by omega) hlt' hs'
          obtain ⟨g3, g4⟩ := hu.block b (by omega) (by omega) g2
          refine ⟨(World.putObj_heap_other (by omega)).trans (g3.trans ?_), g4⟩
          rw [← hW2, World.putObj_heap_other (by omega)]
          exact g1
        · obtain ⟨h1, _⟩ := hO b hb
          refine (hq4.block b (.inl h1) (by omega)).trans ((ho3 b hb).trans ?_)
          exact (hq2.block b (.inl h1) (by omega)).trans (hqa.block b (.inl h1) (by omega))
      rintro e a3 W3 hp
      cases e with
      | normal =>
        obtain ⟨S', hu, ho3, hi3⟩ := hp
        obtain ⟨W4, hr, hu4, ho4, hq4, m1, m2, m3, hl4, hk4⟩ := fin none S' W3 hu ho3
        exact ⟨_, _, hr, S', hu4, ho4, .inl ⟨rfl, hI _ _ _ _ hi3 (hq4.toO O), m1, m2, m3, hl4, hk4⟩⟩
      | ret =>
        obtain ⟨S', hu, ho3, hi3⟩ := hp
        obtain ⟨W4, hr, hu4, ho4, hq4, m1, m2, m3, hl4, hk4⟩ := fin (some .ret) S' W3 hu ho3
        exact ⟨_, _, hr, S', hu4, ho4, .inr ⟨rfl, .ret, hIx _ _ _ _ hi3 (hq4.toO O), m1, m2, m3, hl4, hk4⟩⟩
      | exit id =>
        obtain ⟨S', hu, ho3, hi3⟩ := hp
        obtain ⟨W4, hr, hu4, ho4, hq4, m1, m2, m3, hl4, hk4⟩ := fin (some (.exit id)) S' W3 hu ho3
        exact ⟨_, _, hr, S', hu4, ho4, .inr ⟨rfl, .exit id, hIx _ _ _ _ hi3 (hq4.toO O), m1, m2, m3, hl4, hk4⟩⟩
      | goto t =>
        obtain ⟨S', hu, ho3, hi3⟩ := hp
        obtain ⟨W4, hr, hu4, ho4, hq4, m1, m2, m3, hl4, hk4⟩ := fin (some (.goto t)) S' W3 hu ho3
        exact ⟨_, _, hr, S', hu4, ho4, .inr ⟨rfl, .goto t, hIx _ _ _ _ hi3 (hq4.toO O), m1, m2, m3, hl4, hk4⟩⟩
      | panic ch => exact hp.elim
      | outgrown => exact hp.elim
    · rintro e W2 ⟨⟨v, rfl⟩, S, (⟨hi, n1, n2, hsz, hl, hk⟩ | ⟨c, hi, n1, n2, hsz, hl, hk⟩)⟩
      · refine ⟨none, _, by have h := run_endLoop (P := P) hl (by rw [hrec]; simp); rw [hrec] at h; exact h, ?_⟩
        exact hdone _ S _ (Nat.le_refl _) (hI _ _ _ _ hi ((putObj_quiet _ _ _ (by omega) n2).toO O)) ((World.putObj_heap_other (by omega)).trans hk)
      · refine ⟨some c, _, by have h := run_endLoop (P := P) hl (by rw [hrec]; simp); rw [hrec] at h; exact h, ?_⟩
        exact hstop _ c S _ (Nat.le_refl _) (hIx _ _ _ _ hi ((putObj_quiet _ _ _ (by omega) n2).toO O)) ((World.putObj_heap_other (by omega)).trans hk)
end Go.KP
namespace Go.KI
open Go
end Go.KI
namespace Go.Proofs.YtfcjaljaomknjaaGreatDoor
open Go.RowKit Go.KP Go.KI Go.Shelf
attribute [local go_sem] Oper.semAt_some

instance ofBelow (n : Nat) (w : World) : Nonempty (Of (Below n w)) := ⟨⟨w, Below.refl n w⟩⟩
end Go.Proofs.YtfcjaljaomknjaaGreatDoor
namespace Go.KI
open Go
def okS (s : ByteArray) : Prop := s.size ≤ 20 ∧ chkQ s.data.toList = 0
instance (s : ByteArray) : Decidable (okS s) := inferInstanceAs (Decidable (_ ∧ _))
end Go.KI
namespace Go.Proofs.YtfcjaljaomknjaaGreatDoor
open Go.RowKit Go.KP Go.KI Go.Shelf
attribute [local go_sem] Oper.semAt_some

theorem T1 : T 1 = ⟨#[49]⟩ := by
  rw [show T 1 = iB ((1 : Nat) : Int) from (iB_T _).symm]
  exact lit1
open Go.RowKit Go.KP Go.KI Go.Shelf
attribute [local go_sem] Oper.semAt_some

theorem r2Parts_T {q : Rat} (fq : fitsQ q) (B : Nat) (w : World) (hB : B ≤ w.heap.size) (hT : PQ B w) :
    Calls Tryz.prog 81 #[.string (T q)] w (Ret w (.tuple #[.string (iB q.num), .string (iB (q.den : Int)), .int .i64 0])) := by
  have HT := hide hT
  have H1 := hide (fun w hB hT => r2Check_T fq B w hB hT)
  have H2 := hide (fun w => r2parts_T fq w)
  generalize iB q.num = N at H2 ⊢
  generalize iB (q.den : Int) = D at H2 ⊢
  generalize T q = X at *
  clear fq hT
  go_enter Tryz.func81, Tryz.ntmps81
  go_wp2_with fail
  refine (H1.out _ hB HT.out).mono ?_
  rintro e w1 ⟨rfl, hb1⟩
  have HB1 := hide hb1
  clear hb1
  go_wp2_with fail
  refine (H2.out _).mono ?_
  rintro e w2 ⟨rfl, hb2⟩
  have HB2 := hide (HB1.out.trans (hb2.mono HB1.out.size))
  clear hb2
  go_wp2_with fail
  refine bodyPost_ret (results_tmp3 rfl _ _ _) rfl ?_
  exact ⟨rfl, HB2.out⟩
theorem r2Div_T {x y : Rat} (fx : fitsQ x) (fy : fitsQ y) (hy : 0 < y.num) (hc : cmpC x y) (B : Nat) (w : World) (hB : B ≤ w.heap.size) (hT : PQ B w) :
    Calls Tryz.prog 52 #[.string (T x), .string (T y)] w (Ret w (.tuple #[.string (T (x / y)), .int .i64 0])) := by
  have HT := hide hT
  have H1 := hide (fun w hB hT => r2check_T fx fy B w hB hT)
  have hdiv := divInt_div x y
  have hz : ((T y).toList == [48]) = false := by rw [T_num0, decide_eq_false (by omega)]
  by_cases hs : shortQ x ∧ shortQ y
  · have HI1 := hide (fun w => ints_short fx hs.1 w)
    have HI2 := hide (fun w => ints_short fy hs.2 w)
    obtain ⟨a1, a2⟩ := shortQ_lt hs.1
    obtain ⟨b1, b2⟩ := shortQ_lt hs.2
    have ap := x.den_pos
    have bp := y.den_pos
    have m1 := prod9 (a := x.num) (b := (y.den : Int)) a1 (by omega)
    have m3 := prod9 (a := (x.den : Int)) (b := y.num) (by omega) b1
    have e0 : y.num = ((y.num.toNat : Nat) : Int) := by omega
    have m4 : 0 < x.den * y.num.toNat := Nat.mul_pos ap (by omega)
    have m5 : ((x.den * y.num.toNat : Nat) : Int) = (x.den : Int) * y.num := by rw [Int.natCast_mul, ← e0]
    have HQ := hide (fun w => r2quick_any (x.num * (y.den : Int)) (x.den * y.num.toNat) (by omega) (by omega) m4 w)
    rw [m5, Int.mul_comm (x.den : Int) y.num, hdiv] at HQ
    rw [Int.mul_comm y.num (x.den : Int)] at HQ
    obtain ⟨R, hR⟩ : ∃ s, s = T (x / y) := ⟨_, rfl⟩
    have hR2 : strB (ratS (x / y)) = R := hR.symm
    rw [hR2] at HQ
    rw [← hR]
    generalize T x = S at *
    generalize T y = U at *
    obtain ⟨n, hn⟩ : ∃ n, n = x.num := ⟨_, rfl⟩
    obtain ⟨d, hd⟩ : ∃ n, n = (x.den : Int) := ⟨_, rfl⟩
    obtain ⟨m, hm⟩ : ∃ n, n = y.num := ⟨_, rfl⟩
    obtain ⟨c, hcc⟩ : ∃ n, n = (y.den : Int) := ⟨_, rfl⟩
    simp only [← hn, ← hd, ← hm, ← hcc] at HI1 HI2 HQ
    have v1 : IntKind.i64.wrap (n * c) = n * c := IntWalk.i64_in _ (by rw [hn, hcc]; omega)
    have v2 : IntKind.i64.wrap (d * m) = d * m := IntWalk.i64_in _ (by rw [hd, hm]; omega)
    have l1 : -9223372036854775808 ≤ n * c := by rw [hn, hcc]; omega
    have l2 : n * c ≤ 9223372036854775807 := by rw [hn, hcc]; omega
    have l3 : -9223372036854775808 ≤ d * m := by rw [hd, hm]; omega
    have l4 : d * m ≤ 9223372036854775807 := by rw [hd, hm]; omega
    have hm0 : (m < 0) = False := eq_false (by omega)
    clear hR hR2 hn hd hm hcc a1 a2 b1 b2 ap bp m1 m3 e0 m4 m5 hdiv hy hc hs fx fy hT
    go_enter Tryz.func52, Tryz.ntmps52
    go_wp2_with fail
    refine (H1.out _ hB HT.out).mono ?_
    rintro e w1 ⟨rfl, hb1⟩
    have HB1 := hide hb1
    clear hb1
    go_wp2_with fail
    refine (HI1.out _).mono ?_
    rintro e w2 ⟨rfl, hb2⟩
    have HB2 := hide (HB1.out.trans (hb2.mono HB1.out.size))
    clear hb2
    go_wp2_with fail
    refine (HI2.out _).mono ?_
    rintro e w3 ⟨rfl, hb3⟩
    have HB3 := hide (HB2.out.trans (hb3.mono HB2.out.size))
    clear hb3
    go_wp2_with fail
    refine (HQ.out _).mono ?_
    rintro e w4 ⟨rfl, hb4⟩
    have HB4 := hide (HB3.out.trans (hb4.mono HB3.out.size))
    clear hb4
    go_wp2_with fail
    refine bodyPost_ret (results_tmp2 rfl _ _ _) rfl ?_
    exact ⟨rfl, HB4.out⟩
  · obtain ⟨i1, i2, b1, b2, i3, i4, HI1, HI2, hb⟩ := ints_long fx fy hs
    have HP1 := hide (fun w => r2parts_T fx w)
    have HP2 := hide (fun w => r2parts_T fy w)
    have hdc : (x.den : Int) * y.num ≠ 0 := by
      have := Int.mul_pos (show 0 < (x.den : Int) by have := x.den_pos; omega) hy
      omega
    have HM := hide (fun w hB hT => r2mul_I fx.1 fx.2 fy.2 fy.1 hdc B w hB hT)
    have hO : mulI x.num (x.den : Int) (y.den : Int) y.num = some (x / y) := by
      unfold mulI
      rw [if_pos ⟨hc.1, by rw [Int.mul_comm]; exact hc.2⟩, Int.mul_comm (x.den : Int) y.num, hdiv]
    rw [hO] at HM
    unfold opV at HM
    dsimp only at HM
    generalize T (x / y) = R at HM ⊢
    generalize iB x.num = NB at *
    generalize iB (x.den : Int) = DB at *
    generalize iB y.num = MB at *
    generalize iB (y.den : Int) = CB at *
    generalize T x = S at *
    generalize T y = U at *
    clear hdc hO hdiv hy hc hs fx fy hT
    rcases hb with rfl | ⟨rfl, rfl⟩
    all_goals
      go_enter Tryz.func52, Tryz.ntmps52
      go_wp2_with fail
      refine (H1.out _ hB HT.out).mono ?_
      rintro e w1 ⟨rfl, hb1⟩
      have HB1 := hide hb1
      clear hb1
      go_wp2_with fail
      refine (HI1.out _).mono ?_
      rintro e w2 ⟨rfl, hb2⟩
      have HB2 := hide (HB1.out.trans (hb2.mono HB1.out.size))
      clear hb2
      go_wp2_with fail
      refine (HI2.out _).mono ?_
      rintro e w3 ⟨rfl, hb3⟩
      have HB3 := hide (HB2.out.trans (hb3.mono HB2.out.size))
      clear hb3
      go_wp2_with fail
      refine (HP1.out _).mono ?_
      rintro e w4 ⟨rfl, hb4⟩
      have HB4 := hide (HB3.out.trans (hb4.mono HB3.out.size))
      clear hb4
      go_wp2_with fail
      refine (HP2.out _).mono ?_
      rintro e w5 ⟨rfl, hb5⟩
      have HB5 := hide (HB4.out.trans (hb5.mono HB4.out.size))
      clear hb5
      go_wp2_with fail
      refine (HM.out _ (Nat.le_trans hB HB5.out.size) (HT.out.p10.on HB5.out hB)).mono ?_
      rintro e w6 ⟨rfl, hb6⟩
      have HB6 := hide (HB5.out.trans (hb6.mono HB5.out.size))
      clear hb6
      go_wp2_with fail
      refine bodyPost_ret (results_tmp2 rfl _ _ _) rfl ?_
      exact ⟨rfl, HB6.out⟩
theorem iB_size_abs (z : Int) : (iB z).size = if z < 0 then (Lib.decDigits z.natAbs).length + 1 else (Lib.decDigits z.natAbs).length := by
  rw [← bytes_len, iB_list]
  rcases itoa_cases z with ⟨h1, h⟩ | ⟨h1, h⟩ <;> rw [h]
  · rw [if_pos h1, List.length_cons]
  · rw [if_neg (by omega)]
open Go.RowKit Go.KP Go.KI Go.Shelf
attribute [local go_sem] Oper.semAt_some

theorem txq {x : Rat} {n d : Nat} {a b : List UInt8} (h1 : x.num = (n : Int)) (h2 : x.den = d) (h3 : d ≠ 1) (ha : Lib.decDigits n = a) (hb : Lib.decDigits d = b) : T x = strB (a ++ 47 :: b) := by
  unfold T ratS
  rw [if_neg (by omega), h1, Lib.itoa_nonneg, h2, ha, hb]
theorem txn {x : Rat} {n : Nat} {a : List UInt8} (h : x = ((n : Nat) : Rat)) (ha : Lib.decDigits n = a) : T x = strB a := by
  rw [h, show T ((n : Nat) : Rat) = iB (n : Int) from (iB_T _).symm, iB_lit n a ha]
abbrev e12 : Rat := ⟨1, 2, by decide, by decide⟩
theorem ex2 : T 2 = ⟨#[50]⟩ := txn (n := 2) rfl (a := [50]) (by decide +kernel)
end Go.Proofs.YtfcjaljaomknjaaGreatDoor
namespace Go.KI
open Go
end Go.KI
namespace Go.Proofs.YtfcjaljaomknjaaGreatDoor
open Go.RowKit Go.KP Go.KI Go.Shelf
attribute [local go_sem] Oper.semAt_some

theorem floor_divInt (x : Rat) : x.floor = x.num / (x.den : Int) := Rat.floor_def x
end Go.Proofs.YtfcjaljaomknjaaGreatDoor
namespace Go.KI
open Go

def near2 (n : Int) (d : Int) : Int := (2 * n + d).fdiv (2 * d)
theorem near2_spec {n d : Int} (hd : 0 < d) : 2 * d * near2 n d ≤ 2 * n + d ∧ 2 * n + d < 2 * d * near2 n d + 2 * d := by
  unfold near2
  rw [Int.fdiv_eq_ediv_of_nonneg _ (by omega)]
  have h1 := Int.mul_ediv_add_emod (2 * n + d) (2 * d)
  have h2 := Int.emod_nonneg (2 * n + d) (show 2 * d ≠ 0 by omega)
  have h3 := Int.emod_lt_of_pos (2 * n + d) (show 0 < 2 * d by omega)
  omega
open Go

def feetT (m : Int) : List UInt8 :=
  (if decide (m < 0) then [45] else []) ++ (Lib.decDigits (m.natAbs / 144) ++ 39 :: (Lib.decDigits (m.natAbs % 144 / 12) ++ 34 :: Lib.decDigits (m.natAbs % 144 % 12)))
def smallT (l : List UInt8) : Prop := (l.length = 1 ∧ allDg l) ∨ l = [49, 48] ∨ l = [49, 49]
instance (l : List UInt8) : Decidable (smallT l) := inferInstanceAs (Decidable (_ ∨ _ ∨ _))
theorem ten_dec : Lib.decDigits 10 = [49, 48] := by rw [Lib.decDigits, dif_neg (by omega), show 10 / 10 = 1 from rfl, one_dec]; rfl
theorem eleven_dec : Lib.decDigits 11 = [49, 49] := by rw [Lib.decDigits, dif_neg (by omega), show 11 / 10 = 1 from rfl, one_dec]; rfl
theorem smallT_dec {l : List UInt8} (h : smallT l) : l = Lib.decDigits (dv l) ∧ dv l ≤ 11 := by
  rcases h with ⟨h1, h2⟩ | h | h
  · refine ⟨dec_of h2.1 h2.2 (fun hl => by omega), ?_⟩
    have := dv_lt l h2.2
    rw [h1] at this
    omega
  · rw [h]
    exact ⟨by rw [show dv [49, 48] = 10 from rfl, ten_dec], by decide⟩
  · rw [h]
    exact ⟨by rw [show dv [49, 49] = 11 from rfl, eleven_dec], by decide⟩
theorem dec_smallT {u : Nat} (h : u ≤ 11) : smallT (Lib.decDigits u) := by
  rcases (show u < 10 ∨ u = 10 ∨ u = 11 by omega) with h1 | h1 | h1
  · refine .inl ⟨?_, decDigits_ne u, decDigits_dg u⟩
    rw [Lib.decDigits_one h1]
    rfl
  · rw [h1, ten_dec]; exact .inr (.inl rfl)
  · rw [h1, eleven_dec]; exact .inr (.inr rfl)
def feetOK (l : List UInt8) : Prop :=
  39 ∈ digs l ∧ 34 ∈ behind 39 (digs l) ∧ numeral (ahead 39 (digs l)) ∧ smallT (ahead 34 (behind 39 (digs l))) ∧ smallT (behind 34 (behind 39 (digs l))) ∧ l ≠ [45, 48, 39, 48, 34, 48]
instance (l : List UInt8) : Decidable (feetOK l) := inferInstanceAs (Decidable (_ ∧ _ ∧ _ ∧ _ ∧ _ ∧ _))
end Go.KI
