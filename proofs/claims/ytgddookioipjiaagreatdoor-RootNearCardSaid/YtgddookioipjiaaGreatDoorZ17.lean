/-
  Texts of the integers, laid together: Ju.
-/
import Derived.Test.YtgddookioipjiaaGreatDoorZ16
namespace Go.Proofs.YtgddookioipjiaaGreatDoor
open Go.RowKit Go.KP Go.KI Go.Shelf
attribute [local go_sem] Oper.semAt_some

set_option maxRecDepth 100000 in
set_option maxHeartbeats 16000000 in
theorem lawNear_any (q u : ByteArray) (n0 : Nat) (w : World) (hB : n0 ≤ w.heap.size) (hT : PR n0 w) :
    Calls Tryz.prog 11 #[.string q, .string u] w (Ret w (.bool true)) := by
  have HT := hide hT
  have HAW := hide (fun w hB hT => l3awake_any n0 w hB hT)
  have X0 := hide (heap1 w (.cells #[.string q, .string u] 22))
  have HF := hide (lsizes_any w.heap.size [q, u] (by simp) n0 _ (strs2 X0.out.1) (Nat.le_trans hB X0.out.2.2.size) (hT.on X0.out.2.2 hB).pq)
  clear hT
  by_cases h : ∀ s ∈ [q, u], okS s
  rotate_left
  · rw [decide_eq_false h] at HF
    clear h
    go_enter Tryz.func11, Tryz.ntmps11
    go_wp2_with fail
    refine HF.out.mono ?_
    rintro e w1 ⟨rfl, hb1⟩
    have HB1 := hide (X0.out.2.2.trans (hb1.mono X0.out.2.2.size))
    clear hb1 X0
    go_wp2_with fail
    refine (HAW.out _ (Nat.le_trans hB HB1.out.size) (HT.out.on HB1.out hB)).mono ?_
    rintro e w99 ⟨rfl, hb99⟩
    have HB99 := hide (HB1.out.trans (hb99.mono HB1.out.size))
    clear hb99
    go_wp2_with fail
    go_ret
    exact ⟨rfl, HB99.out⟩
  rw [decide_eq_true h] at HF
  obtain ⟨Q, sQ, rfl⟩ := okS_T (h q (by simp))
  obtain ⟨U, sU, rfl⟩ := okS_T (h u (by simp))
  clear h
  have fQ := sz_fits sQ (by rw [most_eq]; omega)
  have rQ := roomy_of sQ (by omega)
  have fU := sz_fits sU (by rw [most_eq]; omega)
  have rU := roomy_of sU (by omega)
  have HS0 := hide (fun w hB hT => lsign_T fQ n0 w hB hT)
  have HS1 := hide (fun w hB hT => lsign_T fU n0 w hB hT)
  by_cases g0 : sgnR Q < 0
  · clear sQ rQ fQ sU rU fU
    generalize sgnR Q = z0 at *
    go_enter Tryz.func11, Tryz.ntmps11
    go_wp2_with fail
    refine HF.out.mono ?_
    rintro e w1 ⟨rfl, hb1⟩
    have HB1 := hide (X0.out.2.2.trans (hb1.mono X0.out.2.2.size))
    clear hb1 X0
    go_wp2_with fail
    refine (HS0.out _ (Nat.le_trans hB HB1.out.size) (HT.out.on HB1.out hB).pq).mono ?_
    rintro e w2 ⟨rfl, hb2⟩
    have HB2 := hide (HB1.out.trans (hb2.mono HB1.out.size))
    clear hb2
    go_wp2_with fail
    refine (HAW.out _ (Nat.le_trans hB HB2.out.size) (HT.out.on HB2.out hB)).mono ?_
    rintro e w99 ⟨rfl, hb99⟩
    have HB99 := hide (HB2.out.trans (hb99.mono HB2.out.size))
    clear hb99
    go_wp2_with fail
    go_ret
    exact ⟨rfl, HB99.out⟩
  have nQ := sgn_nonneg g0
  replace g0 := eq_false g0
  by_cases g1 : sgnR U ≤ 0
  · clear sQ rQ fQ sU rU fU
    generalize sgnR Q = z0 at *
    generalize sgnR U = z1 at *
    go_enter Tryz.func11, Tryz.ntmps11
    go_wp2_with fail
    refine HF.out.mono ?_
    rintro e w1 ⟨rfl, hb1⟩
    have HB1 := hide (X0.out.2.2.trans (hb1.mono X0.out.2.2.size))
    clear hb1 X0
    go_wp2_with fail
    refine (HS0.out _ (Nat.le_trans hB HB1.out.size) (HT.out.on HB1.out hB).pq).mono ?_
    rintro e w2 ⟨rfl, hb2⟩
    have HB2 := hide (HB1.out.trans (hb2.mono HB1.out.size))
    clear hb2
    go_wp2_with fail
    refine (HS1.out _ (Nat.le_trans hB HB2.out.size) (HT.out.on HB2.out hB).pq).mono ?_
    rintro e w3 ⟨rfl, hb3⟩
    have HB3 := hide (HB2.out.trans (hb3.mono HB2.out.size))
    clear hb3
    go_wp2_with fail
    refine (HAW.out _ (Nat.le_trans hB HB3.out.size) (HT.out.on HB3.out hB)).mono ?_
    rintro e w99 ⟨rfl, hb99⟩
    have HB99 := hide (HB3.out.trans (hb99.mono HB3.out.size))
    clear hb99
    go_wp2_with fail
    go_ret
    exact ⟨rfl, HB99.out⟩
  have nU := sgn_pos g1
  replace g1 := eq_false g1
  have law := near_law nQ nU
  have sX := nearR_sz sQ sU
  have fX := sz_fits sX (by rw [most_eq]; omega)
  have sN := sz_natc (n := (unitsN Q U 4 + 1) / 2) (p := 32) (by have := unitsN_lt (f := 4) (k := 31) sQ sU (by omega) (by omega); have e : (10 : Nat) ^ 32 = 10 ^ 31 * 10 := Nat.pow_succ ..; omega) (by omega)
  have up := pos_num nU
  have un : U ≠ 0 := Rat.ne_of_gt up
  have s2 : sz 1 (2 : Rat) := ⟨by decide, by decide⟩
  have C1 := hide (fun w hB hT => rNearest_T rQ rU nQ nU n0 w hB hT)
  have C2 := hide (fun w hB hT => qdiv_to (T_list (nearR Q U)) (T_list U) fX fU un (cmpC_of sX sU (by rw [most_eq]; omega)) n0 w hB hT)
  rw [law.1, show strB (ratS (((unitsN Q U 4 + 1) / 2 : Nat) : Rat)) = T (((unitsN Q U 4 + 1) / 2 : Nat) : Rat) from rfl] at C2
  have C3 := hide (fun w hB hT => qfloor_to (T_list (((unitsN Q U 4 + 1) / 2 : Nat) : Rat)) (sz_fits sN (by rw [most_eq]; omega)) n0 w hB hT)
  rw [floor_natc, show strB (ratS (((unitsN Q U 4 + 1) / 2 : Nat) : Rat)) = T (((unitsN Q U 4 + 1) / 2 : Nat) : Rat) from rfl] at C3
  have C4 := hide (fun w hB hT => qdiv_to (T_list U) (T_list 2) fU (sz_fits s2 (by rw [most_eq]; omega)) (by decide) (cmpC_of sU s2 (by rw [most_eq]; omega)) n0 w hB hT)
  rw [show strB (ratS (U / 2)) = T (U / 2) from rfl, ex2] at C4
  have sH := sz_div (by omega) sU s2
  have fH := sz_fits sH (by rw [most_eq]; omega)
  have C5 := hide (fun w hB hT => qadd_to (T_list (nearR Q U)) (T_list (U / 2)) fX fH (addC_of sX sH (by rw [most_eq]; omega)) n0 w hB hT)
  rw [show strB (ratS (nearR Q U + U / 2)) = T (nearR Q U + U / 2) from rfl] at C5
  have C6 := hide (fun w hB hT => qsub_to (T_list (nearR Q U)) (T_list (U / 2)) fX fH (subC_of sX sH (by rw [most_eq]; omega)) n0 w hB hT)
  rw [show strB (ratS (nearR Q U - U / 2)) = T (nearR Q U - U / 2) from rfl] at C6
  have sY := sz_add sX sH
  have sZ := sz_sub sX sH
  have C7 := hide (fun w r hr hB hT => ltimes2 sY sY (by omega) n0 w r hr hB hT)
  have C9 := hide (fun w r hr hB hT => ltimes2 sZ sZ (by omega) n0 w r hr hB hT)
  have sYY := (okT2 sY sY (by omega)).2.2
  have sZZ := (okT2 sZ sZ (by omega)).2.2
  have C8 := hide (fun w hB hT => qcmp_T (sz_fits sYY (by rw [most_eq]; omega)) fQ (cmpC_of sYY sQ (by rw [most_eq]; omega)) n0 w hB hT)
  have C10 := hide (fun w hB hT => qcmp_T (sz_fits sZZ (by rw [most_eq]; omega)) fQ (cmpC_of sZZ sQ (by rw [most_eq]; omega)) n0 w hB hT)
  have C11 := hide (fun w hB hT => lsign_T (sz_fits sZ (by rw [most_eq]; omega)) n0 w hB hT)
  have a1 : 0 < cmpR ((nearR Q U + U / 2) * (nearR Q U + U / 2)) Q := by rw [cmpT_gt law.2.1]; decide
  have HW : cmpR ((nearR Q U - U / 2) * (nearR Q U - U / 2)) Q ≤ 0 ∨ ((cmpR ((nearR Q U - U / 2) * (nearR Q U - U / 2)) Q ≤ 0) = False ∧ sgnR (nearR Q U - U / 2) < 0) := by
    by_cases hb : cmpR ((nearR Q U - U / 2) * (nearR Q U - U / 2)) Q ≤ 0
    · exact .inl hb
    · refine .inr ⟨eq_false hb, ?_⟩
      rcases law.2.2 with h | h
      · exact absurd (cmp_le h) hb
      · exact sgn_neg h
  have hmx := mxe4
  have hm2 := mxe2
  generalize cmpR ((nearR Q U + U / 2) * (nearR Q U + U / 2)) Q = z5 at *
  generalize cmpR ((nearR Q U - U / 2) * (nearR Q U - U / 2)) Q = z6 at *
  generalize sgnR (nearR Q U - U / 2) = z7 at *
  generalize T ((nearR Q U + U / 2) * (nearR Q U + U / 2)) = YY at *
  generalize T ((nearR Q U - U / 2) * (nearR Q U - U / 2)) = ZZ at *
  generalize T (nearR Q U + U / 2) = Y at *
  generalize T (nearR Q U - U / 2) = Z at *
  generalize T (U / 2) = H at *
  generalize T (nearR Q U) = X at *
  generalize T (((unitsN Q U 4 + 1) / 2 : Nat) : Rat) = N at *
  have HW := hide HW
  clear law sX fX sN up un s2 sH fH sY sZ sYY sZZ rQ rU sQ sU fQ fU nQ nU
  generalize sgnR Q = z0 at *
  generalize sgnR U = z1 at *
  generalize T Q = TQ at *
  generalize T U = TU at *
  obtain ⟨e1, e2⟩ := beqs N
  go_enter Tryz.func11, Tryz.ntmps11
  go_wp2_with fail
  refine HF.out.mono ?_
  rintro e w1 ⟨rfl, hb1⟩
  have HB1 := hide (X0.out.2.2.trans (hb1.mono X0.out.2.2.size))
  clear hb1 X0
  go_wp2_with fail
  refine (HS0.out _ (Nat.le_trans hB HB1.out.size) (HT.out.on HB1.out hB).pq).mono ?_
  rintro e w2 ⟨rfl, hb2⟩
  have HB2 := hide (HB1.out.trans (hb2.mono HB1.out.size))
  clear hb2
  go_wp2_with fail
  refine (HS1.out _ (Nat.le_trans hB HB2.out.size) (HT.out.on HB2.out hB).pq).mono ?_
  rintro e w3 ⟨rfl, hb3⟩
  have HB3 := hide (HB2.out.trans (hb3.mono HB2.out.size))
  clear hb3
  go_wp2_with fail
  refine (C1.out _ (Nat.le_trans hB HB3.out.size) (HT.out.on HB3.out hB).pq).mono ?_
  rintro e w4 ⟨rfl, hb4⟩
  have HB4 := hide (HB3.out.trans (hb4.mono HB3.out.size))
  clear hb4
  go_wp2_with fail
  refine (C2.out _ (Nat.le_trans hB HB4.out.size) (HT.out.on HB4.out hB).pq).mono ?_
  rintro e w5 ⟨rfl, hb5⟩
  have HB5 := hide (HB4.out.trans (hb5.mono HB4.out.size))
  clear hb5
  go_wp2_with fail
  refine (C3.out _ (Nat.le_trans hB HB5.out.size) (HT.out.on HB5.out hB).pq).mono ?_
  rintro e w6 ⟨rfl, hb6⟩
  have HB6 := hide (HB5.out.trans (hb6.mono HB5.out.size))
  clear hb6
  go_wp2_with fail
  refine (C4.out _ (Nat.le_trans hB HB6.out.size) (HT.out.on HB6.out hB).pq).mono ?_
  rintro e w7 ⟨rfl, hb7⟩
  have HB7 := hide (HB6.out.trans (hb7.mono HB6.out.size))
  clear hb7
  go_wp2_with fail
  refine (C5.out _ (Nat.le_trans hB HB7.out.size) (HT.out.on HB7.out hB).pq).mono ?_
  rintro e w8 ⟨rfl, hb8⟩
  have HB8 := hide (HB7.out.trans (hb8.mono HB7.out.size))
  clear hb8
  go_wp2_with fail
  refine (C6.out _ (Nat.le_trans hB HB8.out.size) (HT.out.on HB8.out hB).pq).mono ?_
  rintro e w9 ⟨rfl, hb9⟩
  have HB9 := hide (HB8.out.trans (hb9.mono HB8.out.size))
  clear hb9
  go_wp2_with fail
  have X := hide (heap1 w9 (.cells #[.string Y, .string Y] 22))
  have HX := hide (HB9.out.trans (X.out.2.2.mono HB9.out.size))
  refine (C7.out _ w9.heap.size X.out.1 (Nat.le_trans hB HX.out.size) (HT.out.on HX.out hB).pq).mono ?_
  rintro e w10 ⟨rfl, hb10⟩
  have HB10 := hide (HX.out.trans (hb10.mono HX.out.size))
  clear hb10 X HX
  go_wp2_with fail
  refine (C8.out _ (Nat.le_trans hB HB10.out.size) (HT.out.on HB10.out hB).pq).mono ?_
  rintro e w11 ⟨rfl, hb11⟩
  have HB11 := hide (HB10.out.trans (hb11.mono HB10.out.size))
  clear hb11
  go_wp2_with fail
  have X := hide (heap1 w11 (.cells #[.string Z, .string Z] 22))
  have HX := hide (HB11.out.trans (X.out.2.2.mono HB11.out.size))
  refine (C9.out _ w11.heap.size X.out.1 (Nat.le_trans hB HX.out.size) (HT.out.on HX.out hB).pq).mono ?_
  rintro e w12 ⟨rfl, hb12⟩
  have HB12 := hide (HX.out.trans (hb12.mono HX.out.size))
  clear hb12 X HX
  go_wp2_with fail
  refine (C10.out _ (Nat.le_trans hB HB12.out.size) (HT.out.on HB12.out hB).pq).mono ?_
  rintro e w13 ⟨rfl, hb13⟩
  have HB13 := hide (HB12.out.trans (hb13.mono HB12.out.size))
  clear hb13
  rcases HW.out with hw | ⟨hw, hz⟩
  · skip
    go_wp2_with fail
    refine (HAW.out _ (Nat.le_trans hB HB13.out.size) (HT.out.on HB13.out hB)).mono ?_
    rintro e w99 ⟨rfl, hb99⟩
    have HB99 := hide (HB13.out.trans (hb99.mono HB13.out.size))
    clear hb99
    go_wp2_with fail
    go_ret
    exact ⟨rfl, HB99.out⟩
  · skip
    go_wp2_with fail
    refine (C11.out _ (Nat.le_trans hB HB13.out.size) (HT.out.on HB13.out hB).pq).mono ?_
    rintro e w14 ⟨rfl, hb14⟩
    have HB14 := hide (HB13.out.trans (hb14.mono HB13.out.size))
    clear hb14
    go_wp2_with fail
    refine (HAW.out _ (Nat.le_trans hB HB14.out.size) (HT.out.on HB14.out hB)).mono ?_
    rintro e w99 ⟨rfl, hb99⟩
    have HB99 := hide (HB14.out.trans (hb99.mono HB14.out.size))
    clear hb99
    go_wp2_with fail
    go_ret
    exact ⟨rfl, HB99.out⟩
end Go.Proofs.YtgddookioipjiaaGreatDoor
