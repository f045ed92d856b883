/-
  Texts of the integers, laid together: Jv.
-/
import Derived.Test.YtgddookioipjiaaGreatDoorZ16
namespace Go.Proofs.YtgddookioipjiaaGreatDoor
open Go.RowKit Go.KP Go.KI Go.Shelf
attribute [local go_sem] Oper.semAt_some

set_option maxRecDepth 100000 in
set_option maxHeartbeats 16000000 in
theorem lawOrder_any (a p b q c : ByteArray) (n0 : Nat) (w : World) (hB : n0 ≤ w.heap.size) (hT : PR n0 w) :
    Calls Tryz.prog 7 #[.string a, .string p, .string b, .string q, .string c] w (Ret w (.bool true)) := by
  have HT := hide hT
  have HAW := hide (fun w hB hT => l3awake_any n0 w hB hT)
  have X0 := hide (heap1 w (.cells #[.string a, .string p, .string b, .string q, .string c] 22))
  have HF := hide (lsizes_any w.heap.size [a, p, b, q, c] (by simp) n0 _ (strs5 X0.out.1) (Nat.le_trans hB X0.out.2.2.size) (hT.on X0.out.2.2 hB).pq)
  clear hT
  by_cases h : ∀ s ∈ [a, p, b, q, c], okS s
  rotate_left
  · rw [decide_eq_false h] at HF
    clear h
    go_enter Tryz.func7, Tryz.ntmps7
    go_wp2_with fail
    refine HF.out.mono ?_
    rintro e w1 ⟨rfl, hb1⟩
    have HB1 := hide (X0.out.2.2.trans (hb1.mono X0.out.2.2.size))
    clear hb1 X0
    go_wp2_with fail
    refine (HAW.out _ (Nat.le_trans hB HB1.out.size) (HT.out.on HB1.out hB)).mono ?_
    rintro e w99 ⟨rfl, hb99⟩
    have HB99 := hide (HB1.out.trans (hb99.mono HB1.out.size))
    clear hb99
    go_wp2_with fail
    go_ret
    exact ⟨rfl, HB99.out⟩
  rw [decide_eq_true h] at HF
  obtain ⟨A, sA, rfl⟩ := okS_T (h a (by simp))
  obtain ⟨P, sP, rfl⟩ := okS_T (h p (by simp))
  obtain ⟨B, sB, rfl⟩ := okS_T (h b (by simp))
  obtain ⟨Q, sQ, rfl⟩ := okS_T (h q (by simp))
  obtain ⟨C, sC, rfl⟩ := okS_T (h c (by simp))
  clear h
  have fA := sz_fits sA (by rw [most_eq]; omega)
  have rA := roomy_of sA (by omega)
  have fP := sz_fits sP (by rw [most_eq]; omega)
  have rP := roomy_of sP (by omega)
  have fB := sz_fits sB (by rw [most_eq]; omega)
  have rB := roomy_of sB (by omega)
  have fQ := sz_fits sQ (by rw [most_eq]; omega)
  have rQ := roomy_of sQ (by omega)
  have fC := sz_fits sC (by rw [most_eq]; omega)
  have rC := roomy_of sC (by omega)
  have HS0 := hide (fun w hB hT => lsign_T fP n0 w hB hT)
  have HS1 := hide (fun w hB hT => lsign_T fQ n0 w hB hT)
  by_cases g0 : sgnR P < 0
  · clear sA rA fA sP rP fP sB rB fB sQ rQ fQ sC rC fC
    generalize sgnR P = z0 at *
    go_enter Tryz.func7, Tryz.ntmps7
    go_wp2_with fail
    refine HF.out.mono ?_
    rintro e w1 ⟨rfl, hb1⟩
    have HB1 := hide (X0.out.2.2.trans (hb1.mono X0.out.2.2.size))
    clear hb1 X0
    go_wp2_with fail
    refine (HS0.out _ (Nat.le_trans hB HB1.out.size) (HT.out.on HB1.out hB).pq).mono ?_
    rintro e w2 ⟨rfl, hb2⟩
    have HB2 := hide (HB1.out.trans (hb2.mono HB1.out.size))
    clear hb2
    go_wp2_with fail
    refine (HAW.out _ (Nat.le_trans hB HB2.out.size) (HT.out.on HB2.out hB)).mono ?_
    rintro e w99 ⟨rfl, hb99⟩
    have HB99 := hide (HB2.out.trans (hb99.mono HB2.out.size))
    clear hb99
    go_wp2_with fail
    go_ret
    exact ⟨rfl, HB99.out⟩
  have nP := sgn_nonneg g0
  replace g0 := eq_false g0
  by_cases g1 : sgnR Q < 0
  · clear sA rA fA sP rP fP sB rB fB sQ rQ fQ sC rC fC
    generalize sgnR P = z0 at *
    generalize sgnR Q = z1 at *
    go_enter Tryz.func7, Tryz.ntmps7
    go_wp2_with fail
    refine HF.out.mono ?_
    rintro e w1 ⟨rfl, hb1⟩
    have HB1 := hide (X0.out.2.2.trans (hb1.mono X0.out.2.2.size))
    clear hb1 X0
    go_wp2_with fail
    refine (HS0.out _ (Nat.le_trans hB HB1.out.size) (HT.out.on HB1.out hB).pq).mono ?_
    rintro e w2 ⟨rfl, hb2⟩
    have HB2 := hide (HB1.out.trans (hb2.mono HB1.out.size))
    clear hb2
    go_wp2_with fail
    refine (HS1.out _ (Nat.le_trans hB HB2.out.size) (HT.out.on HB2.out hB).pq).mono ?_
    rintro e w3 ⟨rfl, hb3⟩
    have HB3 := hide (HB2.out.trans (hb3.mono HB2.out.size))
    clear hb3
    go_wp2_with fail
    refine (HAW.out _ (Nat.le_trans hB HB3.out.size) (HT.out.on HB3.out hB)).mono ?_
    rintro e w99 ⟨rfl, hb99⟩
    have HB99 := hide (HB3.out.trans (hb99.mono HB3.out.size))
    clear hb99
    go_wp2_with fail
    go_ret
    exact ⟨rfl, HB99.out⟩
  have nQ := sgn_nonneg g1
  replace g1 := eq_false g1
  have s1 : sz 1 (1 : Rat) := sz_one
  have r1 := roomy_of s1 (by omega)
  have C1 := hide (fun w hB hT => rCompare_T rA rP rB rQ nP nQ n0 w hB hT)
  have C2 := hide (fun w hB hT => rCompare_T rB rQ rA rP nQ nP n0 w hB hT)
  rw [rcmp_anti] at C2
  have C3 := hide (fun w r hr hB hT => ltimes2 sA sC (by omega) n0 w r hr hB hT)
  have C4 := hide (fun w r hr hB hT => ltimes2 sB sC (by omega) n0 w r hr hB hT)
  have C5 := hide (fun w hB hT => rCompare_T (roomy_of (okT2 sA sC (by omega)).2.2 (by omega)) rP (roomy_of (okT2 sB sC (by omega)).2.2 (by omega)) rQ nP nQ n0 w hB hT)
  rw [rcmp_times] at C5
  have C6 := hide (fun w hB hT => rCompare_T rA r1 rB r1 (by decide) (by decide) n0 w hB hT)
  rw [rcmp_ones, T1] at C6
  have C7 := hide (fun w hB hT => qcmp_T fA fB (cmpC_of sA sB (by rw [most_eq]; omega)) n0 w hB hT)
  have C8 := hide (fun w hB hT => rCompare_T rA rP rA rP nP nP n0 w hB hT)
  rw [rcmp_own] at C8
  have C9 := hide (fun w hB hT => lsign_T fC n0 w hB hT)
  have hx := rcmp_bound A P B Q
  have hs := sgnR_bound C
  have HX : Hid (rcmp A P B Q = -1 ∨ rcmp A P B Q = 0 ∨ rcmp A P B Q = 1) := hide (by omega)
  have HY : Hid (sgnR C = -1 ∨ sgnR C = 0 ∨ sgnR C = 1) := hide (by omega)
  have hmx := mxe4
  have hm2 := mxe2
  clear hx hs s1
  generalize rcmp A P B Q = x at *
  generalize sgnR C = s at *
  generalize cmpR A B = u at *
  generalize T (A * C) = AC at *
  generalize T (B * C) = BC at *
  clear r1 sA rA fA sP rP fP sB rB fB sQ rQ fQ sC rC fC nP nQ
  generalize sgnR P = z0 at *
  generalize sgnR Q = z1 at *
  generalize T A = TA at *
  generalize T P = TP at *
  generalize T B = TB at *
  generalize T Q = TQ at *
  generalize T C = TC at *
  go_enter Tryz.func7, Tryz.ntmps7
  go_wp2_with fail
  refine HF.out.mono ?_
  rintro e w1 ⟨rfl, hb1⟩
  have HB1 := hide (X0.out.2.2.trans (hb1.mono X0.out.2.2.size))
  clear hb1 X0
  go_wp2_with fail
  refine (HS0.out _ (Nat.le_trans hB HB1.out.size) (HT.out.on HB1.out hB).pq).mono ?_
  rintro e w2 ⟨rfl, hb2⟩
  have HB2 := hide (HB1.out.trans (hb2.mono HB1.out.size))
  clear hb2
  go_wp2_with fail
  refine (HS1.out _ (Nat.le_trans hB HB2.out.size) (HT.out.on HB2.out hB).pq).mono ?_
  rintro e w3 ⟨rfl, hb3⟩
  have HB3 := hide (HB2.out.trans (hb3.mono HB2.out.size))
  clear hb3
  go_wp2_with fail
  refine (C1.out _ (Nat.le_trans hB HB3.out.size) (HT.out.on HB3.out hB).pq).mono ?_
  rintro e w4 ⟨rfl, hb4⟩
  have HB4 := hide (HB3.out.trans (hb4.mono HB3.out.size))
  clear hb4
  go_wp2_with fail
  refine (C2.out _ (Nat.le_trans hB HB4.out.size) (HT.out.on HB4.out hB).pq).mono ?_
  rintro e w5 ⟨rfl, hb5⟩
  have HB5 := hide (HB4.out.trans (hb5.mono HB4.out.size))
  clear hb5
  go_wp2_with fail
  have X := hide (heap1 w5 (.cells #[.string TA, .string TC] 22))
  have HX := hide (HB5.out.trans (X.out.2.2.mono HB5.out.size))
  refine (C3.out _ w5.heap.size X.out.1 (Nat.le_trans hB HX.out.size) (HT.out.on HX.out hB).pq).mono ?_
  rintro e w6 ⟨rfl, hb6⟩
  have HB6 := hide (HX.out.trans (hb6.mono HX.out.size))
  clear hb6 X HX
  go_wp2_with fail
  have X := hide (heap1 w6 (.cells #[.string TB, .string TC] 22))
  have HX := hide (HB6.out.trans (X.out.2.2.mono HB6.out.size))
  refine (C4.out _ w6.heap.size X.out.1 (Nat.le_trans hB HX.out.size) (HT.out.on HX.out hB).pq).mono ?_
  rintro e w7 ⟨rfl, hb7⟩
  have HB7 := hide (HX.out.trans (hb7.mono HX.out.size))
  clear hb7 X HX
  go_wp2_with fail
  refine (C5.out _ (Nat.le_trans hB HB7.out.size) (HT.out.on HB7.out hB).pq).mono ?_
  rintro e w8 ⟨rfl, hb8⟩
  have HB8 := hide (HB7.out.trans (hb8.mono HB7.out.size))
  clear hb8
  go_wp2_with fail
  refine (C6.out _ (Nat.le_trans hB HB8.out.size) (HT.out.on HB8.out hB).pq).mono ?_
  rintro e w9 ⟨rfl, hb9⟩
  have HB9 := hide (HB8.out.trans (hb9.mono HB8.out.size))
  clear hb9
  go_wp2_with fail
  refine (C7.out _ (Nat.le_trans hB HB9.out.size) (HT.out.on HB9.out hB).pq).mono ?_
  rintro e w10 ⟨rfl, hb10⟩
  have HB10 := hide (HB9.out.trans (hb10.mono HB9.out.size))
  clear hb10
  go_wp2_with fail
  refine (C8.out _ (Nat.le_trans hB HB10.out.size) (HT.out.on HB10.out hB).pq).mono ?_
  rintro e w11 ⟨rfl, hb11⟩
  have HB11 := hide (HB10.out.trans (hb11.mono HB10.out.size))
  clear hb11
  rcases HX.out with rfl | rfl | rfl <;> rcases HY.out with rfl | rfl | rfl
  all_goals
    go_wp2_with fail
    refine (C9.out _ (Nat.le_trans hB HB11.out.size) (HT.out.on HB11.out hB).pq).mono ?_
    rintro e w12 ⟨rfl, hb12⟩
    have HB12 := hide (HB11.out.trans (hb12.mono HB11.out.size))
    clear hb12
    go_wp2_with fail
    refine (HAW.out _ (Nat.le_trans hB HB12.out.size) (HT.out.on HB12.out hB)).mono ?_
    rintro e w99 ⟨rfl, hb99⟩
    have HB99 := hide (HB12.out.trans (hb99.mono HB12.out.size))
    clear hb99
    go_wp2_with fail
    go_ret
    exact ⟨rfl, HB99.out⟩
end Go.Proofs.YtgddookioipjiaaGreatDoor
