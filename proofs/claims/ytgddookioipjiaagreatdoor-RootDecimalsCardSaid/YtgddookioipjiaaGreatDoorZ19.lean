/-
  Texts of the integers, laid together: Jw.
-/
import Derived.Test.YtgddookioipjiaaGreatDoorZ16
namespace Go.Proofs.YtgddookioipjiaaGreatDoor
open Go.RowKit Go.KP Go.KI Go.Shelf
attribute [local go_sem] Oper.semAt_some

theorem mxe3 (w : World) : (Builtin.max_ #[26, 26, 26] 26 #[.int .i64 0, .int .i64 0, .int .i64 0]).run Tryz.prog w = .ok (.int .i64 0) w := by kernel_rfl
theorem sq_sz {a : Rat} {k : Nat} (h : sz (k + k) (a * a)) : sz k a := by
  obtain ⟨e1, e2⟩ := sq_parts a
  obtain ⟨h1, h2⟩ := h
  rw [e1, Int.natAbs_mul, Nat.pow_add] at h1
  rw [e2, Nat.pow_add] at h2
  have key : ∀ {x y : Nat}, x * x < y * y → x < y := fun {x y} hxy => Nat.lt_of_not_le fun hle => by
    have := Nat.mul_le_mul hle hle
    omega
  exact ⟨key h1, key h2⟩
set_option maxRecDepth 100000 in
set_option maxHeartbeats 16000000 in
theorem lawRatios_any (p q r : ByteArray) (n0 : Nat) (w : World) (hB : n0 ≤ w.heap.size) (hT : PR n0 w) :
    Calls Tryz.prog 5 #[.string p, .string q, .string r] w (Ret w (.bool true)) := by
  have HT := hide hT
  have HAW := hide (fun w hB hT => l3awake_any n0 w hB hT)
  have X0 := hide (heap1 w (.cells #[.string p, .string q, .string r] 22))
  have HF := hide (lsizes_any w.heap.size [p, q, r] (by simp) n0 _ (strs3 X0.out.1) (Nat.le_trans hB X0.out.2.2.size) (hT.on X0.out.2.2 hB).pq)
  clear hT
  by_cases h : ∀ s ∈ [p, q, r], okS s
  rotate_left
  · rw [decide_eq_false h] at HF
    clear h
    go_enter Tryz.func5, Tryz.ntmps5
    go_wp2_with fail
    refine HF.out.mono ?_
    rintro e w1 ⟨rfl, hb1⟩
    have HB1 := hide (X0.out.2.2.trans (hb1.mono X0.out.2.2.size))
    clear hb1 X0
    go_wp2_with fail
    refine (HAW.out _ (Nat.le_trans hB HB1.out.size) (HT.out.on HB1.out hB)).mono ?_
    rintro e w99 ⟨rfl, hb99⟩
    have HB99 := hide (HB1.out.trans (hb99.mono HB1.out.size))
    clear hb99
    go_wp2_with fail
    go_ret
    exact ⟨rfl, HB99.out⟩
  rw [decide_eq_true h] at HF
  obtain ⟨P, sP, rfl⟩ := okS_T (h p (by simp))
  obtain ⟨Q, sQ, rfl⟩ := okS_T (h q (by simp))
  obtain ⟨R, sR, rfl⟩ := okS_T (h r (by simp))
  clear h
  have fP := sz_fits sP (by rw [most_eq]; omega)
  have rP := roomy_of sP (by omega)
  have fQ := sz_fits sQ (by rw [most_eq]; omega)
  have rQ := roomy_of sQ (by omega)
  have fR := sz_fits sR (by rw [most_eq]; omega)
  have rR := roomy_of sR (by omega)
  have HS0 := hide (fun w hB hT => lsign_T fP n0 w hB hT)
  have HS1 := hide (fun w hB hT => lsign_T fQ n0 w hB hT)
  have HS2 := hide (fun w hB hT => lsign_T fR n0 w hB hT)
  by_cases g0 : sgnR P ≤ 0
  · clear sP rP fP sQ rQ fQ sR rR fR
    generalize sgnR P = z0 at *
    go_enter Tryz.func5, Tryz.ntmps5
    go_wp2_with fail
    refine HF.out.mono ?_
    rintro e w1 ⟨rfl, hb1⟩
    have HB1 := hide (X0.out.2.2.trans (hb1.mono X0.out.2.2.size))
    clear hb1 X0
    go_wp2_with fail
    refine (HS0.out _ (Nat.le_trans hB HB1.out.size) (HT.out.on HB1.out hB).pq).mono ?_
    rintro e w2 ⟨rfl, hb2⟩
    have HB2 := hide (HB1.out.trans (hb2.mono HB1.out.size))
    clear hb2
    go_wp2_with fail
    refine (HAW.out _ (Nat.le_trans hB HB2.out.size) (HT.out.on HB2.out hB)).mono ?_
    rintro e w99 ⟨rfl, hb99⟩
    have HB99 := hide (HB2.out.trans (hb99.mono HB2.out.size))
    clear hb99
    go_wp2_with fail
    go_ret
    exact ⟨rfl, HB99.out⟩
  have nP := sgn_pos g0
  replace g0 := eq_false g0
  by_cases g1 : sgnR Q ≤ 0
  · clear sP rP fP sQ rQ fQ sR rR fR
    generalize sgnR P = z0 at *
    generalize sgnR Q = z1 at *
    go_enter Tryz.func5, Tryz.ntmps5
    go_wp2_with fail
    refine HF.out.mono ?_
    rintro e w1 ⟨rfl, hb1⟩
    have HB1 := hide (X0.out.2.2.trans (hb1.mono X0.out.2.2.size))
    clear hb1 X0
    go_wp2_with fail
    refine (HS0.out _ (Nat.le_trans hB HB1.out.size) (HT.out.on HB1.out hB).pq).mono ?_
    rintro e w2 ⟨rfl, hb2⟩
    have HB2 := hide (HB1.out.trans (hb2.mono HB1.out.size))
    clear hb2
    go_wp2_with fail
    refine (HS1.out _ (Nat.le_trans hB HB2.out.size) (HT.out.on HB2.out hB).pq).mono ?_
    rintro e w3 ⟨rfl, hb3⟩
    have HB3 := hide (HB2.out.trans (hb3.mono HB2.out.size))
    clear hb3
    go_wp2_with fail
    refine (HAW.out _ (Nat.le_trans hB HB3.out.size) (HT.out.on HB3.out hB)).mono ?_
    rintro e w99 ⟨rfl, hb99⟩
    have HB99 := hide (HB3.out.trans (hb99.mono HB3.out.size))
    clear hb99
    go_wp2_with fail
    go_ret
    exact ⟨rfl, HB99.out⟩
  have nQ := sgn_pos g1
  replace g1 := eq_false g1
  by_cases g2 : sgnR R ≤ 0
  · clear sP rP fP sQ rQ fQ sR rR fR
    generalize sgnR P = z0 at *
    generalize sgnR Q = z1 at *
    generalize sgnR R = z2 at *
    go_enter Tryz.func5, Tryz.ntmps5
    go_wp2_with fail
    refine HF.out.mono ?_
    rintro e w1 ⟨rfl, hb1⟩
    have HB1 := hide (X0.out.2.2.trans (hb1.mono X0.out.2.2.size))
    clear hb1 X0
    go_wp2_with fail
    refine (HS0.out _ (Nat.le_trans hB HB1.out.size) (HT.out.on HB1.out hB).pq).mono ?_
    rintro e w2 ⟨rfl, hb2⟩
    have HB2 := hide (HB1.out.trans (hb2.mono HB1.out.size))
    clear hb2
    go_wp2_with fail
    refine (HS1.out _ (Nat.le_trans hB HB2.out.size) (HT.out.on HB2.out hB).pq).mono ?_
    rintro e w3 ⟨rfl, hb3⟩
    have HB3 := hide (HB2.out.trans (hb3.mono HB2.out.size))
    clear hb3
    go_wp2_with fail
    refine (HS2.out _ (Nat.le_trans hB HB3.out.size) (HT.out.on HB3.out hB).pq).mono ?_
    rintro e w4 ⟨rfl, hb4⟩
    have HB4 := hide (HB3.out.trans (hb4.mono HB3.out.size))
    clear hb4
    go_wp2_with fail
    refine (HAW.out _ (Nat.le_trans hB HB4.out.size) (HT.out.on HB4.out hB)).mono ?_
    rintro e w99 ⟨rfl, hb99⟩
    have HB99 := hide (HB4.out.trans (hb99.mono HB4.out.size))
    clear hb99
    go_wp2_with fail
    go_ret
    exact ⟨rfl, HB99.out⟩
  have nR := sgn_pos g2
  replace g2 := eq_false g2
  have pp := pos_num nP
  have qp := pos_num nQ
  have rp := pos_num nR
  have pn : P ≠ 0 := Rat.ne_of_gt pp
  have qn : Q ≠ 0 := Rat.ne_of_gt qp
  have q0 : 0 < P / Q := by rw [Rat.div_def]; exact Rat.mul_pos pp (Rat.inv_pos.2 qp)
  have C1 := hide (fun w hB hT => rRatio_T rP rQ (Int.le_of_lt nP) nQ (cmpC_of sP sQ (by rw [most_eq]; omega)) n0 w hB hT)
  have C2 := hide (fun w hB hT => rRatio_T rQ rP (Int.le_of_lt nQ) nP (cmpC_of sQ sP (by rw [most_eq]; omega)) n0 w hB hT)
  rw [show Q / P = (P / Q)⁻¹ by rw [Rat.div_def, Rat.div_def, Rat.inv_mul_rev, Rat.inv_inv], sqR_inv q0] at C2
  have C3 := hide (fun w r hr hB hT => ltimes3 sQ sR sR (by omega) n0 w r hr hB hT)
  have sQR := (okT3 sQ sR sR (by omega)).2.2
  have sPR := (okT3 sP sR sR (by omega)).2.2
  have pQR : 0 < Q * R * R := Rat.mul_pos (Rat.mul_pos qp rp) rp
  have pPR : 0 < P * R * R := Rat.mul_pos (Rat.mul_pos pp rp) rp
  have C4 := hide (fun w hB hT => rRatio_T (roomy_of sQR (by omega)) rQ (Rat.num_nonneg.2 (Rat.le_of_lt pQR)) nQ (cmpC_of sQR sQ (by rw [most_eq]; omega)) n0 w hB hT)
  rw [show Q * R * R / Q = R * R by rw [show Q * R * R = R * R * Q by grind, Rat.mul_div_cancel qn], sqR_sq (Rat.le_of_lt rp)] at C4
  have C5 := hide (fun w r hr hB hT => ltimes3 sP sR sR (by omega) n0 w r hr hB hT)
  have C6 := hide (fun w hB hT => rRatio_T (roomy_of sPR (by omega)) rQ (Rat.num_nonneg.2 (Rat.le_of_lt pPR)) nQ (cmpC_of sPR sQ (by rw [most_eq]; omega)) n0 w hB hT)
  rw [show P * R * R / Q = P / Q * (R * R) by rw [Rat.div_def, Rat.div_def]; grind, sqR_times (Rat.le_of_lt q0) rp] at C6
  dsimp only [rootT, rootB] at C4
  have hm3 := mxe3
  rcases Option.eq_none_or_eq_some (sqR (P / Q)) with hs | ⟨A, hs⟩
  · skip
    rw [hs] at C1 C2 C6
    dsimp only [Option.map, rootT, rootB] at C1 C2 C6
    clear hs q0 pn qn pp qp rp nP nQ nR sP sQ sR rP rQ rR fP fQ fR sQR sPR pQR pPR
    generalize sgnR P = z0 at *
    generalize sgnR Q = z1 at *
    generalize sgnR R = z2 at *
    generalize T (Q * R * R) = QR at *
    generalize T (P * R * R) = PR at *
    generalize T P = TP at *
    generalize T Q = TQ at *
    generalize T R = TR at *
    obtain ⟨e1, e2⟩ := beqs TR
    go_enter Tryz.func5, Tryz.ntmps5
    go_wp2_with fail
    refine HF.out.mono ?_
    rintro e w1 ⟨rfl, hb1⟩
    have HB1 := hide (X0.out.2.2.trans (hb1.mono X0.out.2.2.size))
    clear hb1 X0
    go_wp2_with fail
    refine (HS0.out _ (Nat.le_trans hB HB1.out.size) (HT.out.on HB1.out hB).pq).mono ?_
    rintro e w2 ⟨rfl, hb2⟩
    have HB2 := hide (HB1.out.trans (hb2.mono HB1.out.size))
    clear hb2
    go_wp2_with fail
    refine (HS1.out _ (Nat.le_trans hB HB2.out.size) (HT.out.on HB2.out hB).pq).mono ?_
    rintro e w3 ⟨rfl, hb3⟩
    have HB3 := hide (HB2.out.trans (hb3.mono HB2.out.size))
    clear hb3
    go_wp2_with fail
    refine (HS2.out _ (Nat.le_trans hB HB3.out.size) (HT.out.on HB3.out hB).pq).mono ?_
    rintro e w4 ⟨rfl, hb4⟩
    have HB4 := hide (HB3.out.trans (hb4.mono HB3.out.size))
    clear hb4
    go_wp2_with fail
    refine (C1.out _ (Nat.le_trans hB HB4.out.size) (HT.out.on HB4.out hB).pq).mono ?_
    rintro e w5 ⟨rfl, hb5⟩
    have HB5 := hide (HB4.out.trans (hb5.mono HB4.out.size))
    clear hb5
    go_wp2_with fail
    refine (C2.out _ (Nat.le_trans hB HB5.out.size) (HT.out.on HB5.out hB).pq).mono ?_
    rintro e w6 ⟨rfl, hb6⟩
    have HB6 := hide (HB5.out.trans (hb6.mono HB5.out.size))
    clear hb6
    go_wp2_with fail
    have X := hide (heap1 w6 (.cells #[.string TQ, .string TR, .string TR] 22))
    have HX := hide (HB6.out.trans (X.out.2.2.mono HB6.out.size))
    refine (C3.out _ w6.heap.size X.out.1 (Nat.le_trans hB HX.out.size) (HT.out.on HX.out hB).pq).mono ?_
    rintro e w7 ⟨rfl, hb7⟩
    have HB7 := hide (HX.out.trans (hb7.mono HX.out.size))
    clear hb7 X HX
    go_wp2_with fail
    refine (C4.out _ (Nat.le_trans hB HB7.out.size) (HT.out.on HB7.out hB).pq).mono ?_
    rintro e w8 ⟨rfl, hb8⟩
    have HB8 := hide (HB7.out.trans (hb8.mono HB7.out.size))
    clear hb8
    go_wp2_with fail
    have X := hide (heap1 w8 (.cells #[.string TP, .string TR, .string TR] 22))
    have HX := hide (HB8.out.trans (X.out.2.2.mono HB8.out.size))
    refine (C5.out _ w8.heap.size X.out.1 (Nat.le_trans hB HX.out.size) (HT.out.on HX.out hB).pq).mono ?_
    rintro e w9 ⟨rfl, hb9⟩
    have HB9 := hide (HX.out.trans (hb9.mono HX.out.size))
    clear hb9 X HX
    go_wp2_with fail
    refine (C6.out _ (Nat.le_trans hB HB9.out.size) (HT.out.on HB9.out hB).pq).mono ?_
    rintro e w10 ⟨rfl, hb10⟩
    have HB10 := hide (HB9.out.trans (hb10.mono HB9.out.size))
    clear hb10
    go_wp2_with fail
    refine (HAW.out _ (Nat.le_trans hB HB10.out.size) (HT.out.on HB10.out hB)).mono ?_
    rintro e w99 ⟨rfl, hb99⟩
    have HB99 := hide (HB10.out.trans (hb99.mono HB10.out.size))
    clear hb99
    go_wp2_with fail
    go_ret
    exact ⟨rfl, HB99.out⟩
  · skip
    obtain ⟨ap, aa⟩ := sqR_pos q0 hs
    have an : A ≠ 0 := Rat.ne_of_gt ap
    have sA : sz 20 A := sq_sz (by rw [aa]; exact sz_div (by omega) sP sQ)
    have sI := sz_inv (by omega) sA
    rw [hs] at C1 C2 C6
    dsimp only [Option.map, rootT, rootB] at C1 C2 C6
    have C7 := hide (fun w r hr hB hT => ltimes2 sA sI (by omega) n0 w r hr hB hT)
    rw [Rat.mul_inv_cancel _ an, T1] at C7
    have C8 := hide (fun w r hr hB hT => ltimes3 sA sA sQ (by omega) n0 w r hr hB hT)
    rw [aa, Rat.div_mul_cancel qn] at C8
    have C9 := hide (fun w hB hT => lsign_T (sz_fits sA (by rw [most_eq]; omega)) n0 w hB hT)
    rw [show sgnR A = 1 from cmpT_gt ap] at C9
    have C10 := hide (fun w r hr hB hT => ltimes2 sA sR (by omega) n0 w r hr hB hT)
    clear hs q0 pn qn pp qp rp nP nQ nR sP sQ sR rP rQ rR fP fQ fR sQR sPR pQR pPR ap aa an sA sI
    generalize sgnR P = z0 at *
    generalize sgnR Q = z1 at *
    generalize sgnR R = z2 at *
    generalize T (Q * R * R) = QR at *
    generalize T (P * R * R) = PR at *
    generalize T (A * R) = AR at *
    generalize T A⁻¹ = AI at *
    generalize T A = TA at *
    generalize T P = TP at *
    generalize T Q = TQ at *
    generalize T R = TR at *
    obtain ⟨e1, e2⟩ := beqs TR
    obtain ⟨e3, e4⟩ := beqs TP
    obtain ⟨e5, e6⟩ := beqs AR
    go_enter Tryz.func5, Tryz.ntmps5
    go_wp2_with fail
    refine HF.out.mono ?_
    rintro e w1 ⟨rfl, hb1⟩
    have HB1 := hide (X0.out.2.2.trans (hb1.mono X0.out.2.2.size))
    clear hb1 X0
    go_wp2_with fail
    refine (HS0.out _ (Nat.le_trans hB HB1.out.size) (HT.out.on HB1.out hB).pq).mono ?_
    rintro e w2 ⟨rfl, hb2⟩
    have HB2 := hide (HB1.out.trans (hb2.mono HB1.out.size))
    clear hb2
    go_wp2_with fail
    refine (HS1.out _ (Nat.le_trans hB HB2.out.size) (HT.out.on HB2.out hB).pq).mono ?_
    rintro e w3 ⟨rfl, hb3⟩
    have HB3 := hide (HB2.out.trans (hb3.mono HB2.out.size))
    clear hb3
    go_wp2_with fail
    refine (HS2.out _ (Nat.le_trans hB HB3.out.size) (HT.out.on HB3.out hB).pq).mono ?_
    rintro e w4 ⟨rfl, hb4⟩
    have HB4 := hide (HB3.out.trans (hb4.mono HB3.out.size))
    clear hb4
    go_wp2_with fail
    refine (C1.out _ (Nat.le_trans hB HB4.out.size) (HT.out.on HB4.out hB).pq).mono ?_
    rintro e w5 ⟨rfl, hb5⟩
    have HB5 := hide (HB4.out.trans (hb5.mono HB4.out.size))
    clear hb5
    go_wp2_with fail
    refine (C2.out _ (Nat.le_trans hB HB5.out.size) (HT.out.on HB5.out hB).pq).mono ?_
    rintro e w6 ⟨rfl, hb6⟩
    have HB6 := hide (HB5.out.trans (hb6.mono HB5.out.size))
    clear hb6
    go_wp2_with fail
    have X := hide (heap1 w6 (.cells #[.string TQ, .string TR, .string TR] 22))
    have HX := hide (HB6.out.trans (X.out.2.2.mono HB6.out.size))
    refine (C3.out _ w6.heap.size X.out.1 (Nat.le_trans hB HX.out.size) (HT.out.on HX.out hB).pq).mono ?_
    rintro e w7 ⟨rfl, hb7⟩
    have HB7 := hide (HX.out.trans (hb7.mono HX.out.size))
    clear hb7 X HX
    go_wp2_with fail
    refine (C4.out _ (Nat.le_trans hB HB7.out.size) (HT.out.on HB7.out hB).pq).mono ?_
    rintro e w8 ⟨rfl, hb8⟩
    have HB8 := hide (HB7.out.trans (hb8.mono HB7.out.size))
    clear hb8
    go_wp2_with fail
    have X := hide (heap1 w8 (.cells #[.string TA, .string AI] 22))
    have HX := hide (HB8.out.trans (X.out.2.2.mono HB8.out.size))
    refine (C7.out _ w8.heap.size X.out.1 (Nat.le_trans hB HX.out.size) (HT.out.on HX.out hB).pq).mono ?_
    rintro e w9 ⟨rfl, hb9⟩
    have HB9 := hide (HX.out.trans (hb9.mono HX.out.size))
    clear hb9 X HX
    go_wp2_with fail
    have X := hide (heap1 w9 (.cells #[.string TA, .string TA, .string TQ] 22))
    have HX := hide (HB9.out.trans (X.out.2.2.mono HB9.out.size))
    refine (C8.out _ w9.heap.size X.out.1 (Nat.le_trans hB HX.out.size) (HT.out.on HX.out hB).pq).mono ?_
    rintro e w10 ⟨rfl, hb10⟩
    have HB10 := hide (HX.out.trans (hb10.mono HX.out.size))
    clear hb10 X HX
    go_wp2_with fail
    refine (C9.out _ (Nat.le_trans hB HB10.out.size) (HT.out.on HB10.out hB).pq).mono ?_
    rintro e w11 ⟨rfl, hb11⟩
    have HB11 := hide (HB10.out.trans (hb11.mono HB10.out.size))
    clear hb11
    go_wp2_with fail
    have X := hide (heap1 w11 (.cells #[.string TP, .string TR, .string TR] 22))
    have HX := hide (HB11.out.trans (X.out.2.2.mono HB11.out.size))
    refine (C5.out _ w11.heap.size X.out.1 (Nat.le_trans hB HX.out.size) (HT.out.on HX.out hB).pq).mono ?_
    rintro e w12 ⟨rfl, hb12⟩
    have HB12 := hide (HX.out.trans (hb12.mono HX.out.size))
    clear hb12 X HX
    go_wp2_with fail
    refine (C6.out _ (Nat.le_trans hB HB12.out.size) (HT.out.on HB12.out hB).pq).mono ?_
    rintro e w13 ⟨rfl, hb13⟩
    have HB13 := hide (HB12.out.trans (hb13.mono HB12.out.size))
    clear hb13
    go_wp2_with fail
    have X := hide (heap1 w13 (.cells #[.string TA, .string TR] 22))
    have HX := hide (HB13.out.trans (X.out.2.2.mono HB13.out.size))
    refine (C10.out _ w13.heap.size X.out.1 (Nat.le_trans hB HX.out.size) (HT.out.on HX.out hB).pq).mono ?_
    rintro e w14 ⟨rfl, hb14⟩
    have HB14 := hide (HX.out.trans (hb14.mono HX.out.size))
    clear hb14 X HX
    go_wp2_with fail
    refine (HAW.out _ (Nat.le_trans hB HB14.out.size) (HT.out.on HB14.out hB)).mono ?_
    rintro e w99 ⟨rfl, hb99⟩
    have HB99 := hide (HB14.out.trans (hb99.mono HB14.out.size))
    clear hb99
    go_wp2_with fail
    go_ret
    exact ⟨rfl, HB99.out⟩
end Go.Proofs.YtgddookioipjiaaGreatDoor
