/-
  Texts of the integers, laid together: Zq.
-/
import Derived.Test.YtbfojhneajedmaaGreatDoorZ25
namespace Go.Proofs.YtbfojhneajedmaaGreatDoor
open Go.RowKit Go.KP Go.KI Go.Shelf
attribute [local go_sem] Oper.semAt_some

set_option maxRecDepth 100000 in
set_option maxHeartbeats 16000000 in
theorem lawSpace_any (a b c : S3) (k : ByteArray) (n0 : Nat) (w : World) (hB : n0 ≤ w.heap.size) (hT : PR n0 w) :
    Calls Tryz.prog 13 #[spotV a.x a.y a.z, spotV b.x b.y b.z, spotV c.x c.y c.z, .string k] w (Ret w (.bool true)) := by
  have HT := hide hT
  have HAW := hide (fun w hB hT => v9awake_any n0 w hB hT)
  have X0 := hide (heapq4 w (spotO a.x a.y a.z) (spotO b.x b.y b.z) (spotO c.x c.y c.z) (.cells #[.string a.x, .string a.y, .string a.z, .string b.x, .string b.y, .string b.z, .string c.x, .string c.y, .string c.z] 24))
  have HB0 := hide X0.out.2.2.2.2.2
  have HF := hide (v9fine_any (w.heap.size + 3) [a, b, c] _ (by simp) (spots3 X0.out.2.2.2.1) n0 (Nat.le_trans hB HB0.out.size) (hT.on HB0.out hB).pq)
  have HNU := hide (fun w hB hT => v9number_any k n0 w hB hT)
  clear hT
  by_cases h : ∀ V ∈ [a, b, c], fine3 V
  rotate_left
  · rw [decide_eq_false h] at HF
    clear h HNU
    go_enter Tryz.func13, Tryz.ntmps13
    go_wp2_with fail
    refine HF.out.mono ?_
    rintro e w1 ⟨rfl, hb1⟩
    have HB1 := hide (HB0.out.trans (hb1.mono HB0.out.size))
    clear hb1
    clear X0
    go_wp2_with fail
    refine (HAW.out _ (Nat.le_trans hB HB1.out.size) (HT.out.on HB1.out hB)).mono ?_
    rintro e w99 ⟨rfl, hb99⟩
    have HB99 := hide (HB1.out.trans (hb99.mono HB1.out.size))
    clear hb99
    go_wp2_with fail
    go_ret
    exact ⟨rfl, HB99.out⟩
  rw [decide_eq_true h] at HF
  by_cases hk : k.size ≤ 40 ∧ chkQ k.data.toList = 0
  rotate_left
  · rw [decide_eq_false hk] at HNU
    clear h hk
    go_enter Tryz.func13, Tryz.ntmps13
    go_wp2_with fail
    refine HF.out.mono ?_
    rintro e w1 ⟨rfl, hb1⟩
    have HB1 := hide (HB0.out.trans (hb1.mono HB0.out.size))
    clear hb1
    clear X0
    go_wp2_with fail
    refine (HNU.out _ (Nat.le_trans hB HB1.out.size) (HT.out.on HB1.out hB).pq).mono ?_
    rintro e w2 ⟨rfl, hb2⟩
    have HB2 := hide (HB1.out.trans (hb2.mono HB1.out.size))
    clear hb2
    go_wp2_with fail
    refine (HAW.out _ (Nat.le_trans hB HB2.out.size) (HT.out.on HB2.out hB)).mono ?_
    rintro e w99 ⟨rfl, hb99⟩
    have HB99 := hide (HB2.out.trans (hb99.mono HB2.out.size))
    clear hb99
    go_wp2_with fail
    go_ret
    exact ⟨rfl, HB99.out⟩
  rw [decide_eq_true hk] at HNU
  obtain ⟨K, sK, rfl⟩ := num_rat hk
  clear hk
  obtain ⟨A, sA, rfl⟩ := fine_vec (h a (by simp))
  obtain ⟨B, sB, rfl⟩ := fine_vec (h b (by simp))
  obtain ⟨C, sC, rfl⟩ := fine_vec (h c (by simp))
  clear h
  dsimp only at HF X0 HB0 ⊢
  have fA := szV_fits sA (by rw [most_eq]; omega)
  have fB := szV_fits sB (by rw [most_eq]; omega)
  have fC := szV_fits sC (by rw [most_eq]; omega)
  have fK := sz_fits sK (by rw [most_eq]; omega)
  have sAB := szV_add sA sB
  have fAB := szV_fits sAB (by rw [most_eq]; omega)
  have sBC := szV_add sB sC
  have fBC := szV_fits sBC (by rw [most_eq]; omega)
  have sKA := szV_mul sA (szV_all sK)
  have fKA := szV_fits sKA (by rw [most_eq]; omega)
  have sKB := szV_mul sB (szV_all sK)
  have fKB := szV_fits sKB (by rw [most_eq]; omega)
  have C1 := hide (fun w hB hT => (vAdd_O fA fB n0 w hB hT).mono fun _ _ hr => ResV.of (add2_sz sA sB (by rw [most_eq]; omega)) hr)
  have C2 := hide (fun w hB hT => (vAdd_O fB fA n0 w hB hT).mono fun _ _ hr => ResV.of (add2_sz sB sA (by rw [most_eq]; omega)) hr)
  have C3 := hide (fun w hB hT => (vAdd_O fAB fC n0 w hB hT).mono fun _ _ hr => ResV.of (add2_sz sAB sC (by rw [most_eq]; omega)) hr)
  have C4 := hide (fun w hB hT => (vAdd_O fB fC n0 w hB hT).mono fun _ _ hr => ResV.of (add2_sz sB sC (by rw [most_eq]; omega)) hr)
  have C5 := hide (fun w hB hT => (vAdd_O fA fBC n0 w hB hT).mono fun _ _ hr => ResV.of (add2_sz sA sBC (by rw [most_eq]; omega)) hr)
  have C6 := hide (fun w hB hT => (vSub_O fAB fB n0 w hB hT).mono fun _ _ hr => ResV.of (sub2_sz sAB sB (by rw [most_eq]; omega)) hr)
  have S1 := hide (fun w hB hT => (vScale_O fA fK n0 w hB hT).mono fun _ _ hr => ResV.of (mul2_sz sA (szV_all sK) (by rw [most_eq]; omega)) hr)
  have S2 := hide (fun w hB hT => (vScale_O fB fK n0 w hB hT).mono fun _ _ hr => ResV.of (mul2_sz sB (szV_all sK) (by rw [most_eq]; omega)) hr)
  have S3 := hide (fun w hB hT => (vAdd_O fKA fKB n0 w hB hT).mono fun _ _ hr => ResV.of (add2_sz sKA sKB (by rw [most_eq]; omega)) hr)
  have S4 := hide (fun w hB hT => (vScale_O fAB fK n0 w hB hT).mono fun _ _ hr => ResV.of (mul2_sz sAB (szV_all sK) (by rw [most_eq]; omega)) hr)
  rw [vadd_comm] at C2
  rw [← vadd_assoc] at C5
  rw [vsub_add] at C6
  rw [vmul_add] at S3
  obtain ⟨AB, hAB⟩ : ∃ X, X = vadd A B := ⟨_, rfl⟩
  rw [← hAB] at C1 C2 C3 C5 C6 S3 S4
  obtain ⟨BC, hBC⟩ : ∃ X, X = vadd B C := ⟨_, rfl⟩
  rw [← hBC] at C4 C5
  obtain ⟨LE, hLE⟩ : ∃ X, X = vadd AB C := ⟨_, rfl⟩
  rw [← hLE] at C3 C5
  obtain ⟨KA, hKA⟩ : ∃ X, X = vmul A (vall K) := ⟨_, rfl⟩
  rw [← hKA] at S1 S3
  obtain ⟨KB, hKB⟩ : ∃ X, X = vmul B (vall K) := ⟨_, rfl⟩
  rw [← hKB] at S2 S3
  obtain ⟨KS, hKS⟩ : ∃ X, X = vmul AB (vall K) := ⟨_, rfl⟩
  rw [← hKS] at S3 S4
  have he : ∀ (V : V3) w, _ := fun V w => (eqSpot_T V V w).trans (by rw [decide_eq_true rfl])
  have he1 := he AB
  have he2 := he LE
  have he3 := he A
  have he4 := he KS
  have hm6 := mxo6
  have hm4 := mxo4
  clear he hAB hBC hLE hKA hKB hKS sA sB sC sK sAB sBC sKA sKB fA fB fC fK fAB fBC fKA fKB
  go_enter Tryz.func13, Tryz.ntmps13
  go_wp2_with fail
  refine HF.out.mono ?_
  rintro e w1 ⟨rfl, hb1⟩
  have G0 := hide (below_blk hb1 X0.out.1 (lt_blk X0.out.1))
  have G1 := hide (below_blk hb1 X0.out.2.1 (lt_blk X0.out.2.1))
  have G2 := hide (below_blk hb1 X0.out.2.2.1 (lt_blk X0.out.2.2.1))
  have HB1 := hide (HB0.out.trans (hb1.mono HB0.out.size))
  clear hb1 X0
  have q0_0 := cell_blk G0.out 0
  have q0_1 := cell_blk G0.out 1
  have q0_2 := cell_blk G0.out 2
  have q0_l := lt_blk G0.out
  have q1_0 := cell_blk G1.out 0
  have q1_1 := cell_blk G1.out 1
  have q1_2 := cell_blk G1.out 2
  have q1_l := lt_blk G1.out
  have q2_0 := cell_blk G2.out 0
  have q2_1 := cell_blk G2.out 1
  have q2_2 := cell_blk G2.out 2
  have q2_l := lt_blk G2.out
  go_wp2_with fail
  refine (HNU.out _ (Nat.le_trans hB HB1.out.size) (HT.out.on HB1.out hB).pq).mono ?_
  rintro e w2 ⟨rfl, hb2⟩
  clear q0_0 q0_1 q0_2 q0_l q1_0 q1_1 q1_2 q1_l q2_0 q2_1 q2_2 q2_l
  have G0 := hide (below_blk hb2 G0.out (lt_blk G0.out))
  have G1 := hide (below_blk hb2 G1.out (lt_blk G1.out))
  have G2 := hide (below_blk hb2 G2.out (lt_blk G2.out))
  have HB2 := hide (HB1.out.trans (hb2.mono HB1.out.size))
  clear hb2
  have q0_0 := cell_blk G0.out 0
  have q0_1 := cell_blk G0.out 1
  have q0_2 := cell_blk G0.out 2
  have q0_l := lt_blk G0.out
  have q1_0 := cell_blk G1.out 0
  have q1_1 := cell_blk G1.out 1
  have q1_2 := cell_blk G1.out 2
  have q1_l := lt_blk G1.out
  have q2_0 := cell_blk G2.out 0
  have q2_1 := cell_blk G2.out 1
  have q2_2 := cell_blk G2.out 2
  have q2_l := lt_blk G2.out
  go_wp2_with fail
  refine (C1.out _ (Nat.le_trans hB HB2.out.size) (HT.out.on HB2.out hB).pq).mono ?_
  rintro e w3 ⟨rfl, hb3⟩
  clear q0_0 q0_1 q0_2 q0_l q1_0 q1_1 q1_2 q1_l q2_0 q2_1 q2_2 q2_l
  have X := hide (heap1 w3 (vecO AB))
  have hb3 := hb3.trans (X.out.2.2.mono hb3.size)
  have G0 := hide (below_blk hb3 G0.out (lt_blk G0.out))
  have G1 := hide (below_blk hb3 G1.out (lt_blk G1.out))
  have G2 := hide (below_blk hb3 G2.out (lt_blk G2.out))
  have G3 := hide X.out.1
  have HB3 := hide (HB2.out.trans (hb3.mono HB2.out.size))
  clear hb3 X
  have q0_0 := cell_blk G0.out 0
  have q0_1 := cell_blk G0.out 1
  have q0_2 := cell_blk G0.out 2
  have q0_l := lt_blk G0.out
  have q1_0 := cell_blk G1.out 0
  have q1_1 := cell_blk G1.out 1
  have q1_2 := cell_blk G1.out 2
  have q1_l := lt_blk G1.out
  have q2_0 := cell_blk G2.out 0
  have q2_1 := cell_blk G2.out 1
  have q2_2 := cell_blk G2.out 2
  have q2_l := lt_blk G2.out
  have q3_0 := cell_blk G3.out 0
  have q3_1 := cell_blk G3.out 1
  have q3_2 := cell_blk G3.out 2
  have q3_l := lt_blk G3.out
  go_wp2_with fail
  refine (C2.out _ (Nat.le_trans hB HB3.out.size) (HT.out.on HB3.out hB).pq).mono ?_
  rintro e w4 ⟨rfl, hb4⟩
  clear q0_0 q0_1 q0_2 q0_l q1_0 q1_1 q1_2 q1_l q2_0 q2_1 q2_2 q2_l q3_0 q3_1 q3_2 q3_l
  have X := hide (heap1 w4 (vecO AB))
  have hb4 := hb4.trans (X.out.2.2.mono hb4.size)
  have G0 := hide (below_blk hb4 G0.out (lt_blk G0.out))
  have G1 := hide (below_blk hb4 G1.out (lt_blk G1.out))
  have G2 := hide (below_blk hb4 G2.out (lt_blk G2.out))
  have G3 := hide (below_blk hb4 G3.out (lt_blk G3.out))
  have G4 := hide X.out.1
  have HB4 := hide (HB3.out.trans (hb4.mono HB3.out.size))
  clear hb4 X
  have q0_0 := cell_blk G0.out 0
  have q0_1 := cell_blk G0.out 1
  have q0_2 := cell_blk G0.out 2
  have q0_l := lt_blk G0.out
  have q1_0 := cell_blk G1.out 0
  have q1_1 := cell_blk G1.out 1
  have q1_2 := cell_blk G1.out 2
  have q1_l := lt_blk G1.out
  have q2_0 := cell_blk G2.out 0
  have q2_1 := cell_blk G2.out 1
  have q2_2 := cell_blk G2.out 2
  have q2_l := lt_blk G2.out
  have q3_0 := cell_blk G3.out 0
  have q3_1 := cell_blk G3.out 1
  have q3_2 := cell_blk G3.out 2
  have q3_l := lt_blk G3.out
  have q4_0 := cell_blk G4.out 0
  have q4_1 := cell_blk G4.out 1
  have q4_2 := cell_blk G4.out 2
  have q4_l := lt_blk G4.out
  go_wp2_with fail
  refine (C3.out _ (Nat.le_trans hB HB4.out.size) (HT.out.on HB4.out hB).pq).mono ?_
  rintro e w5 ⟨rfl, hb5⟩
  clear q0_0 q0_1 q0_2 q0_l q1_0 q1_1 q1_2 q1_l q2_0 q2_1 q2_2 q2_l q3_0 q3_1 q3_2 q3_l q4_0 q4_1 q4_2 q4_l
  have X := hide (heap1 w5 (vecO LE))
  have hb5 := hb5.trans (X.out.2.2.mono hb5.size)
  have G0 := hide (below_blk hb5 G0.out (lt_blk G0.out))
  have G1 := hide (below_blk hb5 G1.out (lt_blk G1.out))
  have G2 := hide (below_blk hb5 G2.out (lt_blk G2.out))
  have G3 := hide (below_blk hb5 G3.out (lt_blk G3.out))
  have G4 := hide (below_blk hb5 G4.out (lt_blk G4.out))
  have G5 := hide X.out.1
  have HB5 := hide (HB4.out.trans (hb5.mono HB4.out.size))
  clear hb5 X
  have q0_0 := cell_blk G0.out 0
  have q0_1 := cell_blk G0.out 1
  have q0_2 := cell_blk G0.out 2
  have q0_l := lt_blk G0.out
  have q1_0 := cell_blk G1.out 0
  have q1_1 := cell_blk G1.out 1
  have q1_2 := cell_blk G1.out 2
  have q1_l := lt_blk G1.out
  have q2_0 := cell_blk G2.out 0
  have q2_1 := cell_blk G2.out 1
  have q2_2 := cell_blk G2.out 2
  have q2_l := lt_blk G2.out
  have q3_0 := cell_blk G3.out 0
  have q3_1 := cell_blk G3.out 1
  have q3_2 := cell_blk G3.out 2
  have q3_l := lt_blk G3.out
  have q4_0 := cell_blk G4.out 0
  have q4_1 := cell_blk G4.out 1
  have q4_2 := cell_blk G4.out 2
  have q4_l := lt_blk G4.out
  have q5_0 := cell_blk G5.out 0
  have q5_1 := cell_blk G5.out 1
  have q5_2 := cell_blk G5.out 2
  have q5_l := lt_blk G5.out
  go_wp2_with fail
  refine (C4.out _ (Nat.le_trans hB HB5.out.size) (HT.out.on HB5.out hB).pq).mono ?_
  rintro e w6 ⟨rfl, hb6⟩
  clear q0_0 q0_1 q0_2 q0_l q1_0 q1_1 q1_2 q1_l q2_0 q2_1 q2_2 q2_l q3_0 q3_1 q3_2 q3_l q4_0 q4_1 q4_2 q4_l q5_0 q5_1 q5_2 q5_l
  have X := hide (heap1 w6 (vecO BC))
  have hb6 := hb6.trans (X.out.2.2.mono hb6.size)
  have G0 := hide (below_blk hb6 G0.out (lt_blk G0.out))
  have G1 := hide (below_blk hb6 G1.out (lt_blk G1.out))
  have G2 := hide (below_blk hb6 G2.out (lt_blk G2.out))
  have G3 := hide (below_blk hb6 G3.out (lt_blk G3.out))
  have G4 := hide (below_blk hb6 G4.out (lt_blk G4.out))
  have G5 := hide (below_blk hb6 G5.out (lt_blk G5.out))
  have G6 := hide X.out.1
  have HB6 := hide (HB5.out.trans (hb6.mono HB5.out.size))
  clear hb6 X
  have q0_0 := cell_blk G0.out 0
  have q0_1 := cell_blk G0.out 1
  have q0_2 := cell_blk G0.out 2
  have q0_l := lt_blk G0.out
  have q1_0 := cell_blk G1.out 0
  have q1_1 := cell_blk G1.out 1
  have q1_2 := cell_blk G1.out 2
  have q1_l := lt_blk G1.out
  have q2_0 := cell_blk G2.out 0
  have q2_1 := cell_blk G2.out 1
  have q2_2 := cell_blk G2.out 2
  have q2_l := lt_blk G2.out
  have q3_0 := cell_blk G3.out 0
  have q3_1 := cell_blk G3.out 1
  have q3_2 := cell_blk G3.out 2
  have q3_l := lt_blk G3.out
  have q4_0 := cell_blk G4.out 0
  have q4_1 := cell_blk G4.out 1
  have q4_2 := cell_blk G4.out 2
  have q4_l := lt_blk G4.out
  have q5_0 := cell_blk G5.out 0
  have q5_1 := cell_blk G5.out 1
  have q5_2 := cell_blk G5.out 2
  have q5_l := lt_blk G5.out
  have q6_0 := cell_blk G6.out 0
  have q6_1 := cell_blk G6.out 1
  have q6_2 := cell_blk G6.out 2
  have q6_l := lt_blk G6.out
  go_wp2_with fail
  refine (C5.out _ (Nat.le_trans hB HB6.out.size) (HT.out.on HB6.out hB).pq).mono ?_
  rintro e w7 ⟨rfl, hb7⟩
  clear q0_0 q0_1 q0_2 q0_l q1_0 q1_1 q1_2 q1_l q2_0 q2_1 q2_2 q2_l q3_0 q3_1 q3_2 q3_l q4_0 q4_1 q4_2 q4_l q5_0 q5_1 q5_2 q5_l q6_0 q6_1 q6_2 q6_l
  have X := hide (heap1 w7 (vecO LE))
  have hb7 := hb7.trans (X.out.2.2.mono hb7.size)
  have G0 := hide (below_blk hb7 G0.out (lt_blk G0.out))
  have G1 := hide (below_blk hb7 G1.out (lt_blk G1.out))
  have G2 := hide (below_blk hb7 G2.out (lt_blk G2.out))
  have G3 := hide (below_blk hb7 G3.out (lt_blk G3.out))
  have G4 := hide (below_blk hb7 G4.out (lt_blk G4.out))
  have G5 := hide (below_blk hb7 G5.out (lt_blk G5.out))
  have G6 := hide (below_blk hb7 G6.out (lt_blk G6.out))
  have G7 := hide X.out.1
  have HB7 := hide (HB6.out.trans (hb7.mono HB6.out.size))
  clear hb7 X
  have q0_0 := cell_blk G0.out 0
  have q0_1 := cell_blk G0.out 1
  have q0_2 := cell_blk G0.out 2
  have q0_l := lt_blk G0.out
  have q1_0 := cell_blk G1.out 0
  have q1_1 := cell_blk G1.out 1
  have q1_2 := cell_blk G1.out 2
  have q1_l := lt_blk G1.out
  have q2_0 := cell_blk G2.out 0
  have q2_1 := cell_blk G2.out 1
  have q2_2 := cell_blk G2.out 2
  have q2_l := lt_blk G2.out
  have q3_0 := cell_blk G3.out 0
  have q3_1 := cell_blk G3.out 1
  have q3_2 := cell_blk G3.out 2
  have q3_l := lt_blk G3.out
  have q4_0 := cell_blk G4.out 0
  have q4_1 := cell_blk G4.out 1
  have q4_2 := cell_blk G4.out 2
  have q4_l := lt_blk G4.out
  have q5_0 := cell_blk G5.out 0
  have q5_1 := cell_blk G5.out 1
  have q5_2 := cell_blk G5.out 2
  have q5_l := lt_blk G5.out
  have q6_0 := cell_blk G6.out 0
  have q6_1 := cell_blk G6.out 1
  have q6_2 := cell_blk G6.out 2
  have q6_l := lt_blk G6.out
  have q7_0 := cell_blk G7.out 0
  have q7_1 := cell_blk G7.out 1
  have q7_2 := cell_blk G7.out 2
  have q7_l := lt_blk G7.out
  go_wp2_with fail
  refine (C6.out _ (Nat.le_trans hB HB7.out.size) (HT.out.on HB7.out hB).pq).mono ?_
  rintro e w8 ⟨rfl, hb8⟩
  clear q0_0 q0_1 q0_2 q0_l q1_0 q1_1 q1_2 q1_l q2_0 q2_1 q2_2 q2_l q3_0 q3_1 q3_2 q3_l q4_0 q4_1 q4_2 q4_l q5_0 q5_1 q5_2 q5_l q6_0 q6_1 q6_2 q6_l q7_0 q7_1 q7_2 q7_l
  have X := hide (heap1 w8 (vecO A))
  have hb8 := hb8.trans (X.out.2.2.mono hb8.size)
  have G0 := hide (below_blk hb8 G0.out (lt_blk G0.out))
  have G1 := hide (below_blk hb8 G1.out (lt_blk G1.out))
  have G2 := hide (below_blk hb8 G2.out (lt_blk G2.out))
  have G3 := hide (below_blk hb8 G3.out (lt_blk G3.out))
  have G4 := hide (below_blk hb8 G4.out (lt_blk G4.out))
  have G5 := hide (below_blk hb8 G5.out (lt_blk G5.out))
  have G6 := hide (below_blk hb8 G6.out (lt_blk G6.out))
  have G7 := hide (below_blk hb8 G7.out (lt_blk G7.out))
  have G8 := hide X.out.1
  have HB8 := hide (HB7.out.trans (hb8.mono HB7.out.size))
  clear hb8 X
  have q0_0 := cell_blk G0.out 0
  have q0_1 := cell_blk G0.out 1
  have q0_2 := cell_blk G0.out 2
  have q0_l := lt_blk G0.out
  have q1_0 := cell_blk G1.out 0
  have q1_1 := cell_blk G1.out 1
  have q1_2 := cell_blk G1.out 2
  have q1_l := lt_blk G1.out
  have q2_0 := cell_blk G2.out 0
  have q2_1 := cell_blk G2.out 1
  have q2_2 := cell_blk G2.out 2
  have q2_l := lt_blk G2.out
  have q3_0 := cell_blk G3.out 0
  have q3_1 := cell_blk G3.out 1
  have q3_2 := cell_blk G3.out 2
  have q3_l := lt_blk G3.out
  have q4_0 := cell_blk G4.out 0
  have q4_1 := cell_blk G4.out 1
  have q4_2 := cell_blk G4.out 2
  have q4_l := lt_blk G4.out
  have q5_0 := cell_blk G5.out 0
  have q5_1 := cell_blk G5.out 1
  have q5_2 := cell_blk G5.out 2
  have q5_l := lt_blk G5.out
  have q6_0 := cell_blk G6.out 0
  have q6_1 := cell_blk G6.out 1
  have q6_2 := cell_blk G6.out 2
  have q6_l := lt_blk G6.out
  have q7_0 := cell_blk G7.out 0
  have q7_1 := cell_blk G7.out 1
  have q7_2 := cell_blk G7.out 2
  have q7_l := lt_blk G7.out
  have q8_0 := cell_blk G8.out 0
  have q8_1 := cell_blk G8.out 1
  have q8_2 := cell_blk G8.out 2
  have q8_l := lt_blk G8.out
  go_wp2_with fail
  refine (S1.out _ (Nat.le_trans hB HB8.out.size) (HT.out.on HB8.out hB).pq).mono ?_
  rintro e w9 ⟨rfl, hb9⟩
  clear q0_0 q0_1 q0_2 q0_l q1_0 q1_1 q1_2 q1_l q2_0 q2_1 q2_2 q2_l q3_0 q3_1 q3_2 q3_l q4_0 q4_1 q4_2 q4_l q5_0 q5_1 q5_2 q5_l q6_0 q6_1 q6_2 q6_l q7_0 q7_1 q7_2 q7_l q8_0 q8_1 q8_2 q8_l
  have X := hide (heap1 w9 (vecO KA))
  have hb9 := hb9.trans (X.out.2.2.mono hb9.size)
  have G0 := hide (below_blk hb9 G0.out (lt_blk G0.out))
  have G1 := hide (below_blk hb9 G1.out (lt_blk G1.out))
  have G2 := hide (below_blk hb9 G2.out (lt_blk G2.out))
  have G3 := hide (below_blk hb9 G3.out (lt_blk G3.out))
  have G4 := hide (below_blk hb9 G4.out (lt_blk G4.out))
  have G5 := hide (below_blk hb9 G5.out (lt_blk G5.out))
  have G6 := hide (below_blk hb9 G6.out (lt_blk G6.out))
  have G7 := hide (below_blk hb9 G7.out (lt_blk G7.out))
  have G8 := hide (below_blk hb9 G8.out (lt_blk G8.out))
  have G9 := hide X.out.1
  have HB9 := hide (HB8.out.trans (hb9.mono HB8.out.size))
  clear hb9 X
  have q0_0 := cell_blk G0.out 0
  have q0_1 := cell_blk G0.out 1
  have q0_2 := cell_blk G0.out 2
  have q0_l := lt_blk G0.out
  have q1_0 := cell_blk G1.out 0
  have q1_1 := cell_blk G1.out 1
  have q1_2 := cell_blk G1.out 2
  have q1_l := lt_blk G1.out
  have q2_0 := cell_blk G2.out 0
  have q2_1 := cell_blk G2.out 1
  have q2_2 := cell_blk G2.out 2
  have q2_l := lt_blk G2.out
  have q3_0 := cell_blk G3.out 0
  have q3_1 := cell_blk G3.out 1
  have q3_2 := cell_blk G3.out 2
  have q3_l := lt_blk G3.out
  have q4_0 := cell_blk G4.out 0
  have q4_1 := cell_blk G4.out 1
  have q4_2 := cell_blk G4.out 2
  have q4_l := lt_blk G4.out
  have q5_0 := cell_blk G5.out 0
  have q5_1 := cell_blk G5.out 1
  have q5_2 := cell_blk G5.out 2
  have q5_l := lt_blk G5.out
  have q6_0 := cell_blk G6.out 0
  have q6_1 := cell_blk G6.out 1
  have q6_2 := cell_blk G6.out 2
  have q6_l := lt_blk G6.out
  have q7_0 := cell_blk G7.out 0
  have q7_1 := cell_blk G7.out 1
  have q7_2 := cell_blk G7.out 2
  have q7_l := lt_blk G7.out
  have q8_0 := cell_blk G8.out 0
  have q8_1 := cell_blk G8.out 1
  have q8_2 := cell_blk G8.out 2
  have q8_l := lt_blk G8.out
  have q9_0 := cell_blk G9.out 0
  have q9_1 := cell_blk G9.out 1
  have q9_2 := cell_blk G9.out 2
  have q9_l := lt_blk G9.out
  go_wp2_with fail
  refine (S2.out _ (Nat.le_trans hB HB9.out.size) (HT.out.on HB9.out hB).pq).mono ?_
  rintro e w10 ⟨rfl, hb10⟩
  clear q0_0 q0_1 q0_2 q0_l q1_0 q1_1 q1_2 q1_l q2_0 q2_1 q2_2 q2_l q3_0 q3_1 q3_2 q3_l q4_0 q4_1 q4_2 q4_l q5_0 q5_1 q5_2 q5_l q6_0 q6_1 q6_2 q6_l q7_0 q7_1 q7_2 q7_l q8_0 q8_1 q8_2 q8_l q9_0 q9_1 q9_2 q9_l
  have X := hide (heap1 w10 (vecO KB))
  have hb10 := hb10.trans (X.out.2.2.mono hb10.size)
  have G0 := hide (below_blk hb10 G0.out (lt_blk G0.out))
  have G1 := hide (below_blk hb10 G1.out (lt_blk G1.out))
  have G2 := hide (below_blk hb10 G2.out (lt_blk G2.out))
  have G3 := hide (below_blk hb10 G3.out (lt_blk G3.out))
  have G4 := hide (below_blk hb10 G4.out (lt_blk G4.out))
  have G5 := hide (below_blk hb10 G5.out (lt_blk G5.out))
  have G6 := hide (below_blk hb10 G6.out (lt_blk G6.out))
  have G7 := hide (below_blk hb10 G7.out (lt_blk G7.out))
  have G8 := hide (below_blk hb10 G8.out (lt_blk G8.out))
  have G9 := hide (below_blk hb10 G9.out (lt_blk G9.out))
  have G10 := hide X.out.1
  have HB10 := hide (HB9.out.trans (hb10.mono HB9.out.size))
  clear hb10 X
  have q0_0 := cell_blk G0.out 0
  have q0_1 := cell_blk G0.out 1
  have q0_2 := cell_blk G0.out 2
  have q0_l := lt_blk G0.out
  have q1_0 := cell_blk G1.out 0
  have q1_1 := cell_blk G1.out 1
  have q1_2 := cell_blk G1.out 2
  have q1_l := lt_blk G1.out
  have q2_0 := cell_blk G2.out 0
  have q2_1 := cell_blk G2.out 1
  have q2_2 := cell_blk G2.out 2
  have q2_l := lt_blk G2.out
  have q3_0 := cell_blk G3.out 0
  have q3_1 := cell_blk G3.out 1
  have q3_2 := cell_blk G3.out 2
  have q3_l := lt_blk G3.out
  have q4_0 := cell_blk G4.out 0
  have q4_1 := cell_blk G4.out 1
  have q4_2 := cell_blk G4.out 2
  have q4_l := lt_blk G4.out
  have q5_0 := cell_blk G5.out 0
  have q5_1 := cell_blk G5.out 1
  have q5_2 := cell_blk G5.out 2
  have q5_l := lt_blk G5.out
  have q6_0 := cell_blk G6.out 0
  have q6_1 := cell_blk G6.out 1
  have q6_2 := cell_blk G6.out 2
  have q6_l := lt_blk G6.out
  have q7_0 := cell_blk G7.out 0
  have q7_1 := cell_blk G7.out 1
  have q7_2 := cell_blk G7.out 2
  have q7_l := lt_blk G7.out
  have q8_0 := cell_blk G8.out 0
  have q8_1 := cell_blk G8.out 1
  have q8_2 := cell_blk G8.out 2
  have q8_l := lt_blk G8.out
  have q9_0 := cell_blk G9.out 0
  have q9_1 := cell_blk G9.out 1
  have q9_2 := cell_blk G9.out 2
  have q9_l := lt_blk G9.out
  have q10_0 := cell_blk G10.out 0
  have q10_1 := cell_blk G10.out 1
  have q10_2 := cell_blk G10.out 2
  have q10_l := lt_blk G10.out
  go_wp2_with fail
  refine (S3.out _ (Nat.le_trans hB HB10.out.size) (HT.out.on HB10.out hB).pq).mono ?_
  rintro e w11 ⟨rfl, hb11⟩
  clear q0_0 q0_1 q0_2 q0_l q1_0 q1_1 q1_2 q1_l q2_0 q2_1 q2_2 q2_l q3_0 q3_1 q3_2 q3_l q4_0 q4_1 q4_2 q4_l q5_0 q5_1 q5_2 q5_l q6_0 q6_1 q6_2 q6_l q7_0 q7_1 q7_2 q7_l q8_0 q8_1 q8_2 q8_l q9_0 q9_1 q9_2 q9_l q10_0 q10_1 q10_2 q10_l
  have X := hide (heap1 w11 (vecO KS))
  have hb11 := hb11.trans (X.out.2.2.mono hb11.size)
  have G0 := hide (below_blk hb11 G0.out (lt_blk G0.out))
  have G1 := hide (below_blk hb11 G1.out (lt_blk G1.out))
  have G2 := hide (below_blk hb11 G2.out (lt_blk G2.out))
  have G3 := hide (below_blk hb11 G3.out (lt_blk G3.out))
  have G4 := hide (below_blk hb11 G4.out (lt_blk G4.out))
  have G5 := hide (below_blk hb11 G5.out (lt_blk G5.out))
  have G6 := hide (below_blk hb11 G6.out (lt_blk G6.out))
  have G7 := hide (below_blk hb11 G7.out (lt_blk G7.out))
  have G8 := hide (below_blk hb11 G8.out (lt_blk G8.out))
  have G9 := hide (below_blk hb11 G9.out (lt_blk G9.out))
  have G10 := hide (below_blk hb11 G10.out (lt_blk G10.out))
  have G11 := hide X.out.1
  have HB11 := hide (HB10.out.trans (hb11.mono HB10.out.size))
  clear hb11 X
  have q0_0 := cell_blk G0.out 0
  have q0_1 := cell_blk G0.out 1
  have q0_2 := cell_blk G0.out 2
  have q0_l := lt_blk G0.out
  have q1_0 := cell_blk G1.out 0
  have q1_1 := cell_blk G1.out 1
  have q1_2 := cell_blk G1.out 2
  have q1_l := lt_blk G1.out
  have q2_0 := cell_blk G2.out 0
  have q2_1 := cell_blk G2.out 1
  have q2_2 := cell_blk G2.out 2
  have q2_l := lt_blk G2.out
  have q3_0 := cell_blk G3.out 0
  have q3_1 := cell_blk G3.out 1
  have q3_2 := cell_blk G3.out 2
  have q3_l := lt_blk G3.out
  have q4_0 := cell_blk G4.out 0
  have q4_1 := cell_blk G4.out 1
  have q4_2 := cell_blk G4.out 2
  have q4_l := lt_blk G4.out
  have q5_0 := cell_blk G5.out 0
  have q5_1 := cell_blk G5.out 1
  have q5_2 := cell_blk G5.out 2
  have q5_l := lt_blk G5.out
  have q6_0 := cell_blk G6.out 0
  have q6_1 := cell_blk G6.out 1
  have q6_2 := cell_blk G6.out 2
  have q6_l := lt_blk G6.out
  have q7_0 := cell_blk G7.out 0
  have q7_1 := cell_blk G7.out 1
  have q7_2 := cell_blk G7.out 2
  have q7_l := lt_blk G7.out
  have q8_0 := cell_blk G8.out 0
  have q8_1 := cell_blk G8.out 1
  have q8_2 := cell_blk G8.out 2
  have q8_l := lt_blk G8.out
  have q9_0 := cell_blk G9.out 0
  have q9_1 := cell_blk G9.out 1
  have q9_2 := cell_blk G9.out 2
  have q9_l := lt_blk G9.out
  have q10_0 := cell_blk G10.out 0
  have q10_1 := cell_blk G10.out 1
  have q10_2 := cell_blk G10.out 2
  have q10_l := lt_blk G10.out
  have q11_0 := cell_blk G11.out 0
  have q11_1 := cell_blk G11.out 1
  have q11_2 := cell_blk G11.out 2
  have q11_l := lt_blk G11.out
  go_wp2_with fail
  refine (S4.out _ (Nat.le_trans hB HB11.out.size) (HT.out.on HB11.out hB).pq).mono ?_
  rintro e w12 ⟨rfl, hb12⟩
  clear q0_0 q0_1 q0_2 q0_l q1_0 q1_1 q1_2 q1_l q2_0 q2_1 q2_2 q2_l q3_0 q3_1 q3_2 q3_l q4_0 q4_1 q4_2 q4_l q5_0 q5_1 q5_2 q5_l q6_0 q6_1 q6_2 q6_l q7_0 q7_1 q7_2 q7_l q8_0 q8_1 q8_2 q8_l q9_0 q9_1 q9_2 q9_l q10_0 q10_1 q10_2 q10_l q11_0 q11_1 q11_2 q11_l
  have X := hide (heap1 w12 (vecO KS))
  have hb12 := hb12.trans (X.out.2.2.mono hb12.size)
  have G0 := hide (below_blk hb12 G0.out (lt_blk G0.out))
  have G1 := hide (below_blk hb12 G1.out (lt_blk G1.out))
  have G2 := hide (below_blk hb12 G2.out (lt_blk G2.out))
  have G3 := hide (below_blk hb12 G3.out (lt_blk G3.out))
  have G4 := hide (below_blk hb12 G4.out (lt_blk G4.out))
  have G5 := hide (below_blk hb12 G5.out (lt_blk G5.out))
  have G6 := hide (below_blk hb12 G6.out (lt_blk G6.out))
  have G7 := hide (below_blk hb12 G7.out (lt_blk G7.out))
  have G8 := hide (below_blk hb12 G8.out (lt_blk G8.out))
  have G9 := hide (below_blk hb12 G9.out (lt_blk G9.out))
  have G10 := hide (below_blk hb12 G10.out (lt_blk G10.out))
  have G11 := hide (below_blk hb12 G11.out (lt_blk G11.out))
  have G12 := hide X.out.1
  have HB12 := hide (HB11.out.trans (hb12.mono HB11.out.size))
  clear hb12 X
  have q0_0 := cell_blk G0.out 0
  have q0_1 := cell_blk G0.out 1
  have q0_2 := cell_blk G0.out 2
  have q0_l := lt_blk G0.out
  have q1_0 := cell_blk G1.out 0
  have q1_1 := cell_blk G1.out 1
  have q1_2 := cell_blk G1.out 2
  have q1_l := lt_blk G1.out
  have q2_0 := cell_blk G2.out 0
  have q2_1 := cell_blk G2.out 1
  have q2_2 := cell_blk G2.out 2
  have q2_l := lt_blk G2.out
  have q3_0 := cell_blk G3.out 0
  have q3_1 := cell_blk G3.out 1
  have q3_2 := cell_blk G3.out 2
  have q3_l := lt_blk G3.out
  have q4_0 := cell_blk G4.out 0
  have q4_1 := cell_blk G4.out 1
  have q4_2 := cell_blk G4.out 2
  have q4_l := lt_blk G4.out
  have q5_0 := cell_blk G5.out 0
  have q5_1 := cell_blk G5.out 1
  have q5_2 := cell_blk G5.out 2
  have q5_l := lt_blk G5.out
  have q6_0 := cell_blk G6.out 0
  have q6_1 := cell_blk G6.out 1
  have q6_2 := cell_blk G6.out 2
  have q6_l := lt_blk G6.out
  have q7_0 := cell_blk G7.out 0
  have q7_1 := cell_blk G7.out 1
  have q7_2 := cell_blk G7.out 2
  have q7_l := lt_blk G7.out
  have q8_0 := cell_blk G8.out 0
  have q8_1 := cell_blk G8.out 1
  have q8_2 := cell_blk G8.out 2
  have q8_l := lt_blk G8.out
  have q9_0 := cell_blk G9.out 0
  have q9_1 := cell_blk G9.out 1
  have q9_2 := cell_blk G9.out 2
  have q9_l := lt_blk G9.out
  have q10_0 := cell_blk G10.out 0
  have q10_1 := cell_blk G10.out 1
  have q10_2 := cell_blk G10.out 2
  have q10_l := lt_blk G10.out
  have q11_0 := cell_blk G11.out 0
  have q11_1 := cell_blk G11.out 1
  have q11_2 := cell_blk G11.out 2
  have q11_l := lt_blk G11.out
  have q12_0 := cell_blk G12.out 0
  have q12_1 := cell_blk G12.out 1
  have q12_2 := cell_blk G12.out 2
  have q12_l := lt_blk G12.out
  go_wp2_with fail
  refine (HAW.out _ (Nat.le_trans hB HB12.out.size) (HT.out.on HB12.out hB)).mono ?_
  rintro e w99 ⟨rfl, hb99⟩
  have HB99 := hide (HB12.out.trans (hb99.mono HB12.out.size))
  clear hb99
  go_wp2_with fail
  go_ret
  exact ⟨rfl, HB99.out⟩
end Go.Proofs.YtbfojhneajedmaaGreatDoor
