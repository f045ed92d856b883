/-
  Texts of the integers, laid together: Zs.
-/
import Derived.Test.YtbfojhneajedmaaGreatDoorZ25
namespace Go.Proofs.YtbfojhneajedmaaGreatDoor
open Go.RowKit Go.KP Go.KI Go.Shelf
attribute [local go_sem] Oper.semAt_some

theorem mxo8 (w : World) : (Builtin.max_ #[31, 31, 31, 31, 31, 31, 31, 31] 31 #[.int .i64 0, .int .i64 0, .int .i64 0, .int .i64 0, .int .i64 0, .int .i64 0, .int .i64 0, .int .i64 0]).run Tryz.prog w = .ok (.int .i64 0) w := mxs w _ _ [0, 0, 0, 0, 0, 0, 0] (by simp)
set_option maxRecDepth 100000 in
set_option maxHeartbeats 16000000 in
theorem lawCross_any (a b : S3) (k : ByteArray) (n0 : Nat) (w : World) (hB : n0 ≤ w.heap.size) (hT : PR n0 w) :
    Calls Tryz.prog 15 #[spotV a.x a.y a.z, spotV b.x b.y b.z, .string k] w (Ret w (.bool true)) := by
  have HT := hide hT
  have HAW := hide (fun w hB hT => v9awake_any n0 w hB hT)
  have X0 := hide (heap3 w (spotO a.x a.y a.z) (spotO b.x b.y b.z) (.cells #[.string a.x, .string a.y, .string a.z, .string b.x, .string b.y, .string b.z] 24))
  have HB0 := hide X0.out.2.2.2.2
  have HF := hide (v9short_any (w.heap.size + 2) [a, b] _ (by simp) (spots2 X0.out.2.2.1) n0 (Nat.le_trans hB HB0.out.size) (hT.on HB0.out hB).pq)
  have HNU := hide (fun w hB hT => v9number_any k n0 w hB hT)
  clear hT
  by_cases h : ∀ V ∈ [a, b], short3 V ∧ fine3 V
  rotate_left
  · rw [decide_eq_false h] at HF
    clear h HNU
    go_enter Tryz.func15, Tryz.ntmps15
    go_wp2_with fail
    refine HF.out.mono ?_
    rintro e w1 ⟨rfl, hb1⟩
    have HB1 := hide (HB0.out.trans (hb1.mono HB0.out.size))
    clear hb1
    clear X0
    go_wp2_with fail
    refine (HAW.out _ (Nat.le_trans hB HB1.out.size) (HT.out.on HB1.out hB)).mono ?_
    rintro e w99 ⟨rfl, hb99⟩
    have HB99 := hide (HB1.out.trans (hb99.mono HB1.out.size))
    clear hb99
    go_wp2_with fail
    go_ret
    exact ⟨rfl, HB99.out⟩
  rw [decide_eq_true h] at HF
  by_cases hk : k.size ≤ 40 ∧ chkQ k.data.toList = 0
  rotate_left
  · rw [decide_eq_false hk] at HNU
    clear h hk
    go_enter Tryz.func15, Tryz.ntmps15
    go_wp2_with fail
    refine HF.out.mono ?_
    rintro e w1 ⟨rfl, hb1⟩
    have HB1 := hide (HB0.out.trans (hb1.mono HB0.out.size))
    clear hb1
    clear X0
    go_wp2_with fail
    refine (HNU.out _ (Nat.le_trans hB HB1.out.size) (HT.out.on HB1.out hB).pq).mono ?_
    rintro e w2 ⟨rfl, hb2⟩
    have HB2 := hide (HB1.out.trans (hb2.mono HB1.out.size))
    clear hb2
    go_wp2_with fail
    refine (HAW.out _ (Nat.le_trans hB HB2.out.size) (HT.out.on HB2.out hB)).mono ?_
    rintro e w99 ⟨rfl, hb99⟩
    have HB99 := hide (HB2.out.trans (hb99.mono HB2.out.size))
    clear hb99
    go_wp2_with fail
    go_ret
    exact ⟨rfl, HB99.out⟩
  rw [decide_eq_true hk] at HNU
  obtain ⟨K, sK, rfl⟩ := num_rat hk
  clear hk
  obtain ⟨A, sA, rfl⟩ := short_vec (h a (by simp))
  obtain ⟨B, sB, rfl⟩ := short_vec (h b (by simp))
  clear h
  dsimp only at HF X0 HB0 ⊢
  have fA := szV_fits sA (by rw [most_eq]; omega)
  have fB := szV_fits sB (by rw [most_eq]; omega)
  have fK := sz_fits sK (by rw [most_eq]; omega)
  have sKA := szV_mul sA (szV_all sK)
  have fKA := szV_fits sKA (by rw [most_eq]; omega)
  have sAB := (cross_sz sA sB (by rw [most_eq]; omega)).2
  have sBA := (cross_sz sB sA (by rw [most_eq]; omega)).2
  have fAB := szV_fits sAB (by rw [most_eq]; omega)
  have fBA := szV_fits sBA (by rw [most_eq]; omega)
  have C1 := hide (fun w hB hT => (vCross_O fA fB n0 w hB hT).mono fun _ _ hr => ResV.of (cross_sz sA sB (by rw [most_eq]; omega)).1 hr)
  have C2 := hide (fun w hB hT => (vCross_O fB fA n0 w hB hT).mono fun _ _ hr => ResV.of (cross_sz sB sA (by rw [most_eq]; omega)).1 hr)
  have C3 := hide (fun w hB hT => (vAdd_O fAB fBA n0 w hB hT).mono fun _ _ hr => ResV.of (add2_sz sAB sBA (by rw [most_eq]; omega)) hr)
  have C4 := hide (fun w hB hT => (vDot_O fAB fA n0 w hB hT).mono fun _ _ hr => ResO.of (dot0_sz sAB sA (by rw [most_eq]; omega) (vcross_left A B)) hr)
  have C5 := hide (fun w hB hT => (vDot_O fAB fB n0 w hB hT).mono fun _ _ hr => ResO.of (dot0_sz sAB sB (by rw [most_eq]; omega) (vcross_right A B)) hr)
  have C6 := hide (fun w hB hT => (vScale_O fA fK n0 w hB hT).mono fun _ _ hr => ResV.of (mul2_sz sA (szV_all sK) (by rw [most_eq]; omega)) hr)
  have C7 := hide (fun w hB hT => vParallel_T fA fKA (cross_sz sA sKA (by rw [most_eq]; omega)).1 (is := true) (by rw [vcross_mul, decide_eq_true rfl]) n0 w hB hT)
  have C8 := hide (fun w hB hT => vParallel_T fA fB (cross_sz sA sB (by rw [most_eq]; omega)).1 rfl n0 w hB hT)
  rw [vcross_anti] at C3
  rw [T0] at C4 C5
  have he := fun w => eqZero (vcross A B) w
  have hz := fun w => eqZero vzero w
  simp only [decide_true] at hz
  obtain ⟨z, hzz⟩ : ∃ r, r = decide (vcross A B = vzero) := ⟨_, rfl⟩
  simp only [← hzz] at he
  rw [← hzz] at C8
  obtain ⟨AB, hAB⟩ : ∃ X, X = vcross A B := ⟨_, rfl⟩
  simp only [← hAB] at C1 C3 C4 C5 he
  obtain ⟨BA, hBA⟩ : ∃ X, X = vcross B A := ⟨_, rfl⟩
  rw [← hBA] at C2 C3
  obtain ⟨KA, hKA⟩ : ∃ X, X = vmul A (vall K) := ⟨_, rfl⟩
  rw [← hKA] at C6 C7
  obtain ⟨Z, hZ⟩ : ∃ X, X = vzero := ⟨_, rfl⟩
  rw [← hZ] at C3
  have hz := fun w => (congrArg (fun Z => (Op.equalIn 10000 24 (vecV Z) (.agg #[.string ⟨#[48]⟩, .string ⟨#[48]⟩, .string ⟨#[48]⟩])).run Tryz.prog w) hZ).trans (hz w)
  have hm8 := mxo8
  have HZ : Hid (z = true ∨ z = false) := hide (by cases z <;> simp)
  clear hZ hzz hAB hBA hKA sA sB sK sKA sAB sBA fA fB fK fKA fAB fBA
  go_enter Tryz.func15, Tryz.ntmps15
  go_wp2_with fail
  refine HF.out.mono ?_
  rintro e w1 ⟨rfl, hb1⟩
  have G0 := hide (below_blk hb1 X0.out.1 (lt_blk X0.out.1))
  have G1 := hide (below_blk hb1 X0.out.2.1 (lt_blk X0.out.2.1))
  have HB1 := hide (HB0.out.trans (hb1.mono HB0.out.size))
  clear hb1 X0
  have q0_0 := cell_blk G0.out 0
  have q0_1 := cell_blk G0.out 1
  have q0_2 := cell_blk G0.out 2
  have q0_l := lt_blk G0.out
  have q1_0 := cell_blk G1.out 0
  have q1_1 := cell_blk G1.out 1
  have q1_2 := cell_blk G1.out 2
  have q1_l := lt_blk G1.out
  go_wp2_with fail
  refine (HNU.out _ (Nat.le_trans hB HB1.out.size) (HT.out.on HB1.out hB).pq).mono ?_
  rintro e w2 ⟨rfl, hb2⟩
  clear q0_0 q0_1 q0_2 q0_l q1_0 q1_1 q1_2 q1_l
  have G0 := hide (below_blk hb2 G0.out (lt_blk G0.out))
  have G1 := hide (below_blk hb2 G1.out (lt_blk G1.out))
  have HB2 := hide (HB1.out.trans (hb2.mono HB1.out.size))
  clear hb2
  have q0_0 := cell_blk G0.out 0
  have q0_1 := cell_blk G0.out 1
  have q0_2 := cell_blk G0.out 2
  have q0_l := lt_blk G0.out
  have q1_0 := cell_blk G1.out 0
  have q1_1 := cell_blk G1.out 1
  have q1_2 := cell_blk G1.out 2
  have q1_l := lt_blk G1.out
  go_wp2_with fail
  refine (C1.out _ (Nat.le_trans hB HB2.out.size) (HT.out.on HB2.out hB).pq).mono ?_
  rintro e w3 ⟨rfl, hb3⟩
  clear q0_0 q0_1 q0_2 q0_l q1_0 q1_1 q1_2 q1_l
  have X := hide (heap1 w3 (vecO AB))
  have hb3 := hb3.trans (X.out.2.2.mono hb3.size)
  have G0 := hide (below_blk hb3 G0.out (lt_blk G0.out))
  have G1 := hide (below_blk hb3 G1.out (lt_blk G1.out))
  have G2 := hide X.out.1
  have HB3 := hide (HB2.out.trans (hb3.mono HB2.out.size))
  clear hb3 X
  have q0_0 := cell_blk G0.out 0
  have q0_1 := cell_blk G0.out 1
  have q0_2 := cell_blk G0.out 2
  have q0_l := lt_blk G0.out
  have q1_0 := cell_blk G1.out 0
  have q1_1 := cell_blk G1.out 1
  have q1_2 := cell_blk G1.out 2
  have q1_l := lt_blk G1.out
  have q2_0 := cell_blk G2.out 0
  have q2_1 := cell_blk G2.out 1
  have q2_2 := cell_blk G2.out 2
  have q2_l := lt_blk G2.out
  go_wp2_with fail
  refine (C2.out _ (Nat.le_trans hB HB3.out.size) (HT.out.on HB3.out hB).pq).mono ?_
  rintro e w4 ⟨rfl, hb4⟩
  clear q0_0 q0_1 q0_2 q0_l q1_0 q1_1 q1_2 q1_l q2_0 q2_1 q2_2 q2_l
  have X := hide (heap1 w4 (vecO BA))
  have hb4 := hb4.trans (X.out.2.2.mono hb4.size)
  have G0 := hide (below_blk hb4 G0.out (lt_blk G0.out))
  have G1 := hide (below_blk hb4 G1.out (lt_blk G1.out))
  have G2 := hide (below_blk hb4 G2.out (lt_blk G2.out))
  have G3 := hide X.out.1
  have HB4 := hide (HB3.out.trans (hb4.mono HB3.out.size))
  clear hb4 X
  have q0_0 := cell_blk G0.out 0
  have q0_1 := cell_blk G0.out 1
  have q0_2 := cell_blk G0.out 2
  have q0_l := lt_blk G0.out
  have q1_0 := cell_blk G1.out 0
  have q1_1 := cell_blk G1.out 1
  have q1_2 := cell_blk G1.out 2
  have q1_l := lt_blk G1.out
  have q2_0 := cell_blk G2.out 0
  have q2_1 := cell_blk G2.out 1
  have q2_2 := cell_blk G2.out 2
  have q2_l := lt_blk G2.out
  have q3_0 := cell_blk G3.out 0
  have q3_1 := cell_blk G3.out 1
  have q3_2 := cell_blk G3.out 2
  have q3_l := lt_blk G3.out
  go_wp2_with fail
  refine (C3.out _ (Nat.le_trans hB HB4.out.size) (HT.out.on HB4.out hB).pq).mono ?_
  rintro e w5 ⟨rfl, hb5⟩
  clear q0_0 q0_1 q0_2 q0_l q1_0 q1_1 q1_2 q1_l q2_0 q2_1 q2_2 q2_l q3_0 q3_1 q3_2 q3_l
  have X := hide (heap1 w5 (vecO Z))
  have hb5 := hb5.trans (X.out.2.2.mono hb5.size)
  have G0 := hide (below_blk hb5 G0.out (lt_blk G0.out))
  have G1 := hide (below_blk hb5 G1.out (lt_blk G1.out))
  have G2 := hide (below_blk hb5 G2.out (lt_blk G2.out))
  have G3 := hide (below_blk hb5 G3.out (lt_blk G3.out))
  have G4 := hide X.out.1
  have HB5 := hide (HB4.out.trans (hb5.mono HB4.out.size))
  clear hb5 X
  have q0_0 := cell_blk G0.out 0
  have q0_1 := cell_blk G0.out 1
  have q0_2 := cell_blk G0.out 2
  have q0_l := lt_blk G0.out
  have q1_0 := cell_blk G1.out 0
  have q1_1 := cell_blk G1.out 1
  have q1_2 := cell_blk G1.out 2
  have q1_l := lt_blk G1.out
  have q2_0 := cell_blk G2.out 0
  have q2_1 := cell_blk G2.out 1
  have q2_2 := cell_blk G2.out 2
  have q2_l := lt_blk G2.out
  have q3_0 := cell_blk G3.out 0
  have q3_1 := cell_blk G3.out 1
  have q3_2 := cell_blk G3.out 2
  have q3_l := lt_blk G3.out
  have q4_0 := cell_blk G4.out 0
  have q4_1 := cell_blk G4.out 1
  have q4_2 := cell_blk G4.out 2
  have q4_l := lt_blk G4.out
  go_wp2_with fail
  refine (C4.out _ (Nat.le_trans hB HB5.out.size) (HT.out.on HB5.out hB).pq).mono ?_
  rintro e w6 ⟨rfl, hb6⟩
  clear q0_0 q0_1 q0_2 q0_l q1_0 q1_1 q1_2 q1_l q2_0 q2_1 q2_2 q2_l q3_0 q3_1 q3_2 q3_l q4_0 q4_1 q4_2 q4_l
  have G0 := hide (below_blk hb6 G0.out (lt_blk G0.out))
  have G1 := hide (below_blk hb6 G1.out (lt_blk G1.out))
  have G2 := hide (below_blk hb6 G2.out (lt_blk G2.out))
  have G3 := hide (below_blk hb6 G3.out (lt_blk G3.out))
  have G4 := hide (below_blk hb6 G4.out (lt_blk G4.out))
  have HB6 := hide (HB5.out.trans (hb6.mono HB5.out.size))
  clear hb6
  have q0_0 := cell_blk G0.out 0
  have q0_1 := cell_blk G0.out 1
  have q0_2 := cell_blk G0.out 2
  have q0_l := lt_blk G0.out
  have q1_0 := cell_blk G1.out 0
  have q1_1 := cell_blk G1.out 1
  have q1_2 := cell_blk G1.out 2
  have q1_l := lt_blk G1.out
  have q2_0 := cell_blk G2.out 0
  have q2_1 := cell_blk G2.out 1
  have q2_2 := cell_blk G2.out 2
  have q2_l := lt_blk G2.out
  have q3_0 := cell_blk G3.out 0
  have q3_1 := cell_blk G3.out 1
  have q3_2 := cell_blk G3.out 2
  have q3_l := lt_blk G3.out
  have q4_0 := cell_blk G4.out 0
  have q4_1 := cell_blk G4.out 1
  have q4_2 := cell_blk G4.out 2
  have q4_l := lt_blk G4.out
  go_wp2_with fail
  refine (C5.out _ (Nat.le_trans hB HB6.out.size) (HT.out.on HB6.out hB).pq).mono ?_
  rintro e w7 ⟨rfl, hb7⟩
  clear q0_0 q0_1 q0_2 q0_l q1_0 q1_1 q1_2 q1_l q2_0 q2_1 q2_2 q2_l q3_0 q3_1 q3_2 q3_l q4_0 q4_1 q4_2 q4_l
  have G0 := hide (below_blk hb7 G0.out (lt_blk G0.out))
  have G1 := hide (below_blk hb7 G1.out (lt_blk G1.out))
  have G2 := hide (below_blk hb7 G2.out (lt_blk G2.out))
  have G3 := hide (below_blk hb7 G3.out (lt_blk G3.out))
  have G4 := hide (below_blk hb7 G4.out (lt_blk G4.out))
  have HB7 := hide (HB6.out.trans (hb7.mono HB6.out.size))
  clear hb7
  have q0_0 := cell_blk G0.out 0
  have q0_1 := cell_blk G0.out 1
  have q0_2 := cell_blk G0.out 2
  have q0_l := lt_blk G0.out
  have q1_0 := cell_blk G1.out 0
  have q1_1 := cell_blk G1.out 1
  have q1_2 := cell_blk G1.out 2
  have q1_l := lt_blk G1.out
  have q2_0 := cell_blk G2.out 0
  have q2_1 := cell_blk G2.out 1
  have q2_2 := cell_blk G2.out 2
  have q2_l := lt_blk G2.out
  have q3_0 := cell_blk G3.out 0
  have q3_1 := cell_blk G3.out 1
  have q3_2 := cell_blk G3.out 2
  have q3_l := lt_blk G3.out
  have q4_0 := cell_blk G4.out 0
  have q4_1 := cell_blk G4.out 1
  have q4_2 := cell_blk G4.out 2
  have q4_l := lt_blk G4.out
  go_wp2_with fail
  refine (C6.out _ (Nat.le_trans hB HB7.out.size) (HT.out.on HB7.out hB).pq).mono ?_
  rintro e w8 ⟨rfl, hb8⟩
  clear q0_0 q0_1 q0_2 q0_l q1_0 q1_1 q1_2 q1_l q2_0 q2_1 q2_2 q2_l q3_0 q3_1 q3_2 q3_l q4_0 q4_1 q4_2 q4_l
  have X := hide (heap1 w8 (vecO KA))
  have hb8 := hb8.trans (X.out.2.2.mono hb8.size)
  have G0 := hide (below_blk hb8 G0.out (lt_blk G0.out))
  have G1 := hide (below_blk hb8 G1.out (lt_blk G1.out))
  have G2 := hide (below_blk hb8 G2.out (lt_blk G2.out))
  have G3 := hide (below_blk hb8 G3.out (lt_blk G3.out))
  have G4 := hide (below_blk hb8 G4.out (lt_blk G4.out))
  have G5 := hide X.out.1
  have HB8 := hide (HB7.out.trans (hb8.mono HB7.out.size))
  clear hb8 X
  have q0_0 := cell_blk G0.out 0
  have q0_1 := cell_blk G0.out 1
  have q0_2 := cell_blk G0.out 2
  have q0_l := lt_blk G0.out
  have q1_0 := cell_blk G1.out 0
  have q1_1 := cell_blk G1.out 1
  have q1_2 := cell_blk G1.out 2
  have q1_l := lt_blk G1.out
  have q2_0 := cell_blk G2.out 0
  have q2_1 := cell_blk G2.out 1
  have q2_2 := cell_blk G2.out 2
  have q2_l := lt_blk G2.out
  have q3_0 := cell_blk G3.out 0
  have q3_1 := cell_blk G3.out 1
  have q3_2 := cell_blk G3.out 2
  have q3_l := lt_blk G3.out
  have q4_0 := cell_blk G4.out 0
  have q4_1 := cell_blk G4.out 1
  have q4_2 := cell_blk G4.out 2
  have q4_l := lt_blk G4.out
  have q5_0 := cell_blk G5.out 0
  have q5_1 := cell_blk G5.out 1
  have q5_2 := cell_blk G5.out 2
  have q5_l := lt_blk G5.out
  go_wp2_with fail
  refine (C7.out _ (Nat.le_trans hB HB8.out.size) (HT.out.on HB8.out hB).pq).mono ?_
  rintro e w9 ⟨rfl, hb9⟩
  clear q0_0 q0_1 q0_2 q0_l q1_0 q1_1 q1_2 q1_l q2_0 q2_1 q2_2 q2_l q3_0 q3_1 q3_2 q3_l q4_0 q4_1 q4_2 q4_l q5_0 q5_1 q5_2 q5_l
  have G0 := hide (below_blk hb9 G0.out (lt_blk G0.out))
  have G1 := hide (below_blk hb9 G1.out (lt_blk G1.out))
  have G2 := hide (below_blk hb9 G2.out (lt_blk G2.out))
  have G3 := hide (below_blk hb9 G3.out (lt_blk G3.out))
  have G4 := hide (below_blk hb9 G4.out (lt_blk G4.out))
  have G5 := hide (below_blk hb9 G5.out (lt_blk G5.out))
  have HB9 := hide (HB8.out.trans (hb9.mono HB8.out.size))
  clear hb9
  have q0_0 := cell_blk G0.out 0
  have q0_1 := cell_blk G0.out 1
  have q0_2 := cell_blk G0.out 2
  have q0_l := lt_blk G0.out
  have q1_0 := cell_blk G1.out 0
  have q1_1 := cell_blk G1.out 1
  have q1_2 := cell_blk G1.out 2
  have q1_l := lt_blk G1.out
  have q2_0 := cell_blk G2.out 0
  have q2_1 := cell_blk G2.out 1
  have q2_2 := cell_blk G2.out 2
  have q2_l := lt_blk G2.out
  have q3_0 := cell_blk G3.out 0
  have q3_1 := cell_blk G3.out 1
  have q3_2 := cell_blk G3.out 2
  have q3_l := lt_blk G3.out
  have q4_0 := cell_blk G4.out 0
  have q4_1 := cell_blk G4.out 1
  have q4_2 := cell_blk G4.out 2
  have q4_l := lt_blk G4.out
  have q5_0 := cell_blk G5.out 0
  have q5_1 := cell_blk G5.out 1
  have q5_2 := cell_blk G5.out 2
  have q5_l := lt_blk G5.out
  go_wp2_with fail
  refine (C8.out _ (Nat.le_trans hB HB9.out.size) (HT.out.on HB9.out hB).pq).mono ?_
  rintro e w10 ⟨rfl, hb10⟩
  clear q0_0 q0_1 q0_2 q0_l q1_0 q1_1 q1_2 q1_l q2_0 q2_1 q2_2 q2_l q3_0 q3_1 q3_2 q3_l q4_0 q4_1 q4_2 q4_l q5_0 q5_1 q5_2 q5_l
  have G0 := hide (below_blk hb10 G0.out (lt_blk G0.out))
  have G1 := hide (below_blk hb10 G1.out (lt_blk G1.out))
  have G2 := hide (below_blk hb10 G2.out (lt_blk G2.out))
  have G3 := hide (below_blk hb10 G3.out (lt_blk G3.out))
  have G4 := hide (below_blk hb10 G4.out (lt_blk G4.out))
  have G5 := hide (below_blk hb10 G5.out (lt_blk G5.out))
  have HB10 := hide (HB9.out.trans (hb10.mono HB9.out.size))
  clear hb10
  have q0_0 := cell_blk G0.out 0
  have q0_1 := cell_blk G0.out 1
  have q0_2 := cell_blk G0.out 2
  have q0_l := lt_blk G0.out
  have q1_0 := cell_blk G1.out 0
  have q1_1 := cell_blk G1.out 1
  have q1_2 := cell_blk G1.out 2
  have q1_l := lt_blk G1.out
  have q2_0 := cell_blk G2.out 0
  have q2_1 := cell_blk G2.out 1
  have q2_2 := cell_blk G2.out 2
  have q2_l := lt_blk G2.out
  have q3_0 := cell_blk G3.out 0
  have q3_1 := cell_blk G3.out 1
  have q3_2 := cell_blk G3.out 2
  have q3_l := lt_blk G3.out
  have q4_0 := cell_blk G4.out 0
  have q4_1 := cell_blk G4.out 1
  have q4_2 := cell_blk G4.out 2
  have q4_l := lt_blk G4.out
  have q5_0 := cell_blk G5.out 0
  have q5_1 := cell_blk G5.out 1
  have q5_2 := cell_blk G5.out 2
  have q5_l := lt_blk G5.out
  rcases HZ.out with rfl | rfl
  all_goals
    go_wp2_with fail
    refine (HAW.out _ (Nat.le_trans hB HB10.out.size) (HT.out.on HB10.out hB)).mono ?_
    rintro e w99 ⟨rfl, hb99⟩
    have HB99 := hide (HB10.out.trans (hb99.mono HB10.out.size))
    clear hb99
    go_wp2_with fail
    go_ret
    exact ⟨rfl, HB99.out⟩
end Go.Proofs.YtbfojhneajedmaaGreatDoor
