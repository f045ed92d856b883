/-
  Texts of the integers, laid together: Zr.
-/
import Derived.Test.YtbfojhneajedmaaGreatDoorZ25
namespace Go.Proofs.YtbfojhneajedmaaGreatDoor
open Go.RowKit Go.KP Go.KI Go.Shelf
attribute [local go_sem] Oper.semAt_some

set_option maxRecDepth 100000 in
set_option maxHeartbeats 16000000 in
theorem lawScalar_any (a b c : S3) (k : ByteArray) (n0 : Nat) (w : World) (hB : n0 ≤ w.heap.size) (hT : PR n0 w) :
    Calls Tryz.prog 14 #[spotV a.x a.y a.z, spotV b.x b.y b.z, spotV c.x c.y c.z, .string k] w (Ret w (.bool true)) := by
  have HT := hide hT
  have HAW := hide (fun w hB hT => v9awake_any n0 w hB hT)
  have X0 := hide (heapq4 w (spotO a.x a.y a.z) (spotO b.x b.y b.z) (spotO c.x c.y c.z) (.cells #[.string a.x, .string a.y, .string a.z, .string b.x, .string b.y, .string b.z, .string c.x, .string c.y, .string c.z] 24))
  have HB0 := hide X0.out.2.2.2.2.2
  have HF := hide (v9short_any (w.heap.size + 3) [a, b, c] _ (by simp) (spots3 X0.out.2.2.2.1) n0 (Nat.le_trans hB HB0.out.size) (hT.on HB0.out hB).pq)
  have HNU := hide (fun w hB hT => v9number_any k n0 w hB hT)
  clear hT
  by_cases h : ∀ V ∈ [a, b, c], short3 V ∧ fine3 V
  rotate_left
  · rw [decide_eq_false h] at HF
    clear h HNU
    go_enter Tryz.func14, Tryz.ntmps14
    go_wp2_with fail
    refine HF.out.mono ?_
    rintro e w1 ⟨rfl, hb1⟩
    have HB1 := hide (HB0.out.trans (hb1.mono HB0.out.size))
    clear hb1
    clear X0
    go_wp2_with fail
    refine (HAW.out _ (Nat.le_trans hB HB1.out.size) (HT.out.on HB1.out hB)).mono ?_
    rintro e w99 ⟨rfl, hb99⟩
    have HB99 := hide (HB1.out.trans (hb99.mono HB1.out.size))
    clear hb99
    go_wp2_with fail
    go_ret
    exact ⟨rfl, HB99.out⟩
  rw [decide_eq_true h] at HF
  by_cases hk : k.size ≤ 40 ∧ chkQ k.data.toList = 0
  rotate_left
  · rw [decide_eq_false hk] at HNU
    clear h hk
    go_enter Tryz.func14, Tryz.ntmps14
    go_wp2_with fail
    refine HF.out.mono ?_
    rintro e w1 ⟨rfl, hb1⟩
    have HB1 := hide (HB0.out.trans (hb1.mono HB0.out.size))
    clear hb1
    clear X0
    go_wp2_with fail
    refine (HNU.out _ (Nat.le_trans hB HB1.out.size) (HT.out.on HB1.out hB).pq).mono ?_
    rintro e w2 ⟨rfl, hb2⟩
    have HB2 := hide (HB1.out.trans (hb2.mono HB1.out.size))
    clear hb2
    go_wp2_with fail
    refine (HAW.out _ (Nat.le_trans hB HB2.out.size) (HT.out.on HB2.out hB)).mono ?_
    rintro e w99 ⟨rfl, hb99⟩
    have HB99 := hide (HB2.out.trans (hb99.mono HB2.out.size))
    clear hb99
    go_wp2_with fail
    go_ret
    exact ⟨rfl, HB99.out⟩
  rw [decide_eq_true hk] at HNU
  obtain ⟨K, sK, rfl⟩ := num_rat hk
  clear hk
  obtain ⟨A, sA, rfl⟩ := short_vec (h a (by simp))
  obtain ⟨B, sB, rfl⟩ := short_vec (h b (by simp))
  obtain ⟨C, sC, rfl⟩ := short_vec (h c (by simp))
  clear h
  dsimp only at HF X0 HB0 ⊢
  have fA := szV_fits sA (by rw [most_eq]; omega)
  have fB := szV_fits sB (by rw [most_eq]; omega)
  have fC := szV_fits sC (by rw [most_eq]; omega)
  have fK := sz_fits sK (by rw [most_eq]; omega)
  have sKA := szV_mul sA (szV_all sK)
  have fKA := szV_fits sKA (by rw [most_eq]; omega)
  have sBC := szV_add sB sC
  have fBC := szV_fits sBC (by rw [most_eq]; omega)
  have sAB := (dot_sz sA sB (by rw [most_eq]; omega)).2
  have sAC := (dot_sz sA sC (by rw [most_eq]; omega)).2
  have sAA := (dot_sz sA sA (by rw [most_eq]; omega)).2
  have fAB := sz_fits sAB (by rw [most_eq]; omega)
  have fAC := sz_fits sAC (by rw [most_eq]; omega)
  have fAA := sz_fits sAA (by rw [most_eq]; omega)
  have C1 := hide (fun w hB hT => (vDot_O fA fB n0 w hB hT).mono fun _ _ hr => ResO.of (dot_sz sA sB (by rw [most_eq]; omega)).1 hr)
  have C2 := hide (fun w hB hT => (vDot_O fB fA n0 w hB hT).mono fun _ _ hr => ResO.of (dot_sz sB sA (by rw [most_eq]; omega)).1 hr)
  have C3 := hide (fun w hB hT => (vScale_O fA fK n0 w hB hT).mono fun _ _ hr => ResV.of (mul2_sz sA (szV_all sK) (by rw [most_eq]; omega)) hr)
  have C4 := hide (fun w hB hT => (vDot_O fKA fB n0 w hB hT).mono fun _ _ hr => ResO.of (dot_sz sKA sB (by rw [most_eq]; omega)).1 hr)
  have C5 := hide (fun w hB hT => (qmul_O fAB fK n0 w hB hT).mono fun _ _ hr => ResO.of (mulO_sz sAB sK (by rw [most_eq]; omega)) hr)
  have C6 := hide (fun w hB hT => (vDot_O fA fA n0 w hB hT).mono fun _ _ hr => ResO.of (dot_sz sA sA (by rw [most_eq]; omega)).1 hr)
  have f0 : fitsQ (0 : Rat) := sz_fits (p := 1) ⟨by decide, by decide⟩ (by rw [most_eq]; omega)
  have C7 := hide (fun w hB hT => qcmp_T fAA f0 (cmpC_of (p := 122) (q := 1) sAA ⟨by decide, by decide⟩ (by rw [most_eq]; omega)) n0 w hB hT)
  have C9 := hide (fun w hB hT => (vDot_O fA fBC n0 w hB hT).mono fun _ _ hr => ResO.of (dot_sz sA sBC (by rw [most_eq]; omega)).1 hr)
  have C10 := hide (fun w hB hT => (vDot_O fA fC n0 w hB hT).mono fun _ _ hr => ResO.of (dot_sz sA sC (by rw [most_eq]; omega)).1 hr)
  have C8 := hide (fun w hB hT => (vAdd_O fB fC n0 w hB hT).mono fun _ _ hr => ResV.of (add2_sz sB sC (by rw [most_eq]; omega)) hr)
  have C11 := hide (fun w hB hT => (qadd_O fAB fAC n0 w hB hT).mono fun _ _ hr => ResO.of (addO_sz sAB sAC (by rw [most_eq]; omega)) hr)
  rw [vdot_comm] at C2
  rw [vdot_mul] at C4
  rw [← vdot_add] at C11
  rw [T0] at C7
  have hz := vdot_self A
  obtain ⟨s, hs⟩ : ∃ x, x = cmpR (vdot A A) 0 := ⟨_, rfl⟩
  rw [← hs] at C7
  obtain ⟨z, hzz⟩ : ∃ r, r = decide (A = vzero) := ⟨_, rfl⟩
  have he := fun w => eqZero A w
  simp only [← hzz] at he
  have HW : Hid ((s = 0 ∧ z = true) ∨ (s = 1 ∧ z = false)) := hide (by
    rcases cmpR_cases (vdot A A) 0 with ⟨e, h⟩ | ⟨e, h⟩ | ⟨e, h⟩
    · exact absurd h (by have := hz.1; grind)
    · exact .inl ⟨hs.trans e, by rw [hzz, decide_eq_true_iff]; exact hz.2.1 h⟩
    · exact .inr ⟨hs.trans e, by rw [hzz, decide_eq_false_iff_not]; intro h2; have := hz.2.2 h2; grind⟩)
  clear hz hs hzz
  obtain ⟨AB, hAB⟩ : ∃ X, X = vdot A B := ⟨_, rfl⟩
  rw [← hAB] at C1 C2 C4 C5 C11
  obtain ⟨KA, hKA⟩ : ∃ X, X = vmul A (vall K) := ⟨_, rfl⟩
  rw [← hKA] at C3 C4
  obtain ⟨BC, hBC⟩ : ∃ X, X = vadd B C := ⟨_, rfl⟩
  rw [← hBC] at C8 C9 C11
  obtain ⟨AA, hAA⟩ : ∃ X, X = vdot A A := ⟨_, rfl⟩
  rw [← hAA] at C6 C7
  obtain ⟨AC, hAC⟩ : ∃ X, X = vdot A C := ⟨_, rfl⟩
  rw [← hAC] at C10 C11
  obtain ⟨W1, hW1⟩ : ∃ X, X = AB * K := ⟨_, rfl⟩
  rw [← hW1] at C4 C5
  obtain ⟨W2, hW2⟩ : ∃ X, X = vdot A BC := ⟨_, rfl⟩
  rw [← hW2] at C9 C11
  have hm7 := mxo7
  have hm4 := mxo4
  clear hAB hKA hBC hAA hAC hW1 hW2 sA sB sC sK sKA sBC sAB sAC sAA fA fB fC fK fKA fBC fAB fAC fAA f0
  go_enter Tryz.func14, Tryz.ntmps14
  go_wp2_with fail
  refine HF.out.mono ?_
  rintro e w1 ⟨rfl, hb1⟩
  have G0 := hide (below_blk hb1 X0.out.1 (lt_blk X0.out.1))
  have G1 := hide (below_blk hb1 X0.out.2.1 (lt_blk X0.out.2.1))
  have G2 := hide (below_blk hb1 X0.out.2.2.1 (lt_blk X0.out.2.2.1))
  have HB1 := hide (HB0.out.trans (hb1.mono HB0.out.size))
  clear hb1 X0
  have q0_0 := cell_blk G0.out 0
  have q0_1 := cell_blk G0.out 1
  have q0_2 := cell_blk G0.out 2
  have q0_l := lt_blk G0.out
  have q1_0 := cell_blk G1.out 0
  have q1_1 := cell_blk G1.out 1
  have q1_2 := cell_blk G1.out 2
  have q1_l := lt_blk G1.out
  have q2_0 := cell_blk G2.out 0
  have q2_1 := cell_blk G2.out 1
  have q2_2 := cell_blk G2.out 2
  have q2_l := lt_blk G2.out
  go_wp2_with fail
  refine (HNU.out _ (Nat.le_trans hB HB1.out.size) (HT.out.on HB1.out hB).pq).mono ?_
  rintro e w2 ⟨rfl, hb2⟩
  clear q0_0 q0_1 q0_2 q0_l q1_0 q1_1 q1_2 q1_l q2_0 q2_1 q2_2 q2_l
  have G0 := hide (below_blk hb2 G0.out (lt_blk G0.out))
  have G1 := hide (below_blk hb2 G1.out (lt_blk G1.out))
  have G2 := hide (below_blk hb2 G2.out (lt_blk G2.out))
  have HB2 := hide (HB1.out.trans (hb2.mono HB1.out.size))
  clear hb2
  have q0_0 := cell_blk G0.out 0
  have q0_1 := cell_blk G0.out 1
  have q0_2 := cell_blk G0.out 2
  have q0_l := lt_blk G0.out
  have q1_0 := cell_blk G1.out 0
  have q1_1 := cell_blk G1.out 1
  have q1_2 := cell_blk G1.out 2
  have q1_l := lt_blk G1.out
  have q2_0 := cell_blk G2.out 0
  have q2_1 := cell_blk G2.out 1
  have q2_2 := cell_blk G2.out 2
  have q2_l := lt_blk G2.out
  go_wp2_with fail
  refine (C1.out _ (Nat.le_trans hB HB2.out.size) (HT.out.on HB2.out hB).pq).mono ?_
  rintro e w3 ⟨rfl, hb3⟩
  clear q0_0 q0_1 q0_2 q0_l q1_0 q1_1 q1_2 q1_l q2_0 q2_1 q2_2 q2_l
  have G0 := hide (below_blk hb3 G0.out (lt_blk G0.out))
  have G1 := hide (below_blk hb3 G1.out (lt_blk G1.out))
  have G2 := hide (below_blk hb3 G2.out (lt_blk G2.out))
  have HB3 := hide (HB2.out.trans (hb3.mono HB2.out.size))
  clear hb3
  have q0_0 := cell_blk G0.out 0
  have q0_1 := cell_blk G0.out 1
  have q0_2 := cell_blk G0.out 2
  have q0_l := lt_blk G0.out
  have q1_0 := cell_blk G1.out 0
  have q1_1 := cell_blk G1.out 1
  have q1_2 := cell_blk G1.out 2
  have q1_l := lt_blk G1.out
  have q2_0 := cell_blk G2.out 0
  have q2_1 := cell_blk G2.out 1
  have q2_2 := cell_blk G2.out 2
  have q2_l := lt_blk G2.out
  go_wp2_with fail
  refine (C2.out _ (Nat.le_trans hB HB3.out.size) (HT.out.on HB3.out hB).pq).mono ?_
  rintro e w4 ⟨rfl, hb4⟩
  clear q0_0 q0_1 q0_2 q0_l q1_0 q1_1 q1_2 q1_l q2_0 q2_1 q2_2 q2_l
  have G0 := hide (below_blk hb4 G0.out (lt_blk G0.out))
  have G1 := hide (below_blk hb4 G1.out (lt_blk G1.out))
  have G2 := hide (below_blk hb4 G2.out (lt_blk G2.out))
  have HB4 := hide (HB3.out.trans (hb4.mono HB3.out.size))
  clear hb4
  have q0_0 := cell_blk G0.out 0
  have q0_1 := cell_blk G0.out 1
  have q0_2 := cell_blk G0.out 2
  have q0_l := lt_blk G0.out
  have q1_0 := cell_blk G1.out 0
  have q1_1 := cell_blk G1.out 1
  have q1_2 := cell_blk G1.out 2
  have q1_l := lt_blk G1.out
  have q2_0 := cell_blk G2.out 0
  have q2_1 := cell_blk G2.out 1
  have q2_2 := cell_blk G2.out 2
  have q2_l := lt_blk G2.out
  go_wp2_with fail
  refine (C3.out _ (Nat.le_trans hB HB4.out.size) (HT.out.on HB4.out hB).pq).mono ?_
  rintro e w5 ⟨rfl, hb5⟩
  clear q0_0 q0_1 q0_2 q0_l q1_0 q1_1 q1_2 q1_l q2_0 q2_1 q2_2 q2_l
  have X := hide (heap1 w5 (vecO KA))
  have hb5 := hb5.trans (X.out.2.2.mono hb5.size)
  have G0 := hide (below_blk hb5 G0.out (lt_blk G0.out))
  have G1 := hide (below_blk hb5 G1.out (lt_blk G1.out))
  have G2 := hide (below_blk hb5 G2.out (lt_blk G2.out))
  have G3 := hide X.out.1
  have HB5 := hide (HB4.out.trans (hb5.mono HB4.out.size))
  clear hb5 X
  have q0_0 := cell_blk G0.out 0
  have q0_1 := cell_blk G0.out 1
  have q0_2 := cell_blk G0.out 2
  have q0_l := lt_blk G0.out
  have q1_0 := cell_blk G1.out 0
  have q1_1 := cell_blk G1.out 1
  have q1_2 := cell_blk G1.out 2
  have q1_l := lt_blk G1.out
  have q2_0 := cell_blk G2.out 0
  have q2_1 := cell_blk G2.out 1
  have q2_2 := cell_blk G2.out 2
  have q2_l := lt_blk G2.out
  have q3_0 := cell_blk G3.out 0
  have q3_1 := cell_blk G3.out 1
  have q3_2 := cell_blk G3.out 2
  have q3_l := lt_blk G3.out
  go_wp2_with fail
  refine (C4.out _ (Nat.le_trans hB HB5.out.size) (HT.out.on HB5.out hB).pq).mono ?_
  rintro e w6 ⟨rfl, hb6⟩
  clear q0_0 q0_1 q0_2 q0_l q1_0 q1_1 q1_2 q1_l q2_0 q2_1 q2_2 q2_l q3_0 q3_1 q3_2 q3_l
  have G0 := hide (below_blk hb6 G0.out (lt_blk G0.out))
  have G1 := hide (below_blk hb6 G1.out (lt_blk G1.out))
  have G2 := hide (below_blk hb6 G2.out (lt_blk G2.out))
  have G3 := hide (below_blk hb6 G3.out (lt_blk G3.out))
  have HB6 := hide (HB5.out.trans (hb6.mono HB5.out.size))
  clear hb6
  have q0_0 := cell_blk G0.out 0
  have q0_1 := cell_blk G0.out 1
  have q0_2 := cell_blk G0.out 2
  have q0_l := lt_blk G0.out
  have q1_0 := cell_blk G1.out 0
  have q1_1 := cell_blk G1.out 1
  have q1_2 := cell_blk G1.out 2
  have q1_l := lt_blk G1.out
  have q2_0 := cell_blk G2.out 0
  have q2_1 := cell_blk G2.out 1
  have q2_2 := cell_blk G2.out 2
  have q2_l := lt_blk G2.out
  have q3_0 := cell_blk G3.out 0
  have q3_1 := cell_blk G3.out 1
  have q3_2 := cell_blk G3.out 2
  have q3_l := lt_blk G3.out
  go_wp2_with fail
  refine (C5.out _ (Nat.le_trans hB HB6.out.size) (HT.out.on HB6.out hB).pq).mono ?_
  rintro e w7 ⟨rfl, hb7⟩
  clear q0_0 q0_1 q0_2 q0_l q1_0 q1_1 q1_2 q1_l q2_0 q2_1 q2_2 q2_l q3_0 q3_1 q3_2 q3_l
  have G0 := hide (below_blk hb7 G0.out (lt_blk G0.out))
  have G1 := hide (below_blk hb7 G1.out (lt_blk G1.out))
  have G2 := hide (below_blk hb7 G2.out (lt_blk G2.out))
  have G3 := hide (below_blk hb7 G3.out (lt_blk G3.out))
  have HB7 := hide (HB6.out.trans (hb7.mono HB6.out.size))
  clear hb7
  have q0_0 := cell_blk G0.out 0
  have q0_1 := cell_blk G0.out 1
  have q0_2 := cell_blk G0.out 2
  have q0_l := lt_blk G0.out
  have q1_0 := cell_blk G1.out 0
  have q1_1 := cell_blk G1.out 1
  have q1_2 := cell_blk G1.out 2
  have q1_l := lt_blk G1.out
  have q2_0 := cell_blk G2.out 0
  have q2_1 := cell_blk G2.out 1
  have q2_2 := cell_blk G2.out 2
  have q2_l := lt_blk G2.out
  have q3_0 := cell_blk G3.out 0
  have q3_1 := cell_blk G3.out 1
  have q3_2 := cell_blk G3.out 2
  have q3_l := lt_blk G3.out
  go_wp2_with fail
  refine (C6.out _ (Nat.le_trans hB HB7.out.size) (HT.out.on HB7.out hB).pq).mono ?_
  rintro e w8 ⟨rfl, hb8⟩
  clear q0_0 q0_1 q0_2 q0_l q1_0 q1_1 q1_2 q1_l q2_0 q2_1 q2_2 q2_l q3_0 q3_1 q3_2 q3_l
  have G0 := hide (below_blk hb8 G0.out (lt_blk G0.out))
  have G1 := hide (below_blk hb8 G1.out (lt_blk G1.out))
  have G2 := hide (below_blk hb8 G2.out (lt_blk G2.out))
  have G3 := hide (below_blk hb8 G3.out (lt_blk G3.out))
  have HB8 := hide (HB7.out.trans (hb8.mono HB7.out.size))
  clear hb8
  have q0_0 := cell_blk G0.out 0
  have q0_1 := cell_blk G0.out 1
  have q0_2 := cell_blk G0.out 2
  have q0_l := lt_blk G0.out
  have q1_0 := cell_blk G1.out 0
  have q1_1 := cell_blk G1.out 1
  have q1_2 := cell_blk G1.out 2
  have q1_l := lt_blk G1.out
  have q2_0 := cell_blk G2.out 0
  have q2_1 := cell_blk G2.out 1
  have q2_2 := cell_blk G2.out 2
  have q2_l := lt_blk G2.out
  have q3_0 := cell_blk G3.out 0
  have q3_1 := cell_blk G3.out 1
  have q3_2 := cell_blk G3.out 2
  have q3_l := lt_blk G3.out
  go_wp2_with fail
  refine (C7.out _ (Nat.le_trans hB HB8.out.size) (HT.out.on HB8.out hB).pq).mono ?_
  rintro e w9 ⟨rfl, hb9⟩
  clear q0_0 q0_1 q0_2 q0_l q1_0 q1_1 q1_2 q1_l q2_0 q2_1 q2_2 q2_l q3_0 q3_1 q3_2 q3_l
  have G0 := hide (below_blk hb9 G0.out (lt_blk G0.out))
  have G1 := hide (below_blk hb9 G1.out (lt_blk G1.out))
  have G2 := hide (below_blk hb9 G2.out (lt_blk G2.out))
  have G3 := hide (below_blk hb9 G3.out (lt_blk G3.out))
  have HB9 := hide (HB8.out.trans (hb9.mono HB8.out.size))
  clear hb9
  have q0_0 := cell_blk G0.out 0
  have q0_1 := cell_blk G0.out 1
  have q0_2 := cell_blk G0.out 2
  have q0_l := lt_blk G0.out
  have q1_0 := cell_blk G1.out 0
  have q1_1 := cell_blk G1.out 1
  have q1_2 := cell_blk G1.out 2
  have q1_l := lt_blk G1.out
  have q2_0 := cell_blk G2.out 0
  have q2_1 := cell_blk G2.out 1
  have q2_2 := cell_blk G2.out 2
  have q2_l := lt_blk G2.out
  have q3_0 := cell_blk G3.out 0
  have q3_1 := cell_blk G3.out 1
  have q3_2 := cell_blk G3.out 2
  have q3_l := lt_blk G3.out
  rcases HW.out with ⟨rfl, rfl⟩ | ⟨rfl, rfl⟩
  all_goals
    go_wp2_with fail
    refine (C8.out _ (Nat.le_trans hB HB9.out.size) (HT.out.on HB9.out hB).pq).mono ?_
    rintro e w10 ⟨rfl, hb10⟩
    clear q0_0 q0_1 q0_2 q0_l q1_0 q1_1 q1_2 q1_l q2_0 q2_1 q2_2 q2_l q3_0 q3_1 q3_2 q3_l
    have X := hide (heap1 w10 (vecO BC))
    have hb10 := hb10.trans (X.out.2.2.mono hb10.size)
    have G0 := hide (below_blk hb10 G0.out (lt_blk G0.out))
    have G1 := hide (below_blk hb10 G1.out (lt_blk G1.out))
    have G2 := hide (below_blk hb10 G2.out (lt_blk G2.out))
    have G3 := hide (below_blk hb10 G3.out (lt_blk G3.out))
    have G4 := hide X.out.1
    have HB10 := hide (HB9.out.trans (hb10.mono HB9.out.size))
    clear hb10 X
    have q0_0 := cell_blk G0.out 0
    have q0_1 := cell_blk G0.out 1
    have q0_2 := cell_blk G0.out 2
    have q0_l := lt_blk G0.out
    have q1_0 := cell_blk G1.out 0
    have q1_1 := cell_blk G1.out 1
    have q1_2 := cell_blk G1.out 2
    have q1_l := lt_blk G1.out
    have q2_0 := cell_blk G2.out 0
    have q2_1 := cell_blk G2.out 1
    have q2_2 := cell_blk G2.out 2
    have q2_l := lt_blk G2.out
    have q3_0 := cell_blk G3.out 0
    have q3_1 := cell_blk G3.out 1
    have q3_2 := cell_blk G3.out 2
    have q3_l := lt_blk G3.out
    have q4_0 := cell_blk G4.out 0
    have q4_1 := cell_blk G4.out 1
    have q4_2 := cell_blk G4.out 2
    have q4_l := lt_blk G4.out
    go_wp2_with fail
    refine (C9.out _ (Nat.le_trans hB HB10.out.size) (HT.out.on HB10.out hB).pq).mono ?_
    rintro e w11 ⟨rfl, hb11⟩
    clear q0_0 q0_1 q0_2 q0_l q1_0 q1_1 q1_2 q1_l q2_0 q2_1 q2_2 q2_l q3_0 q3_1 q3_2 q3_l q4_0 q4_1 q4_2 q4_l
    have G0 := hide (below_blk hb11 G0.out (lt_blk G0.out))
    have G1 := hide (below_blk hb11 G1.out (lt_blk G1.out))
    have G2 := hide (below_blk hb11 G2.out (lt_blk G2.out))
    have G3 := hide (below_blk hb11 G3.out (lt_blk G3.out))
    have G4 := hide (below_blk hb11 G4.out (lt_blk G4.out))
    have HB11 := hide (HB10.out.trans (hb11.mono HB10.out.size))
    clear hb11
    have q0_0 := cell_blk G0.out 0
    have q0_1 := cell_blk G0.out 1
    have q0_2 := cell_blk G0.out 2
    have q0_l := lt_blk G0.out
    have q1_0 := cell_blk G1.out 0
    have q1_1 := cell_blk G1.out 1
    have q1_2 := cell_blk G1.out 2
    have q1_l := lt_blk G1.out
    have q2_0 := cell_blk G2.out 0
    have q2_1 := cell_blk G2.out 1
    have q2_2 := cell_blk G2.out 2
    have q2_l := lt_blk G2.out
    have q3_0 := cell_blk G3.out 0
    have q3_1 := cell_blk G3.out 1
    have q3_2 := cell_blk G3.out 2
    have q3_l := lt_blk G3.out
    have q4_0 := cell_blk G4.out 0
    have q4_1 := cell_blk G4.out 1
    have q4_2 := cell_blk G4.out 2
    have q4_l := lt_blk G4.out
    go_wp2_with fail
    refine (C10.out _ (Nat.le_trans hB HB11.out.size) (HT.out.on HB11.out hB).pq).mono ?_
    rintro e w12 ⟨rfl, hb12⟩
    clear q0_0 q0_1 q0_2 q0_l q1_0 q1_1 q1_2 q1_l q2_0 q2_1 q2_2 q2_l q3_0 q3_1 q3_2 q3_l q4_0 q4_1 q4_2 q4_l
    have G0 := hide (below_blk hb12 G0.out (lt_blk G0.out))
    have G1 := hide (below_blk hb12 G1.out (lt_blk G1.out))
    have G2 := hide (below_blk hb12 G2.out (lt_blk G2.out))
    have G3 := hide (below_blk hb12 G3.out (lt_blk G3.out))
    have G4 := hide (below_blk hb12 G4.out (lt_blk G4.out))
    have HB12 := hide (HB11.out.trans (hb12.mono HB11.out.size))
    clear hb12
    have q0_0 := cell_blk G0.out 0
    have q0_1 := cell_blk G0.out 1
    have q0_2 := cell_blk G0.out 2
    have q0_l := lt_blk G0.out
    have q1_0 := cell_blk G1.out 0
    have q1_1 := cell_blk G1.out 1
    have q1_2 := cell_blk G1.out 2
    have q1_l := lt_blk G1.out
    have q2_0 := cell_blk G2.out 0
    have q2_1 := cell_blk G2.out 1
    have q2_2 := cell_blk G2.out 2
    have q2_l := lt_blk G2.out
    have q3_0 := cell_blk G3.out 0
    have q3_1 := cell_blk G3.out 1
    have q3_2 := cell_blk G3.out 2
    have q3_l := lt_blk G3.out
    have q4_0 := cell_blk G4.out 0
    have q4_1 := cell_blk G4.out 1
    have q4_2 := cell_blk G4.out 2
    have q4_l := lt_blk G4.out
    go_wp2_with fail
    refine (C11.out _ (Nat.le_trans hB HB12.out.size) (HT.out.on HB12.out hB).pq).mono ?_
    rintro e w13 ⟨rfl, hb13⟩
    clear q0_0 q0_1 q0_2 q0_l q1_0 q1_1 q1_2 q1_l q2_0 q2_1 q2_2 q2_l q3_0 q3_1 q3_2 q3_l q4_0 q4_1 q4_2 q4_l
    have G0 := hide (below_blk hb13 G0.out (lt_blk G0.out))
    have G1 := hide (below_blk hb13 G1.out (lt_blk G1.out))
    have G2 := hide (below_blk hb13 G2.out (lt_blk G2.out))
    have G3 := hide (below_blk hb13 G3.out (lt_blk G3.out))
    have G4 := hide (below_blk hb13 G4.out (lt_blk G4.out))
    have HB13 := hide (HB12.out.trans (hb13.mono HB12.out.size))
    clear hb13
    have q0_0 := cell_blk G0.out 0
    have q0_1 := cell_blk G0.out 1
    have q0_2 := cell_blk G0.out 2
    have q0_l := lt_blk G0.out
    have q1_0 := cell_blk G1.out 0
    have q1_1 := cell_blk G1.out 1
    have q1_2 := cell_blk G1.out 2
    have q1_l := lt_blk G1.out
    have q2_0 := cell_blk G2.out 0
    have q2_1 := cell_blk G2.out 1
    have q2_2 := cell_blk G2.out 2
    have q2_l := lt_blk G2.out
    have q3_0 := cell_blk G3.out 0
    have q3_1 := cell_blk G3.out 1
    have q3_2 := cell_blk G3.out 2
    have q3_l := lt_blk G3.out
    have q4_0 := cell_blk G4.out 0
    have q4_1 := cell_blk G4.out 1
    have q4_2 := cell_blk G4.out 2
    have q4_l := lt_blk G4.out
    go_wp2_with fail
    refine (HAW.out _ (Nat.le_trans hB HB13.out.size) (HT.out.on HB13.out hB)).mono ?_
    rintro e w99 ⟨rfl, hb99⟩
    have HB99 := hide (HB13.out.trans (hb99.mono HB13.out.size))
    clear hb99
    go_wp2_with fail
    go_ret
    exact ⟨rfl, HB99.out⟩
end Go.Proofs.YtbfojhneajedmaaGreatDoor
