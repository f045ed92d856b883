/-
  Texts of the integers, laid together: Zt.
-/
import Derived.Test.YtbfojhneajedmaaGreatDoorZ31
namespace Go.Proofs.YtbfojhneajedmaaGreatDoor
open Go.RowKit Go.KP Go.KI Go.Shelf
attribute [local go_sem] Oper.semAt_some

/-- A result that may be missing, as one pair. -/
def optT : Option Rat → ByteArray
  | some x => T x
  | none => ⟨#[]⟩
def optE : Option Rat → Int
  | some _ => 0
  | none => 4
theorem ResO.opt {w : World} {o : Option Rat} {e : Ending} {w' : World} (hr : ResO w o e w') : Ret w (.tuple #[.string (optT o), .int .i64 (optE o)]) e w' := by
  rcases hr with ⟨v, rfl, h2⟩ | ⟨rfl, h2⟩
  · exact h2
  · exact h2
theorem mx604 (x y : Int) (hx : x = 0 ∨ x = 4) (hy : y = 0 ∨ y = 4) (w : World) : (Builtin.max_ #[31, 31, 31, 31, 31, 31] 31 #[.int .i64 0, .int .i64 x, .int .i64 0, .int .i64 y, .int .i64 0, .int .i64 0]).run Tryz.prog w = .ok (.int .i64 (max x y)) w :=
  (run_maxL w _ _ 0 [x, 0, y, 0, 0]).trans (by rcases hx with rfl | rfl <;> rcases hy with rfl | rfl <;> rfl)
set_option maxRecDepth 100000 in
set_option maxHeartbeats 16000000 in
theorem lawLagrange_any (a b : S3) (n0 : Nat) (w : World) (hB : n0 ≤ w.heap.size) (hT : PR n0 w) :
    Calls Tryz.prog 11 #[spotV a.x a.y a.z, spotV b.x b.y b.z] w (Ret w (.bool true)) := by
  have HT := hide hT
  have HAW := hide (fun w hB hT => v9awake_any n0 w hB hT)
  have X0 := hide (heap3 w (spotO a.x a.y a.z) (spotO b.x b.y b.z) (.cells #[.string a.x, .string a.y, .string a.z, .string b.x, .string b.y, .string b.z] 24))
  have HB0 := hide X0.out.2.2.2.2
  have HF := hide (v9fine_any (w.heap.size + 2) [a, b] _ (by simp) (spots2 X0.out.2.2.1) n0 (Nat.le_trans hB HB0.out.size) (hT.on HB0.out hB).pq)
  clear hT
  by_cases h : ∀ V ∈ [a, b], fine3 V
  rotate_left
  · rw [decide_eq_false h] at HF
    clear h
    go_enter Tryz.func11, Tryz.ntmps11
    go_wp2_with fail
    refine HF.out.mono ?_
    rintro e w1 ⟨rfl, hb1⟩
    have HB1 := hide (HB0.out.trans (hb1.mono HB0.out.size))
    clear hb1
    clear X0
    go_wp2_with fail
    refine (HAW.out _ (Nat.le_trans hB HB1.out.size) (HT.out.on HB1.out hB)).mono ?_
    rintro e w99 ⟨rfl, hb99⟩
    have HB99 := hide (HB1.out.trans (hb99.mono HB1.out.size))
    clear hb99
    go_wp2_with fail
    go_ret
    exact ⟨rfl, HB99.out⟩
  rw [decide_eq_true h] at HF
  obtain ⟨A, sA, rfl⟩ := fine_vec (h a (by simp))
  obtain ⟨B, sB, rfl⟩ := fine_vec (h b (by simp))
  clear h
  dsimp only at HF X0 HB0 ⊢
  have fA := szV_fits sA (by rw [most_eq]; omega)
  have fB := szV_fits sB (by rw [most_eq]; omega)
  have sX := (cross_sz sA sB (by rw [most_eq]; omega)).2
  have fX := szV_fits sX (by rw [most_eq]; omega)
  have C1 := hide (fun w hB hT => (vCross_O fA fB n0 w hB hT).mono fun _ _ hr => ResV.of (cross_sz sA sB (by rw [most_eq]; omega)).1 hr)
  have C2 := hide (fun w hB hT => (vDot_O fX fX n0 w hB hT).mono fun _ _ hr => hr.opt)
  have sAB := (dot_sz sA sB (by rw [most_eq]; omega)).2
  have fAB := sz_fits sAB (by rw [most_eq]; omega)
  have sAA := (dot_sz sA sA (by rw [most_eq]; omega)).2
  have fAA := sz_fits sAA (by rw [most_eq]; omega)
  have sBB := (dot_sz sB sB (by rw [most_eq]; omega)).2
  have fBB := sz_fits sBB (by rw [most_eq]; omega)
  have C3 := hide (fun w hB hT => (vDot_O fA fB n0 w hB hT).mono fun _ _ hr => ResO.of (dot_sz sA sB (by rw [most_eq]; omega)).1 hr)
  have C4 := hide (fun w hB hT => (qmul_O fAB fAB n0 w hB hT).mono fun _ _ hr => hr.opt)
  have C5 := hide (fun w hB hT => (vDot_O fA fA n0 w hB hT).mono fun _ _ hr => ResO.of (dot_sz sA sA (by rw [most_eq]; omega)).1 hr)
  have C6 := hide (fun w hB hT => (vDot_O fB fB n0 w hB hT).mono fun _ _ hr => ResO.of (dot_sz sB sB (by rw [most_eq]; omega)).1 hr)
  have C8 := hide (fun w hB hT => (qmul_O fAA fBB n0 w hB hT).mono fun _ _ hr => hr.opt)
  have hlag := lagrange A B
  obtain ⟨o2, ho2⟩ : ∃ o, o = dotO (vcross A B) (vcross A B) := ⟨_, rfl⟩
  rw [← ho2] at C2
  obtain ⟨o4, ho4⟩ : ∃ o, o = mulO (vdot A B) (vdot A B) := ⟨_, rfl⟩
  rw [← ho4] at C4
  obtain ⟨o8, ho8⟩ : ∃ o, o = mulO (vdot A A) (vdot B B) := ⟨_, rfl⟩
  rw [← ho8] at C8
  have H2 := fun x (h : o2 = some x) => dot_some (ho2.symm.trans h)
  have H4 := fun x (h : o4 = some x) => mulO_some (ho4.symm.trans h)
  have H8 := fun x (h : o8 = some x) => (mulO_some (ho8.symm.trans h)).1
  obtain ⟨X, hX⟩ : ∃ X, X = vcross A B := ⟨_, rfl⟩
  simp only [← hX] at C1 H2 hlag
  obtain ⟨AB, hAB⟩ : ∃ X, X = vdot A B := ⟨_, rfl⟩
  simp only [← hAB] at C3 H4 hlag
  obtain ⟨AA, hAA⟩ : ∃ X, X = vdot A A := ⟨_, rfl⟩
  simp only [← hAA] at C5 H8 hlag
  obtain ⟨BB, hBB⟩ : ∃ X, X = vdot B B := ⟨_, rfl⟩
  simp only [← hBB] at C6 H8 hlag
  simp only [← hX] at C2
  simp only [← hAB] at C4
  simp only [← hAA, ← hBB] at C8
  clear ho2 ho4 ho8 hX hAB hAA hBB sA sB sX sAB sAA sBB fA fB fX fAB fAA fBB
  rcases Option.eq_none_or_eq_some o2 with e2 | ⟨x2, e2⟩ <;> rcases Option.eq_none_or_eq_some o4 with e4 | ⟨x4, e4⟩
  · skip
    clear H2 H4 H8 hlag C8
    subst e2
    subst e4
    dsimp only [optT, optE] at C2 C4
    have hm := mx604 4 4 (.inr rfl) (.inr rfl)
    simp only [show max (4 : Int) 4 = 4 from rfl] at hm
    go_enter Tryz.func11, Tryz.ntmps11
    go_wp2_with fail
    refine HF.out.mono ?_
    rintro e w1 ⟨rfl, hb1⟩
    have G0 := hide (below_blk hb1 X0.out.1 (lt_blk X0.out.1))
    have G1 := hide (below_blk hb1 X0.out.2.1 (lt_blk X0.out.2.1))
    have HB1 := hide (HB0.out.trans (hb1.mono HB0.out.size))
    clear hb1 X0
    have q0_0 := cell_blk G0.out 0
    have q0_1 := cell_blk G0.out 1
    have q0_2 := cell_blk G0.out 2
    have q0_l := lt_blk G0.out
    have q1_0 := cell_blk G1.out 0
    have q1_1 := cell_blk G1.out 1
    have q1_2 := cell_blk G1.out 2
    have q1_l := lt_blk G1.out
    go_wp2_with fail
    refine (C1.out _ (Nat.le_trans hB HB1.out.size) (HT.out.on HB1.out hB).pq).mono ?_
    rintro e w2 ⟨rfl, hb2⟩
    clear q0_0 q0_1 q0_2 q0_l q1_0 q1_1 q1_2 q1_l
    have X := hide (heap1 w2 (vecO X))
    have hb2 := hb2.trans (X.out.2.2.mono hb2.size)
    have G0 := hide (below_blk hb2 G0.out (lt_blk G0.out))
    have G1 := hide (below_blk hb2 G1.out (lt_blk G1.out))
    have G2 := hide X.out.1
    have HB2 := hide (HB1.out.trans (hb2.mono HB1.out.size))
    clear hb2 X
    have q0_0 := cell_blk G0.out 0
    have q0_1 := cell_blk G0.out 1
    have q0_2 := cell_blk G0.out 2
    have q0_l := lt_blk G0.out
    have q1_0 := cell_blk G1.out 0
    have q1_1 := cell_blk G1.out 1
    have q1_2 := cell_blk G1.out 2
    have q1_l := lt_blk G1.out
    have q2_0 := cell_blk G2.out 0
    have q2_1 := cell_blk G2.out 1
    have q2_2 := cell_blk G2.out 2
    have q2_l := lt_blk G2.out
    go_wp2_with fail
    refine (C2.out _ (Nat.le_trans hB HB2.out.size) (HT.out.on HB2.out hB).pq).mono ?_
    rintro e w3 ⟨rfl, hb3⟩
    clear q0_0 q0_1 q0_2 q0_l q1_0 q1_1 q1_2 q1_l q2_0 q2_1 q2_2 q2_l
    have G0 := hide (below_blk hb3 G0.out (lt_blk G0.out))
    have G1 := hide (below_blk hb3 G1.out (lt_blk G1.out))
    have G2 := hide (below_blk hb3 G2.out (lt_blk G2.out))
    have HB3 := hide (HB2.out.trans (hb3.mono HB2.out.size))
    clear hb3
    have q0_0 := cell_blk G0.out 0
    have q0_1 := cell_blk G0.out 1
    have q0_2 := cell_blk G0.out 2
    have q0_l := lt_blk G0.out
    have q1_0 := cell_blk G1.out 0
    have q1_1 := cell_blk G1.out 1
    have q1_2 := cell_blk G1.out 2
    have q1_l := lt_blk G1.out
    have q2_0 := cell_blk G2.out 0
    have q2_1 := cell_blk G2.out 1
    have q2_2 := cell_blk G2.out 2
    have q2_l := lt_blk G2.out
    go_wp2_with fail
    refine (C3.out _ (Nat.le_trans hB HB3.out.size) (HT.out.on HB3.out hB).pq).mono ?_
    rintro e w4 ⟨rfl, hb4⟩
    clear q0_0 q0_1 q0_2 q0_l q1_0 q1_1 q1_2 q1_l q2_0 q2_1 q2_2 q2_l
    have G0 := hide (below_blk hb4 G0.out (lt_blk G0.out))
    have G1 := hide (below_blk hb4 G1.out (lt_blk G1.out))
    have G2 := hide (below_blk hb4 G2.out (lt_blk G2.out))
    have HB4 := hide (HB3.out.trans (hb4.mono HB3.out.size))
    clear hb4
    have q0_0 := cell_blk G0.out 0
    have q0_1 := cell_blk G0.out 1
    have q0_2 := cell_blk G0.out 2
    have q0_l := lt_blk G0.out
    have q1_0 := cell_blk G1.out 0
    have q1_1 := cell_blk G1.out 1
    have q1_2 := cell_blk G1.out 2
    have q1_l := lt_blk G1.out
    have q2_0 := cell_blk G2.out 0
    have q2_1 := cell_blk G2.out 1
    have q2_2 := cell_blk G2.out 2
    have q2_l := lt_blk G2.out
    go_wp2_with fail
    refine (C4.out _ (Nat.le_trans hB HB4.out.size) (HT.out.on HB4.out hB).pq).mono ?_
    rintro e w5 ⟨rfl, hb5⟩
    clear q0_0 q0_1 q0_2 q0_l q1_0 q1_1 q1_2 q1_l q2_0 q2_1 q2_2 q2_l
    have G0 := hide (below_blk hb5 G0.out (lt_blk G0.out))
    have G1 := hide (below_blk hb5 G1.out (lt_blk G1.out))
    have G2 := hide (below_blk hb5 G2.out (lt_blk G2.out))
    have HB5 := hide (HB4.out.trans (hb5.mono HB4.out.size))
    clear hb5
    have q0_0 := cell_blk G0.out 0
    have q0_1 := cell_blk G0.out 1
    have q0_2 := cell_blk G0.out 2
    have q0_l := lt_blk G0.out
    have q1_0 := cell_blk G1.out 0
    have q1_1 := cell_blk G1.out 1
    have q1_2 := cell_blk G1.out 2
    have q1_l := lt_blk G1.out
    have q2_0 := cell_blk G2.out 0
    have q2_1 := cell_blk G2.out 1
    have q2_2 := cell_blk G2.out 2
    have q2_l := lt_blk G2.out
    go_wp2_with fail
    refine (C5.out _ (Nat.le_trans hB HB5.out.size) (HT.out.on HB5.out hB).pq).mono ?_
    rintro e w6 ⟨rfl, hb6⟩
    clear q0_0 q0_1 q0_2 q0_l q1_0 q1_1 q1_2 q1_l q2_0 q2_1 q2_2 q2_l
    have G0 := hide (below_blk hb6 G0.out (lt_blk G0.out))
    have G1 := hide (below_blk hb6 G1.out (lt_blk G1.out))
    have G2 := hide (below_blk hb6 G2.out (lt_blk G2.out))
    have HB6 := hide (HB5.out.trans (hb6.mono HB5.out.size))
    clear hb6
    have q0_0 := cell_blk G0.out 0
    have q0_1 := cell_blk G0.out 1
    have q0_2 := cell_blk G0.out 2
    have q0_l := lt_blk G0.out
    have q1_0 := cell_blk G1.out 0
    have q1_1 := cell_blk G1.out 1
    have q1_2 := cell_blk G1.out 2
    have q1_l := lt_blk G1.out
    have q2_0 := cell_blk G2.out 0
    have q2_1 := cell_blk G2.out 1
    have q2_2 := cell_blk G2.out 2
    have q2_l := lt_blk G2.out
    go_wp2_with fail
    refine (C6.out _ (Nat.le_trans hB HB6.out.size) (HT.out.on HB6.out hB).pq).mono ?_
    rintro e w7 ⟨rfl, hb7⟩
    clear q0_0 q0_1 q0_2 q0_l q1_0 q1_1 q1_2 q1_l q2_0 q2_1 q2_2 q2_l
    have G0 := hide (below_blk hb7 G0.out (lt_blk G0.out))
    have G1 := hide (below_blk hb7 G1.out (lt_blk G1.out))
    have G2 := hide (below_blk hb7 G2.out (lt_blk G2.out))
    have HB7 := hide (HB6.out.trans (hb7.mono HB6.out.size))
    clear hb7
    have q0_0 := cell_blk G0.out 0
    have q0_1 := cell_blk G0.out 1
    have q0_2 := cell_blk G0.out 2
    have q0_l := lt_blk G0.out
    have q1_0 := cell_blk G1.out 0
    have q1_1 := cell_blk G1.out 1
    have q1_2 := cell_blk G1.out 2
    have q1_l := lt_blk G1.out
    have q2_0 := cell_blk G2.out 0
    have q2_1 := cell_blk G2.out 1
    have q2_2 := cell_blk G2.out 2
    have q2_l := lt_blk G2.out
    go_wp2_with fail
    refine (HAW.out _ (Nat.le_trans hB HB7.out.size) (HT.out.on HB7.out hB)).mono ?_
    rintro e w99 ⟨rfl, hb99⟩
    have HB99 := hide (HB7.out.trans (hb99.mono HB7.out.size))
    clear hb99
    go_wp2_with fail
    go_ret
    exact ⟨rfl, HB99.out⟩
  · skip
    clear H2 H4 H8 hlag C8
    subst e2
    subst e4
    dsimp only [optT, optE] at C2 C4
    have hm := mx604 4 0 (.inr rfl) (.inl rfl)
    simp only [show max (4 : Int) 0 = 4 from rfl] at hm
    go_enter Tryz.func11, Tryz.ntmps11
    go_wp2_with fail
    refine HF.out.mono ?_
    rintro e w1 ⟨rfl, hb1⟩
    have G0 := hide (below_blk hb1 X0.out.1 (lt_blk X0.out.1))
    have G1 := hide (below_blk hb1 X0.out.2.1 (lt_blk X0.out.2.1))
    have HB1 := hide (HB0.out.trans (hb1.mono HB0.out.size))
    clear hb1 X0
    have q0_0 := cell_blk G0.out 0
    have q0_1 := cell_blk G0.out 1
    have q0_2 := cell_blk G0.out 2
    have q0_l := lt_blk G0.out
    have q1_0 := cell_blk G1.out 0
    have q1_1 := cell_blk G1.out 1
    have q1_2 := cell_blk G1.out 2
    have q1_l := lt_blk G1.out
    go_wp2_with fail
    refine (C1.out _ (Nat.le_trans hB HB1.out.size) (HT.out.on HB1.out hB).pq).mono ?_
    rintro e w2 ⟨rfl, hb2⟩
    clear q0_0 q0_1 q0_2 q0_l q1_0 q1_1 q1_2 q1_l
    have X := hide (heap1 w2 (vecO X))
    have hb2 := hb2.trans (X.out.2.2.mono hb2.size)
    have G0 := hide (below_blk hb2 G0.out (lt_blk G0.out))
    have G1 := hide (below_blk hb2 G1.out (lt_blk G1.out))
    have G2 := hide X.out.1
    have HB2 := hide (HB1.out.trans (hb2.mono HB1.out.size))
    clear hb2 X
    have q0_0 := cell_blk G0.out 0
    have q0_1 := cell_blk G0.out 1
    have q0_2 := cell_blk G0.out 2
    have q0_l := lt_blk G0.out
    have q1_0 := cell_blk G1.out 0
    have q1_1 := cell_blk G1.out 1
    have q1_2 := cell_blk G1.out 2
    have q1_l := lt_blk G1.out
    have q2_0 := cell_blk G2.out 0
    have q2_1 := cell_blk G2.out 1
    have q2_2 := cell_blk G2.out 2
    have q2_l := lt_blk G2.out
    go_wp2_with fail
    refine (C2.out _ (Nat.le_trans hB HB2.out.size) (HT.out.on HB2.out hB).pq).mono ?_
    rintro e w3 ⟨rfl, hb3⟩
    clear q0_0 q0_1 q0_2 q0_l q1_0 q1_1 q1_2 q1_l q2_0 q2_1 q2_2 q2_l
    have G0 := hide (below_blk hb3 G0.out (lt_blk G0.out))
    have G1 := hide (below_blk hb3 G1.out (lt_blk G1.out))
    have G2 := hide (below_blk hb3 G2.out (lt_blk G2.out))
    have HB3 := hide (HB2.out.trans (hb3.mono HB2.out.size))
    clear hb3
    have q0_0 := cell_blk G0.out 0
    have q0_1 := cell_blk G0.out 1
    have q0_2 := cell_blk G0.out 2
    have q0_l := lt_blk G0.out
    have q1_0 := cell_blk G1.out 0
    have q1_1 := cell_blk G1.out 1
    have q1_2 := cell_blk G1.out 2
    have q1_l := lt_blk G1.out
    have q2_0 := cell_blk G2.out 0
    have q2_1 := cell_blk G2.out 1
    have q2_2 := cell_blk G2.out 2
    have q2_l := lt_blk G2.out
    go_wp2_with fail
    refine (C3.out _ (Nat.le_trans hB HB3.out.size) (HT.out.on HB3.out hB).pq).mono ?_
    rintro e w4 ⟨rfl, hb4⟩
    clear q0_0 q0_1 q0_2 q0_l q1_0 q1_1 q1_2 q1_l q2_0 q2_1 q2_2 q2_l
    have G0 := hide (below_blk hb4 G0.out (lt_blk G0.out))
    have G1 := hide (below_blk hb4 G1.out (lt_blk G1.out))
    have G2 := hide (below_blk hb4 G2.out (lt_blk G2.out))
    have HB4 := hide (HB3.out.trans (hb4.mono HB3.out.size))
    clear hb4
    have q0_0 := cell_blk G0.out 0
    have q0_1 := cell_blk G0.out 1
    have q0_2 := cell_blk G0.out 2
    have q0_l := lt_blk G0.out
    have q1_0 := cell_blk G1.out 0
    have q1_1 := cell_blk G1.out 1
    have q1_2 := cell_blk G1.out 2
    have q1_l := lt_blk G1.out
    have q2_0 := cell_blk G2.out 0
    have q2_1 := cell_blk G2.out 1
    have q2_2 := cell_blk G2.out 2
    have q2_l := lt_blk G2.out
    go_wp2_with fail
    refine (C4.out _ (Nat.le_trans hB HB4.out.size) (HT.out.on HB4.out hB).pq).mono ?_
    rintro e w5 ⟨rfl, hb5⟩
    clear q0_0 q0_1 q0_2 q0_l q1_0 q1_1 q1_2 q1_l q2_0 q2_1 q2_2 q2_l
    have G0 := hide (below_blk hb5 G0.out (lt_blk G0.out))
    have G1 := hide (below_blk hb5 G1.out (lt_blk G1.out))
    have G2 := hide (below_blk hb5 G2.out (lt_blk G2.out))
    have HB5 := hide (HB4.out.trans (hb5.mono HB4.out.size))
    clear hb5
    have q0_0 := cell_blk G0.out 0
    have q0_1 := cell_blk G0.out 1
    have q0_2 := cell_blk G0.out 2
    have q0_l := lt_blk G0.out
    have q1_0 := cell_blk G1.out 0
    have q1_1 := cell_blk G1.out 1
    have q1_2 := cell_blk G1.out 2
    have q1_l := lt_blk G1.out
    have q2_0 := cell_blk G2.out 0
    have q2_1 := cell_blk G2.out 1
    have q2_2 := cell_blk G2.out 2
    have q2_l := lt_blk G2.out
    go_wp2_with fail
    refine (C5.out _ (Nat.le_trans hB HB5.out.size) (HT.out.on HB5.out hB).pq).mono ?_
    rintro e w6 ⟨rfl, hb6⟩
    clear q0_0 q0_1 q0_2 q0_l q1_0 q1_1 q1_2 q1_l q2_0 q2_1 q2_2 q2_l
    have G0 := hide (below_blk hb6 G0.out (lt_blk G0.out))
    have G1 := hide (below_blk hb6 G1.out (lt_blk G1.out))
    have G2 := hide (below_blk hb6 G2.out (lt_blk G2.out))
    have HB6 := hide (HB5.out.trans (hb6.mono HB5.out.size))
    clear hb6
    have q0_0 := cell_blk G0.out 0
    have q0_1 := cell_blk G0.out 1
    have q0_2 := cell_blk G0.out 2
    have q0_l := lt_blk G0.out
    have q1_0 := cell_blk G1.out 0
    have q1_1 := cell_blk G1.out 1
    have q1_2 := cell_blk G1.out 2
    have q1_l := lt_blk G1.out
    have q2_0 := cell_blk G2.out 0
    have q2_1 := cell_blk G2.out 1
    have q2_2 := cell_blk G2.out 2
    have q2_l := lt_blk G2.out
    go_wp2_with fail
    refine (C6.out _ (Nat.le_trans hB HB6.out.size) (HT.out.on HB6.out hB).pq).mono ?_
    rintro e w7 ⟨rfl, hb7⟩
    clear q0_0 q0_1 q0_2 q0_l q1_0 q1_1 q1_2 q1_l q2_0 q2_1 q2_2 q2_l
    have G0 := hide (below_blk hb7 G0.out (lt_blk G0.out))
    have G1 := hide (below_blk hb7 G1.out (lt_blk G1.out))
    have G2 := hide (below_blk hb7 G2.out (lt_blk G2.out))
    have HB7 := hide (HB6.out.trans (hb7.mono HB6.out.size))
    clear hb7
    have q0_0 := cell_blk G0.out 0
    have q0_1 := cell_blk G0.out 1
    have q0_2 := cell_blk G0.out 2
    have q0_l := lt_blk G0.out
    have q1_0 := cell_blk G1.out 0
    have q1_1 := cell_blk G1.out 1
    have q1_2 := cell_blk G1.out 2
    have q1_l := lt_blk G1.out
    have q2_0 := cell_blk G2.out 0
    have q2_1 := cell_blk G2.out 1
    have q2_2 := cell_blk G2.out 2
    have q2_l := lt_blk G2.out
    go_wp2_with fail
    refine (HAW.out _ (Nat.le_trans hB HB7.out.size) (HT.out.on HB7.out hB)).mono ?_
    rintro e w99 ⟨rfl, hb99⟩
    have HB99 := hide (HB7.out.trans (hb99.mono HB7.out.size))
    clear hb99
    go_wp2_with fail
    go_ret
    exact ⟨rfl, HB99.out⟩
  · skip
    clear H2 H4 H8 hlag C8
    subst e2
    subst e4
    dsimp only [optT, optE] at C2 C4
    have hm := mx604 0 4 (.inl rfl) (.inr rfl)
    simp only [show max (0 : Int) 4 = 4 from rfl] at hm
    go_enter Tryz.func11, Tryz.ntmps11
    go_wp2_with fail
    refine HF.out.mono ?_
    rintro e w1 ⟨rfl, hb1⟩
    have G0 := hide (below_blk hb1 X0.out.1 (lt_blk X0.out.1))
    have G1 := hide (below_blk hb1 X0.out.2.1 (lt_blk X0.out.2.1))
    have HB1 := hide (HB0.out.trans (hb1.mono HB0.out.size))
    clear hb1 X0
    have q0_0 := cell_blk G0.out 0
    have q0_1 := cell_blk G0.out 1
    have q0_2 := cell_blk G0.out 2
    have q0_l := lt_blk G0.out
    have q1_0 := cell_blk G1.out 0
    have q1_1 := cell_blk G1.out 1
    have q1_2 := cell_blk G1.out 2
    have q1_l := lt_blk G1.out
    go_wp2_with fail
    refine (C1.out _ (Nat.le_trans hB HB1.out.size) (HT.out.on HB1.out hB).pq).mono ?_
    rintro e w2 ⟨rfl, hb2⟩
    clear q0_0 q0_1 q0_2 q0_l q1_0 q1_1 q1_2 q1_l
    have X := hide (heap1 w2 (vecO X))
    have hb2 := hb2.trans (X.out.2.2.mono hb2.size)
    have G0 := hide (below_blk hb2 G0.out (lt_blk G0.out))
    have G1 := hide (below_blk hb2 G1.out (lt_blk G1.out))
    have G2 := hide X.out.1
    have HB2 := hide (HB1.out.trans (hb2.mono HB1.out.size))
    clear hb2 X
    have q0_0 := cell_blk G0.out 0
    have q0_1 := cell_blk G0.out 1
    have q0_2 := cell_blk G0.out 2
    have q0_l := lt_blk G0.out
    have q1_0 := cell_blk G1.out 0
    have q1_1 := cell_blk G1.out 1
    have q1_2 := cell_blk G1.out 2
    have q1_l := lt_blk G1.out
    have q2_0 := cell_blk G2.out 0
    have q2_1 := cell_blk G2.out 1
    have q2_2 := cell_blk G2.out 2
    have q2_l := lt_blk G2.out
    go_wp2_with fail
    refine (C2.out _ (Nat.le_trans hB HB2.out.size) (HT.out.on HB2.out hB).pq).mono ?_
    rintro e w3 ⟨rfl, hb3⟩
    clear q0_0 q0_1 q0_2 q0_l q1_0 q1_1 q1_2 q1_l q2_0 q2_1 q2_2 q2_l
    have G0 := hide (below_blk hb3 G0.out (lt_blk G0.out))
    have G1 := hide (below_blk hb3 G1.out (lt_blk G1.out))
    have G2 := hide (below_blk hb3 G2.out (lt_blk G2.out))
    have HB3 := hide (HB2.out.trans (hb3.mono HB2.out.size))
    clear hb3
    have q0_0 := cell_blk G0.out 0
    have q0_1 := cell_blk G0.out 1
    have q0_2 := cell_blk G0.out 2
    have q0_l := lt_blk G0.out
    have q1_0 := cell_blk G1.out 0
    have q1_1 := cell_blk G1.out 1
    have q1_2 := cell_blk G1.out 2
    have q1_l := lt_blk G1.out
    have q2_0 := cell_blk G2.out 0
    have q2_1 := cell_blk G2.out 1
    have q2_2 := cell_blk G2.out 2
    have q2_l := lt_blk G2.out
    go_wp2_with fail
    refine (C3.out _ (Nat.le_trans hB HB3.out.size) (HT.out.on HB3.out hB).pq).mono ?_
    rintro e w4 ⟨rfl, hb4⟩
    clear q0_0 q0_1 q0_2 q0_l q1_0 q1_1 q1_2 q1_l q2_0 q2_1 q2_2 q2_l
    have G0 := hide (below_blk hb4 G0.out (lt_blk G0.out))
    have G1 := hide (below_blk hb4 G1.out (lt_blk G1.out))
    have G2 := hide (below_blk hb4 G2.out (lt_blk G2.out))
    have HB4 := hide (HB3.out.trans (hb4.mono HB3.out.size))
    clear hb4
    have q0_0 := cell_blk G0.out 0
    have q0_1 := cell_blk G0.out 1
    have q0_2 := cell_blk G0.out 2
    have q0_l := lt_blk G0.out
    have q1_0 := cell_blk G1.out 0
    have q1_1 := cell_blk G1.out 1
    have q1_2 := cell_blk G1.out 2
    have q1_l := lt_blk G1.out
    have q2_0 := cell_blk G2.out 0
    have q2_1 := cell_blk G2.out 1
    have q2_2 := cell_blk G2.out 2
    have q2_l := lt_blk G2.out
    go_wp2_with fail
    refine (C4.out _ (Nat.le_trans hB HB4.out.size) (HT.out.on HB4.out hB).pq).mono ?_
    rintro e w5 ⟨rfl, hb5⟩
    clear q0_0 q0_1 q0_2 q0_l q1_0 q1_1 q1_2 q1_l q2_0 q2_1 q2_2 q2_l
    have G0 := hide (below_blk hb5 G0.out (lt_blk G0.out))
    have G1 := hide (below_blk hb5 G1.out (lt_blk G1.out))
    have G2 := hide (below_blk hb5 G2.out (lt_blk G2.out))
    have HB5 := hide (HB4.out.trans (hb5.mono HB4.out.size))
    clear hb5
    have q0_0 := cell_blk G0.out 0
    have q0_1 := cell_blk G0.out 1
    have q0_2 := cell_blk G0.out 2
    have q0_l := lt_blk G0.out
    have q1_0 := cell_blk G1.out 0
    have q1_1 := cell_blk G1.out 1
    have q1_2 := cell_blk G1.out 2
    have q1_l := lt_blk G1.out
    have q2_0 := cell_blk G2.out 0
    have q2_1 := cell_blk G2.out 1
    have q2_2 := cell_blk G2.out 2
    have q2_l := lt_blk G2.out
    go_wp2_with fail
    refine (C5.out _ (Nat.le_trans hB HB5.out.size) (HT.out.on HB5.out hB).pq).mono ?_
    rintro e w6 ⟨rfl, hb6⟩
    clear q0_0 q0_1 q0_2 q0_l q1_0 q1_1 q1_2 q1_l q2_0 q2_1 q2_2 q2_l
    have G0 := hide (below_blk hb6 G0.out (lt_blk G0.out))
    have G1 := hide (below_blk hb6 G1.out (lt_blk G1.out))
    have G2 := hide (below_blk hb6 G2.out (lt_blk G2.out))
    have HB6 := hide (HB5.out.trans (hb6.mono HB5.out.size))
    clear hb6
    have q0_0 := cell_blk G0.out 0
    have q0_1 := cell_blk G0.out 1
    have q0_2 := cell_blk G0.out 2
    have q0_l := lt_blk G0.out
    have q1_0 := cell_blk G1.out 0
    have q1_1 := cell_blk G1.out 1
    have q1_2 := cell_blk G1.out 2
    have q1_l := lt_blk G1.out
    have q2_0 := cell_blk G2.out 0
    have q2_1 := cell_blk G2.out 1
    have q2_2 := cell_blk G2.out 2
    have q2_l := lt_blk G2.out
    go_wp2_with fail
    refine (C6.out _ (Nat.le_trans hB HB6.out.size) (HT.out.on HB6.out hB).pq).mono ?_
    rintro e w7 ⟨rfl, hb7⟩
    clear q0_0 q0_1 q0_2 q0_l q1_0 q1_1 q1_2 q1_l q2_0 q2_1 q2_2 q2_l
    have G0 := hide (below_blk hb7 G0.out (lt_blk G0.out))
    have G1 := hide (below_blk hb7 G1.out (lt_blk G1.out))
    have G2 := hide (below_blk hb7 G2.out (lt_blk G2.out))
    have HB7 := hide (HB6.out.trans (hb7.mono HB6.out.size))
    clear hb7
    have q0_0 := cell_blk G0.out 0
    have q0_1 := cell_blk G0.out 1
    have q0_2 := cell_blk G0.out 2
    have q0_l := lt_blk G0.out
    have q1_0 := cell_blk G1.out 0
    have q1_1 := cell_blk G1.out 1
    have q1_2 := cell_blk G1.out 2
    have q1_l := lt_blk G1.out
    have q2_0 := cell_blk G2.out 0
    have q2_1 := cell_blk G2.out 1
    have q2_2 := cell_blk G2.out 2
    have q2_l := lt_blk G2.out
    go_wp2_with fail
    refine (HAW.out _ (Nat.le_trans hB HB7.out.size) (HT.out.on HB7.out hB)).mono ?_
    rintro e w99 ⟨rfl, hb99⟩
    have HB99 := hide (HB7.out.trans (hb99.mono HB7.out.size))
    clear hb99
    go_wp2_with fail
    go_ret
    exact ⟨rfl, HB99.out⟩
  · skip
    obtain ⟨g2, f2⟩ := H2 _ e2
    obtain ⟨g4, f4⟩ := H4 _ e4
    have C7 := hide (fun w hB hT => (qadd_O f2 f4 n0 w hB hT).mono fun _ _ hr => hr.opt)
    obtain ⟨o7, ho7⟩ : ∃ o, o = addO x2 x4 := ⟨_, rfl⟩
    rw [← ho7] at C7
    have H7 := fun x (h : o7 = some x) => (addO_some (ho7.symm.trans h)).1
    have hq : ∀ x y, o7 = some x → o8 = some y → x = y := fun x y hx hy => by rw [H7 x hx, H8 y hy, g2, g4, hlag]
    subst e2
    subst e4
    dsimp only [optT, optE] at C2 C4
    have hm := mx604 0 0 (.inl rfl) (.inl rfl)
    simp only [show max (0 : Int) 0 = 0 from rfl] at hm
    clear H2 H4 H7 H8 ho7 hlag g2 g4 f2 f4
    rcases Option.eq_none_or_eq_some o7 with e7 | ⟨x7, e7⟩ <;> rcases Option.eq_none_or_eq_some o8 with e8 | ⟨x8, e8⟩
    all_goals
      try obtain rfl := hq _ _ e7 e8
      clear hq
      subst e7
      subst e8
      dsimp only [optT, optE] at C7 C8
      go_enter Tryz.func11, Tryz.ntmps11
      go_wp2_with fail
      refine HF.out.mono ?_
      rintro e w1 ⟨rfl, hb1⟩
      have G0 := hide (below_blk hb1 X0.out.1 (lt_blk X0.out.1))
      have G1 := hide (below_blk hb1 X0.out.2.1 (lt_blk X0.out.2.1))
      have HB1 := hide (HB0.out.trans (hb1.mono HB0.out.size))
      clear hb1 X0
      have q0_0 := cell_blk G0.out 0
      have q0_1 := cell_blk G0.out 1
      have q0_2 := cell_blk G0.out 2
      have q0_l := lt_blk G0.out
      have q1_0 := cell_blk G1.out 0
      have q1_1 := cell_blk G1.out 1
      have q1_2 := cell_blk G1.out 2
      have q1_l := lt_blk G1.out
      go_wp2_with fail
      refine (C1.out _ (Nat.le_trans hB HB1.out.size) (HT.out.on HB1.out hB).pq).mono ?_
      rintro e w2 ⟨rfl, hb2⟩
      clear q0_0 q0_1 q0_2 q0_l q1_0 q1_1 q1_2 q1_l
      have X := hide (heap1 w2 (vecO X))
      have hb2 := hb2.trans (X.out.2.2.mono hb2.size)
      have G0 := hide (below_blk hb2 G0.out (lt_blk G0.out))
      have G1 := hide (below_blk hb2 G1.out (lt_blk G1.out))
      have G2 := hide X.out.1
      have HB2 := hide (HB1.out.trans (hb2.mono HB1.out.size))
      clear hb2 X
      have q0_0 := cell_blk G0.out 0
      have q0_1 := cell_blk G0.out 1
      have q0_2 := cell_blk G0.out 2
      have q0_l := lt_blk G0.out
      have q1_0 := cell_blk G1.out 0
      have q1_1 := cell_blk G1.out 1
      have q1_2 := cell_blk G1.out 2
      have q1_l := lt_blk G1.out
      have q2_0 := cell_blk G2.out 0
      have q2_1 := cell_blk G2.out 1
      have q2_2 := cell_blk G2.out 2
      have q2_l := lt_blk G2.out
      go_wp2_with fail
      refine (C2.out _ (Nat.le_trans hB HB2.out.size) (HT.out.on HB2.out hB).pq).mono ?_
      rintro e w3 ⟨rfl, hb3⟩
      clear q0_0 q0_1 q0_2 q0_l q1_0 q1_1 q1_2 q1_l q2_0 q2_1 q2_2 q2_l
      have G0 := hide (below_blk hb3 G0.out (lt_blk G0.out))
      have G1 := hide (below_blk hb3 G1.out (lt_blk G1.out))
      have G2 := hide (below_blk hb3 G2.out (lt_blk G2.out))
      have HB3 := hide (HB2.out.trans (hb3.mono HB2.out.size))
      clear hb3
      have q0_0 := cell_blk G0.out 0
      have q0_1 := cell_blk G0.out 1
      have q0_2 := cell_blk G0.out 2
      have q0_l := lt_blk G0.out
      have q1_0 := cell_blk G1.out 0
      have q1_1 := cell_blk G1.out 1
      have q1_2 := cell_blk G1.out 2
      have q1_l := lt_blk G1.out
      have q2_0 := cell_blk G2.out 0
      have q2_1 := cell_blk G2.out 1
      have q2_2 := cell_blk G2.out 2
      have q2_l := lt_blk G2.out
      go_wp2_with fail
      refine (C3.out _ (Nat.le_trans hB HB3.out.size) (HT.out.on HB3.out hB).pq).mono ?_
      rintro e w4 ⟨rfl, hb4⟩
      clear q0_0 q0_1 q0_2 q0_l q1_0 q1_1 q1_2 q1_l q2_0 q2_1 q2_2 q2_l
      have G0 := hide (below_blk hb4 G0.out (lt_blk G0.out))
      have G1 := hide (below_blk hb4 G1.out (lt_blk G1.out))
      have G2 := hide (below_blk hb4 G2.out (lt_blk G2.out))
      have HB4 := hide (HB3.out.trans (hb4.mono HB3.out.size))
      clear hb4
      have q0_0 := cell_blk G0.out 0
      have q0_1 := cell_blk G0.out 1
      have q0_2 := cell_blk G0.out 2
      have q0_l := lt_blk G0.out
      have q1_0 := cell_blk G1.out 0
      have q1_1 := cell_blk G1.out 1
      have q1_2 := cell_blk G1.out 2
      have q1_l := lt_blk G1.out
      have q2_0 := cell_blk G2.out 0
      have q2_1 := cell_blk G2.out 1
      have q2_2 := cell_blk G2.out 2
      have q2_l := lt_blk G2.out
      go_wp2_with fail
      refine (C4.out _ (Nat.le_trans hB HB4.out.size) (HT.out.on HB4.out hB).pq).mono ?_
      rintro e w5 ⟨rfl, hb5⟩
      clear q0_0 q0_1 q0_2 q0_l q1_0 q1_1 q1_2 q1_l q2_0 q2_1 q2_2 q2_l
      have G0 := hide (below_blk hb5 G0.out (lt_blk G0.out))
      have G1 := hide (below_blk hb5 G1.out (lt_blk G1.out))
      have G2 := hide (below_blk hb5 G2.out (lt_blk G2.out))
      have HB5 := hide (HB4.out.trans (hb5.mono HB4.out.size))
      clear hb5
      have q0_0 := cell_blk G0.out 0
      have q0_1 := cell_blk G0.out 1
      have q0_2 := cell_blk G0.out 2
      have q0_l := lt_blk G0.out
      have q1_0 := cell_blk G1.out 0
      have q1_1 := cell_blk G1.out 1
      have q1_2 := cell_blk G1.out 2
      have q1_l := lt_blk G1.out
      have q2_0 := cell_blk G2.out 0
      have q2_1 := cell_blk G2.out 1
      have q2_2 := cell_blk G2.out 2
      have q2_l := lt_blk G2.out
      go_wp2_with fail
      refine (C5.out _ (Nat.le_trans hB HB5.out.size) (HT.out.on HB5.out hB).pq).mono ?_
      rintro e w6 ⟨rfl, hb6⟩
      clear q0_0 q0_1 q0_2 q0_l q1_0 q1_1 q1_2 q1_l q2_0 q2_1 q2_2 q2_l
      have G0 := hide (below_blk hb6 G0.out (lt_blk G0.out))
      have G1 := hide (below_blk hb6 G1.out (lt_blk G1.out))
      have G2 := hide (below_blk hb6 G2.out (lt_blk G2.out))
      have HB6 := hide (HB5.out.trans (hb6.mono HB5.out.size))
      clear hb6
      have q0_0 := cell_blk G0.out 0
      have q0_1 := cell_blk G0.out 1
      have q0_2 := cell_blk G0.out 2
      have q0_l := lt_blk G0.out
      have q1_0 := cell_blk G1.out 0
      have q1_1 := cell_blk G1.out 1
      have q1_2 := cell_blk G1.out 2
      have q1_l := lt_blk G1.out
      have q2_0 := cell_blk G2.out 0
      have q2_1 := cell_blk G2.out 1
      have q2_2 := cell_blk G2.out 2
      have q2_l := lt_blk G2.out
      go_wp2_with fail
      refine (C6.out _ (Nat.le_trans hB HB6.out.size) (HT.out.on HB6.out hB).pq).mono ?_
      rintro e w7 ⟨rfl, hb7⟩
      clear q0_0 q0_1 q0_2 q0_l q1_0 q1_1 q1_2 q1_l q2_0 q2_1 q2_2 q2_l
      have G0 := hide (below_blk hb7 G0.out (lt_blk G0.out))
      have G1 := hide (below_blk hb7 G1.out (lt_blk G1.out))
      have G2 := hide (below_blk hb7 G2.out (lt_blk G2.out))
      have HB7 := hide (HB6.out.trans (hb7.mono HB6.out.size))
      clear hb7
      have q0_0 := cell_blk G0.out 0
      have q0_1 := cell_blk G0.out 1
      have q0_2 := cell_blk G0.out 2
      have q0_l := lt_blk G0.out
      have q1_0 := cell_blk G1.out 0
      have q1_1 := cell_blk G1.out 1
      have q1_2 := cell_blk G1.out 2
      have q1_l := lt_blk G1.out
      have q2_0 := cell_blk G2.out 0
      have q2_1 := cell_blk G2.out 1
      have q2_2 := cell_blk G2.out 2
      have q2_l := lt_blk G2.out
      go_wp2_with fail
      refine (C7.out _ (Nat.le_trans hB HB7.out.size) (HT.out.on HB7.out hB).pq).mono ?_
      rintro e w8 ⟨rfl, hb8⟩
      clear q0_0 q0_1 q0_2 q0_l q1_0 q1_1 q1_2 q1_l q2_0 q2_1 q2_2 q2_l
      have G0 := hide (below_blk hb8 G0.out (lt_blk G0.out))
      have G1 := hide (below_blk hb8 G1.out (lt_blk G1.out))
      have G2 := hide (below_blk hb8 G2.out (lt_blk G2.out))
      have HB8 := hide (HB7.out.trans (hb8.mono HB7.out.size))
      clear hb8
      have q0_0 := cell_blk G0.out 0
      have q0_1 := cell_blk G0.out 1
      have q0_2 := cell_blk G0.out 2
      have q0_l := lt_blk G0.out
      have q1_0 := cell_blk G1.out 0
      have q1_1 := cell_blk G1.out 1
      have q1_2 := cell_blk G1.out 2
      have q1_l := lt_blk G1.out
      have q2_0 := cell_blk G2.out 0
      have q2_1 := cell_blk G2.out 1
      have q2_2 := cell_blk G2.out 2
      have q2_l := lt_blk G2.out
      go_wp2_with fail
      refine (C8.out _ (Nat.le_trans hB HB8.out.size) (HT.out.on HB8.out hB).pq).mono ?_
      rintro e w9 ⟨rfl, hb9⟩
      clear q0_0 q0_1 q0_2 q0_l q1_0 q1_1 q1_2 q1_l q2_0 q2_1 q2_2 q2_l
      have G0 := hide (below_blk hb9 G0.out (lt_blk G0.out))
      have G1 := hide (below_blk hb9 G1.out (lt_blk G1.out))
      have G2 := hide (below_blk hb9 G2.out (lt_blk G2.out))
      have HB9 := hide (HB8.out.trans (hb9.mono HB8.out.size))
      clear hb9
      have q0_0 := cell_blk G0.out 0
      have q0_1 := cell_blk G0.out 1
      have q0_2 := cell_blk G0.out 2
      have q0_l := lt_blk G0.out
      have q1_0 := cell_blk G1.out 0
      have q1_1 := cell_blk G1.out 1
      have q1_2 := cell_blk G1.out 2
      have q1_l := lt_blk G1.out
      have q2_0 := cell_blk G2.out 0
      have q2_1 := cell_blk G2.out 1
      have q2_2 := cell_blk G2.out 2
      have q2_l := lt_blk G2.out
      go_wp2_with fail
      refine (HAW.out _ (Nat.le_trans hB HB9.out.size) (HT.out.on HB9.out hB)).mono ?_
      rintro e w99 ⟨rfl, hb99⟩
      have HB99 := hide (HB9.out.trans (hb99.mono HB9.out.size))
      clear hb99
      go_wp2_with fail
      go_ret
      exact ⟨rfl, HB99.out⟩
end Go.Proofs.YtbfojhneajedmaaGreatDoor
