/-
  The reference's vectors: both, Sub, Cross, Parallel walked.
-/
import Derived.Test.YtbfojhneajedmaaGreatDoorM15
import Derived.Test.YtbfojhneajedmaaGreatDoorM16
import Derived.Test.YtbfojhneajedmaaGreatDoorM17
namespace Go.Proofs.YtbfojhneajedmaaGreatDoor
open Go.RowKit Go.KP Go.KI Go.Shelf
attribute [local go_sem] Oper.semAt_some

theorem opV_opt (o : Option Rat) : opV o = .tuple #[.string (optT o), .int .i64 (optE o)] := by cases o <;> rfl
/-- The first error. -/
def worstI (e f g : Int) : Int := if e ≠ 0 then e else if f ≠ 0 then f else g
set_option maxRecDepth 100000 in
theorem r9worst_at (e f g : Int) (w : World) : Calls Tryz.prog 101 #[.int .i64 e, .int .i64 f, .int .i64 g] w (fun r w' => r = .returned (.int .i64 (worstI e f g)) ∧ w' = w) := by
  unfold worstI
  by_cases h1 : e = 0
  · subst h1
    rw [if_neg (by simp)]
    by_cases h2 : f = 0
    · subst h2
      rw [if_neg (by simp)]
      go_enter Tryz.func101, Tryz.ntmps101
      go_wp2_with fail
      go_ret
      exact ⟨rfl, rfl⟩
    · rw [if_pos h2]
      have h3 : (f != 0) = true := by simpa using h2
      clear h2
      go_enter Tryz.func101, Tryz.ntmps101
      go_wp2_with fail
      go_ret
      exact ⟨rfl, rfl⟩
  · rw [if_pos h1]
    have h3 : (e != 0) = true := by simpa using h1
    clear h1
    go_enter Tryz.func101, Tryz.ntmps101
    go_wp2_with fail
    go_ret
    exact ⟨rfl, rfl⟩
/-- A vector of three numbers, or an error. -/
def madeV (x y z : ByteArray) (e : Int) : Value := if e ≠ 0 then .tuple #[noV, .int .i64 e] else .tuple #[spotV x y z, .int .i64 0]
set_option maxRecDepth 100000 in
theorem r9made_any (x y z : ByteArray) (e : Int) (w : World) : Calls Tryz.prog 104 #[.string x, .string y, .string z, .int .i64 e] w (Ret w (madeV x y z e)) := by
  unfold madeV
  by_cases h : e = 0
  · subst h
    rw [if_neg (by simp)]
    go_enter Tryz.func104, Tryz.ntmps104
    go_wp2_with fail
    exact exit_spotE rfl (heap1 w (spotO x y z)).1 rfl rfl rfl ⟨rfl, (heap1 w (spotO x y z)).2.2⟩
  · rw [if_pos h]
    have h3 : (e != 0) = true := by simpa using h
    clear h
    go_enter Tryz.func104, Tryz.ntmps104
    go_wp2_with fail
    exact exit_spotE rfl (heap1 w (spotO ⟨#[]⟩ ⟨#[]⟩ ⟨#[]⟩)).1 rfl rfl rfl ⟨rfl, (heap1 w (spotO ⟨#[]⟩ ⟨#[]⟩ ⟨#[]⟩)).2.2⟩
set_option maxRecDepth 100000 in
set_option maxHeartbeats 4000000 in
theorem r9both_any (a b c a2 b2 c2 : ByteArray) (ha : a.size ≤ 1000000) (hb : b.size ≤ 1000000) (hc : c.size ≤ 1000000) (ha2 : a2.size ≤ 1000000) (hb2 : b2.size ≤ 1000000) (hc2 : c2.size ≤ 1000000) (B : Nat) (w : World) (hB : B ≤ w.heap.size) (hT : PQ B w) :
    Calls Tryz.prog 99 #[spotV a b c, spotV a2 b2 c2] w (Ret w (.int .i64 (both3 (chk3 a.data.toList b.data.toList c.data.toList) (chk3 a2.data.toList b2.data.toList c2.data.toList)))) := by
  have HT := hide hT
  have H1 := hide (fun w hB hT => r9Check_any a b c ha hb hc B w hB hT)
  have H2 := hide (fun w hB hT => r9Check_any a2 b2 c2 ha2 hb2 hc2 B w hB hT)
  obtain ⟨x, hx⟩ : ∃ x, x = chk3 a.data.toList b.data.toList c.data.toList := ⟨_, rfl⟩
  obtain ⟨y, hy⟩ : ∃ x, x = chk3 a2.data.toList b2.data.toList c2.data.toList := ⟨_, rfl⟩
  rw [← hx] at H1 ⊢
  rw [← hy] at H2 ⊢
  clear hx hy ha hb hc ha2 hb2 hc2 hT
  have X0 := hide (heap2 w (spotO a b c) (spotO a2 b2 c2))
  unfold both3
  by_cases h : x = 0
  · subst h
    rw [if_neg (by simp)]
    go_enter Tryz.func99, Tryz.ntmps99
    go_wp2_with fail
    refine (H1.out _ (Nat.le_trans hB X0.out.2.2.2.size) (HT.out.on X0.out.2.2.2 hB)).mono ?_
    rintro e w1 ⟨rfl, hb1⟩
    have G0 := hide (below_blk hb1 (X0.out.2.1) (lt_blk (X0.out.2.1)))
    have HB1 := hide (Below.trans (X0.out.2.2.2) (hb1.mono (X0.out.2.2.2).size))
    clear hb1
    have q0_0 := cell_blk G0.out 0
    have q0_1 := cell_blk G0.out 1
    have q0_2 := cell_blk G0.out 2
    have q0_l := lt_blk G0.out
    go_wp2_with fail
    refine (H2.out _ (Nat.le_trans hB HB1.out.size) (HT.out.on HB1.out hB)).mono ?_
    rintro e w2 ⟨rfl, hb2⟩
    clear q0_0 q0_1 q0_2 q0_l
    have G0 := hide (below_blk hb2 G0.out (lt_blk G0.out))
    have HB2 := hide (Below.trans (HB1.out) (hb2.mono (HB1.out).size))
    clear hb2
    have q0_0 := cell_blk G0.out 0
    have q0_1 := cell_blk G0.out 1
    have q0_2 := cell_blk G0.out 2
    have q0_l := lt_blk G0.out
    go_wp2_with fail
    go_ret
    exact ⟨rfl, HB2.out⟩
  · rw [if_pos h]
    have h2 : (x != 0) = true := by simpa using h
    clear h
    go_enter Tryz.func99, Tryz.ntmps99
    go_wp2_with fail
    refine (H1.out _ (Nat.le_trans hB X0.out.2.2.2.size) (HT.out.on X0.out.2.2.2 hB)).mono ?_
    rintro e w1 ⟨rfl, hb1⟩
    have HB1 := hide (Below.trans (X0.out.2.2.2) (hb1.mono (X0.out.2.2.2).size))
    clear hb1
    go_wp2_with fail
    go_ret
    exact ⟨rfl, HB1.out⟩
theorem r9both_T {a b : V3} (fa : fitsV a) (fb : fitsV b) (B : Nat) (w : World) (hB : B ≤ w.heap.size) (hT : PQ B w) :
    Calls Tryz.prog 99 #[vecV a, vecV b] w (Ret w (.int .i64 0)) := by
  have h := r9both_any (T a.x) (T a.y) (T a.z) (T b.x) (T b.y) (T b.z) (T_chk fa.1).1 (T_chk fa.2.1).1 (T_chk fa.2.2).1 (T_chk fb.1).1 (T_chk fb.2.1).1 (T_chk fb.2.2).1 B w hB hT
  have e1 : chk3 (T a.x).data.toList (T a.y).data.toList (T a.z).data.toList = 0 := chk3_zero.2 ⟨(T_chk fa.1).2, (T_chk fa.2.1).2, (T_chk fa.2.2).2⟩
  have e2 : chk3 (T b.x).data.toList (T b.y).data.toList (T b.z).data.toList = 0 := chk3_zero.2 ⟨(T_chk fb.1).2, (T_chk fb.2.1).2, (T_chk fb.2.2).2⟩
  rw [e1, e2] at h
  exact h
theorem madeV_O {o1 o2 o3 : Option Rat} {w : World} {e : Ending} {w' : World} (h : Ret w (madeV (optT o1) (optT o2) (optT o3) (worstI (optE o1) (optE o2) (optE o3))) e w') : ResV w (all3 o1 o2 o3) e w' := by
  cases o1 with
  | none => exact .inr ⟨rfl, h⟩
  | some x => cases o2 with
    | none => exact .inr ⟨rfl, h⟩
    | some y => cases o3 with
      | none => exact .inr ⟨rfl, h⟩
      | some z => exact .inl ⟨⟨x, y, z⟩, rfl, h⟩
set_option maxRecDepth 100000 in
set_option maxHeartbeats 8000000 in
theorem r9Sub_O {a b : V3} (fa : fitsV a) (fb : fitsV b) (B : Nat) (w : World) (hB : B ≤ w.heap.size) (hT : PQ B w) :
    Calls Tryz.prog 62 #[vecV a, vecV b] w (ResV w (vec2O subO a b)) := by
  have HT := hide hT
  have HC := hide (fun w hB hT => r9both_T fa fb B w hB hT)
  have C1 := hide (fun w hB hT => r2Sub_T fa.1 fb.1 B w hB hT)
  rw [opV_opt] at C1
  have C2 := hide (fun w hB hT => r2Sub_T fa.2.1 fb.2.1 B w hB hT)
  rw [opV_opt] at C2
  have C3 := hide (fun w hB hT => r2Sub_T fa.2.2 fb.2.2 B w hB hT)
  rw [opV_opt] at C3
  obtain ⟨O1, hO1⟩ : ∃ O, O = subO a.x b.x := ⟨_, rfl⟩
  rw [← hO1] at C1
  obtain ⟨O2, hO2⟩ : ∃ O, O = subO a.y b.y := ⟨_, rfl⟩
  rw [← hO2] at C2
  obtain ⟨O3, hO3⟩ : ∃ O, O = subO a.z b.z := ⟨_, rfl⟩
  rw [← hO3] at C3
  rw [show vec2O subO a b = all3 O1 O2 O3 by rw [hO1, hO2, hO3]; rfl]
  clear hO1 hO2 hO3
  have X0 := hide (heap3 w (vecO a) (vecO b) (spotO ⟨#[]⟩ ⟨#[]⟩ ⟨#[]⟩))
  refine Calls.mono ?_ (fun e w' h => madeV_O (o1 := O1) (o2 := O2) (o3 := O3) h)
  have HW := hide (fun w => r9worst_at (optE O1) (optE O2) (optE O3) w)
  have HM := hide (fun w => r9made_any (optT O1) (optT O2) (optT O3) (worstI (optE O1) (optE O2) (optE O3)) w)
  obtain ⟨V, hV⟩ : ∃ V, V = madeV (optT O1) (optT O2) (optT O3) (worstI (optE O1) (optE O2) (optE O3)) := ⟨_, rfl⟩
  have hV2 : ∃ (x y z : ByteArray) (e : Int), V = .tuple #[spotV x y z, .int .i64 e] := by
    rw [hV]
    unfold madeV
    split
    · exact ⟨_, _, _, _, rfl⟩
    · exact ⟨_, _, _, _, rfl⟩
  rw [← hV] at HM ⊢
  obtain ⟨vx, vy, vz, ve, rfl⟩ := hV2
  obtain ⟨S1, hS1⟩ : ∃ V, V = optT O1 := ⟨_, rfl⟩
  obtain ⟨S2, hS2⟩ : ∃ V, V = optT O2 := ⟨_, rfl⟩
  obtain ⟨S3, hS3⟩ : ∃ V, V = optT O3 := ⟨_, rfl⟩
  obtain ⟨E1, hE1⟩ : ∃ V, V = optE O1 := ⟨_, rfl⟩
  obtain ⟨E2, hE2⟩ : ∃ V, V = optE O2 := ⟨_, rfl⟩
  obtain ⟨E3, hE3⟩ : ∃ V, V = optE O3 := ⟨_, rfl⟩
  simp only [← hS1, ← hS2, ← hS3, ← hE1, ← hE2, ← hE3] at C1 C2 C3 HW HM
  obtain ⟨WO, hWO⟩ : ∃ V, V = worstI E1 E2 E3 := ⟨_, rfl⟩
  rw [← hWO] at HW HM
  clear hS1 hS2 hS3 hE1 hE2 hE3 hWO hV hT
  go_enter Tryz.func62, Tryz.ntmps62
  go_wp2_with fail
  refine (HC.out _ (Nat.le_trans hB X0.out.2.2.2.2.size) (HT.out.on X0.out.2.2.2.2 hB)).mono ?_
  rintro e w1 ⟨rfl, hb1⟩
  have G0 := hide (below_blk hb1 (X0.out.1) (lt_blk (X0.out.1)))
  have G1 := hide (below_blk hb1 (X0.out.2.1) (lt_blk (X0.out.2.1)))
  have G2 := hide (below_blk hb1 (X0.out.2.2.1) (lt_blk (X0.out.2.2.1)))
  have HB1 := hide (Below.trans (X0.out.2.2.2.2) (hb1.mono (X0.out.2.2.2.2).size))
  clear hb1
  have q0_0 := cell_blk G0.out 0
  have q0_1 := cell_blk G0.out 1
  have q0_2 := cell_blk G0.out 2
  have q0_l := lt_blk G0.out
  have q1_0 := cell_blk G1.out 0
  have q1_1 := cell_blk G1.out 1
  have q1_2 := cell_blk G1.out 2
  have q1_l := lt_blk G1.out
  have q2_0 := cell_blk G2.out 0
  have q2_1 := cell_blk G2.out 1
  have q2_2 := cell_blk G2.out 2
  have q2_l := lt_blk G2.out
  go_wp2_with fail
  refine (C1.out _ (Nat.le_trans hB HB1.out.size) (HT.out.on HB1.out hB)).mono ?_
  rintro e w2 ⟨rfl, hb2⟩
  clear q0_0 q0_1 q0_2 q1_0 q1_1 q1_2 q2_0 q2_1 q2_2 q0_l q1_l q2_l
  have G0 := hide (below_blk hb2 G0.out (lt_blk G0.out))
  have G1 := hide (below_blk hb2 G1.out (lt_blk G1.out))
  have G2 := hide (below_blk hb2 G2.out (lt_blk G2.out))
  have HB2 := hide (Below.trans (HB1.out) (hb2.mono (HB1.out).size))
  clear hb2
  have q0_0 := cell_blk G0.out 0
  have q0_1 := cell_blk G0.out 1
  have q0_2 := cell_blk G0.out 2
  have q0_l := lt_blk G0.out
  have q1_0 := cell_blk G1.out 0
  have q1_1 := cell_blk G1.out 1
  have q1_2 := cell_blk G1.out 2
  have q1_l := lt_blk G1.out
  have q2_0 := cell_blk G2.out 0
  have q2_1 := cell_blk G2.out 1
  have q2_2 := cell_blk G2.out 2
  have q2_l := lt_blk G2.out
  go_wp2_with fail
  refine (C2.out _ (Nat.le_trans hB HB2.out.size) (HT.out.on HB2.out hB)).mono ?_
  rintro e w3 ⟨rfl, hb3⟩
  clear q0_0 q0_1 q0_2 q1_0 q1_1 q1_2 q2_0 q2_1 q2_2 q0_l q1_l q2_l
  have G0 := hide (below_blk hb3 G0.out (lt_blk G0.out))
  have G1 := hide (below_blk hb3 G1.out (lt_blk G1.out))
  have G2 := hide (below_blk hb3 G2.out (lt_blk G2.out))
  have HB3 := hide (Below.trans (HB2.out) (hb3.mono (HB2.out).size))
  clear hb3
  have q0_0 := cell_blk G0.out 0
  have q0_1 := cell_blk G0.out 1
  have q0_2 := cell_blk G0.out 2
  have q0_l := lt_blk G0.out
  have q1_0 := cell_blk G1.out 0
  have q1_1 := cell_blk G1.out 1
  have q1_2 := cell_blk G1.out 2
  have q1_l := lt_blk G1.out
  have q2_0 := cell_blk G2.out 0
  have q2_1 := cell_blk G2.out 1
  have q2_2 := cell_blk G2.out 2
  have q2_l := lt_blk G2.out
  go_wp2_with fail
  refine (C3.out _ (Nat.le_trans hB HB3.out.size) (HT.out.on HB3.out hB)).mono ?_
  rintro e w4 ⟨rfl, hb4⟩
  clear q0_0 q0_1 q0_2 q1_0 q1_1 q1_2 q2_0 q2_1 q2_2 q0_l q1_l q2_l
  have G0 := hide (below_blk hb4 G0.out (lt_blk G0.out))
  have G1 := hide (below_blk hb4 G1.out (lt_blk G1.out))
  have G2 := hide (below_blk hb4 G2.out (lt_blk G2.out))
  have HB4 := hide (Below.trans (HB3.out) (hb4.mono (HB3.out).size))
  clear hb4
  have q0_0 := cell_blk G0.out 0
  have q0_1 := cell_blk G0.out 1
  have q0_2 := cell_blk G0.out 2
  have q0_l := lt_blk G0.out
  have q1_0 := cell_blk G1.out 0
  have q1_1 := cell_blk G1.out 1
  have q1_2 := cell_blk G1.out 2
  have q1_l := lt_blk G1.out
  have q2_0 := cell_blk G2.out 0
  have q2_1 := cell_blk G2.out 1
  have q2_2 := cell_blk G2.out 2
  have q2_l := lt_blk G2.out
  go_wp2_with fail
  refine (HW.out _).mono ?_
  rintro e w0 ⟨rfl, rfl⟩
  go_wp2_with fail
  refine (HM.out _).mono ?_
  rintro e w5 ⟨rfl, hb5⟩
  clear q0_0 q0_1 q0_2 q1_0 q1_1 q1_2 q2_0 q2_1 q2_2 q0_l q1_l q2_l
  have G0 := hide (below_blk hb5 G0.out (lt_blk G0.out))
  have G1 := hide (below_blk hb5 G1.out (lt_blk G1.out))
  have G2 := hide (below_blk hb5 G2.out (lt_blk G2.out))
  have HB5 := hide (Below.trans (HB4.out) (hb5.mono (HB4.out).size))
  clear hb5
  have q0_0 := cell_blk G0.out 0
  have q0_1 := cell_blk G0.out 1
  have q0_2 := cell_blk G0.out 2
  have q0_l := lt_blk G0.out
  have q1_0 := cell_blk G1.out 0
  have q1_1 := cell_blk G1.out 1
  have q1_2 := cell_blk G1.out 2
  have q1_l := lt_blk G1.out
  have q2_0 := cell_blk G2.out 0
  have q2_1 := cell_blk G2.out 1
  have q2_2 := cell_blk G2.out 2
  have q2_l := lt_blk G2.out
  have f0 := froz_blk G2.out 0
  have f1 := froz_blk G2.out 1
  have f2 := froz_blk G2.out 2
  go_wp2_with fail
  exact exit_spotE rfl (set3c (set3b (set3a G2.out _) _) _) rfl rfl rfl ⟨rfl, below_spot HB5.out (show w.heap.size ≤ w.heap.size + 1 + 1 by omega) _ _ _⟩
set_option maxRecDepth 100000 in
set_option maxHeartbeats 4000000 in
theorem r9minor_O {a b c d : Rat} (fa : fitsQ a) (fb : fitsQ b) (fc : fitsQ c) (fd : fitsQ d) (B : Nat) (w : World) (hB : B ≤ w.heap.size) (hT : PQ B w) :
    Calls Tryz.prog 103 #[.string (T a), .string (T b), .string (T c), .string (T d)] w (Ret w (.tuple #[.string (optT (minorO a b c d)), .int .i64 (optE (minorO a b c d))])) := by
  have HT := hide hT
  have C1 := hide (fun w hB hT => r2Mul_T fa fd B w hB hT)
  have C2 := hide (fun w hB hT => r2Mul_T fb fc B w hB hT)
  rw [opV_opt] at C1 C2
  have hm : minorO a b c d = (mulO a d).bind fun p => (mulO b c).bind fun q => subO p q := rfl
  rw [hm]
  have HF1 := hide (fun x (h : mulO a d = some x) => (mulO_some h).2)
  have HF2 := hide (fun x (h : mulO b c = some x) => (mulO_some h).2)
  have HW := hide (fun w => r9worst_at (optE (mulO a d)) (optE (mulO b c)) 0 w)
  obtain ⟨O1, hO1⟩ : ∃ O, O = mulO a d := ⟨_, rfl⟩
  obtain ⟨O2, hO2⟩ : ∃ O, O = mulO b c := ⟨_, rfl⟩
  rw [← hO1] at C1 HF1 HW ⊢
  rw [← hO2] at C2 HF2 HW ⊢
  obtain ⟨A, hA⟩ : ∃ V, V = T a := ⟨_, rfl⟩
  obtain ⟨B', hB'⟩ : ∃ V, V = T b := ⟨_, rfl⟩
  obtain ⟨C, hC⟩ : ∃ V, V = T c := ⟨_, rfl⟩
  obtain ⟨D, hD⟩ : ∃ V, V = T d := ⟨_, rfl⟩
  rw [← hA, ← hD] at C1
  rw [← hB', ← hC] at C2
  rw [← hA, ← hB', ← hC, ← hD]
  clear hA hB' hC hD hO1 hO2 hm fa fb fc fd hT
  cases O1 with
  | none =>
    obtain ⟨S2, hS2⟩ : ∃ V, V = optT O2 := ⟨_, rfl⟩
    obtain ⟨E2, hE2⟩ : ∃ V, V = optE O2 := ⟨_, rfl⟩
    rw [← hS2, ← hE2] at C2
    rw [← hE2] at HW
    dsimp only [optT, optE, Option.bind_none] at C1 HW ⊢
    rw [show worstI 4 E2 0 = 4 from rfl] at HW
    clear hS2 hE2 HF1 HF2
    go_enter Tryz.func103, Tryz.ntmps103
    go_wp2_with fail
    refine (C1.out _ hB HT.out).mono ?_
    rintro e w1 ⟨rfl, hb1⟩
    have HB1 := hide hb1
    clear hb1
    go_wp2_with fail
    refine (C2.out _ (Nat.le_trans hB HB1.out.size) (HT.out.on HB1.out hB)).mono ?_
    rintro e w2 ⟨rfl, hb2⟩
    have HB2 := hide (Below.trans (HB1.out) (hb2.mono (HB1.out).size))
    clear hb2
    go_wp2_with fail
    refine (HW.out _).mono ?_
    rintro e w0 ⟨rfl, rfl⟩
    go_wp2_with fail
    refine bodyPost_ret (results_tmp2 rfl _ _ _) rfl ?_
    exact ⟨rfl, HB2.out⟩
  | some x =>
    have fx := HF1.out x rfl
    cases O2 with
    | none =>
      dsimp only [optT, optE, Option.bind_none, Option.bind_some] at C1 C2 HW ⊢
      rw [show worstI 0 4 0 = 4 from rfl] at HW
      obtain ⟨S2, hS2⟩ : ∃ V, V = T x := ⟨_, rfl⟩
      rw [← hS2] at C1
      clear hS2 HF1 HF2 fx
      go_enter Tryz.func103, Tryz.ntmps103
      go_wp2_with fail
      refine (C1.out _ hB HT.out).mono ?_
      rintro e w1 ⟨rfl, hb1⟩
      have HB1 := hide hb1
      clear hb1
      go_wp2_with fail
      refine (C2.out _ (Nat.le_trans hB HB1.out.size) (HT.out.on HB1.out hB)).mono ?_
      rintro e w2 ⟨rfl, hb2⟩
      have HB2 := hide (Below.trans (HB1.out) (hb2.mono (HB1.out).size))
      clear hb2
      go_wp2_with fail
      refine (HW.out _).mono ?_
      rintro e w0 ⟨rfl, rfl⟩
      go_wp2_with fail
      refine bodyPost_ret (results_tmp2 rfl _ _ _) rfl ?_
      exact ⟨rfl, HB2.out⟩
    | some y =>
      have fy := HF2.out y rfl
      have C3 := hide (fun w hB hT => r2Sub_T fx fy B w hB hT)
      rw [opV_opt] at C3
      dsimp only [optT, optE] at C1 C2 HW
      dsimp only [Option.bind_some]
      rw [show worstI 0 0 0 = 0 from rfl] at HW
      obtain ⟨S1, hS1⟩ : ∃ V, V = T x := ⟨_, rfl⟩
      obtain ⟨S2, hS2⟩ : ∃ V, V = T y := ⟨_, rfl⟩
      rw [← hS1] at C1 C3
      rw [← hS2] at C2 C3
      obtain ⟨S3, hS3⟩ : ∃ V, V = optT (subO x y) := ⟨_, rfl⟩
      obtain ⟨E3, hE3⟩ : ∃ V, V = optE (subO x y) := ⟨_, rfl⟩
      rw [← hS3, ← hE3] at C3 ⊢
      clear hS1 hS2 hS3 hE3 HF1 HF2 fx fy
      go_enter Tryz.func103, Tryz.ntmps103
      go_wp2_with fail
      refine (C1.out _ hB HT.out).mono ?_
      rintro e w1 ⟨rfl, hb1⟩
      have HB1 := hide hb1
      clear hb1
      go_wp2_with fail
      refine (C2.out _ (Nat.le_trans hB HB1.out.size) (HT.out.on HB1.out hB)).mono ?_
      rintro e w2 ⟨rfl, hb2⟩
      have HB2 := hide (Below.trans (HB1.out) (hb2.mono (HB1.out).size))
      clear hb2
      go_wp2_with fail
      refine (HW.out _).mono ?_
      rintro e w0 ⟨rfl, rfl⟩
      go_wp2_with fail
      refine (C3.out _ (Nat.le_trans hB HB2.out.size) (HT.out.on HB2.out hB)).mono ?_
      rintro e w3 ⟨rfl, hb3⟩
      have HB3 := hide (Below.trans (HB2.out) (hb3.mono (HB2.out).size))
      clear hb3
      go_wp2_with fail
      refine bodyPost_ret (results_tmp2 rfl _ _ _) rfl ?_
      exact ⟨rfl, HB3.out⟩
set_option maxRecDepth 100000 in
set_option maxHeartbeats 8000000 in
theorem r9Cross_O {a b : V3} (fa : fitsV a) (fb : fitsV b) (B : Nat) (w : World) (hB : B ≤ w.heap.size) (hT : PQ B w) :
    Calls Tryz.prog 52 #[vecV a, vecV b] w (ResV w (crossO a b)) := by
  have HT := hide hT
  have HC := hide (fun w hB hT => r9both_T fa fb B w hB hT)
  have C1 := hide (fun w hB hT => r9minor_O fa.2.1 fa.2.2 fb.2.1 fb.2.2 B w hB hT)
  have C2 := hide (fun w hB hT => r9minor_O fa.2.2 fa.1 fb.2.2 fb.1 B w hB hT)
  have C3 := hide (fun w hB hT => r9minor_O fa.1 fa.2.1 fb.1 fb.2.1 B w hB hT)
  obtain ⟨O1, hO1⟩ : ∃ O, O = minorO a.y a.z b.y b.z := ⟨_, rfl⟩
  rw [← hO1] at C1
  obtain ⟨O2, hO2⟩ : ∃ O, O = minorO a.z a.x b.z b.x := ⟨_, rfl⟩
  rw [← hO2] at C2
  obtain ⟨O3, hO3⟩ : ∃ O, O = minorO a.x a.y b.x b.y := ⟨_, rfl⟩
  rw [← hO3] at C3
  rw [show crossO a b = all3 O1 O2 O3 by rw [hO1, hO2, hO3]; rfl]
  clear hO1 hO2 hO3
  have X0 := hide (heap3 w (vecO a) (vecO b) (spotO ⟨#[]⟩ ⟨#[]⟩ ⟨#[]⟩))
  refine Calls.mono ?_ (fun e w' h => madeV_O (o1 := O1) (o2 := O2) (o3 := O3) h)
  have HW := hide (fun w => r9worst_at (optE O1) (optE O2) (optE O3) w)
  have HM := hide (fun w => r9made_any (optT O1) (optT O2) (optT O3) (worstI (optE O1) (optE O2) (optE O3)) w)
  obtain ⟨V, hV⟩ : ∃ V, V = madeV (optT O1) (optT O2) (optT O3) (worstI (optE O1) (optE O2) (optE O3)) := ⟨_, rfl⟩
  have hV2 : ∃ (x y z : ByteArray) (e : Int), V = .tuple #[spotV x y z, .int .i64 e] := by
    rw [hV]
    unfold madeV
    split
    · exact ⟨_, _, _, _, rfl⟩
    · exact ⟨_, _, _, _, rfl⟩
  rw [← hV] at HM ⊢
  obtain ⟨vx, vy, vz, ve, rfl⟩ := hV2
  obtain ⟨S1, hS1⟩ : ∃ V, V = optT O1 := ⟨_, rfl⟩
  obtain ⟨S2, hS2⟩ : ∃ V, V = optT O2 := ⟨_, rfl⟩
  obtain ⟨S3, hS3⟩ : ∃ V, V = optT O3 := ⟨_, rfl⟩
  obtain ⟨E1, hE1⟩ : ∃ V, V = optE O1 := ⟨_, rfl⟩
  obtain ⟨E2, hE2⟩ : ∃ V, V = optE O2 := ⟨_, rfl⟩
  obtain ⟨E3, hE3⟩ : ∃ V, V = optE O3 := ⟨_, rfl⟩
  simp only [← hS1, ← hS2, ← hS3, ← hE1, ← hE2, ← hE3] at C1 C2 C3 HW HM
  obtain ⟨WO, hWO⟩ : ∃ V, V = worstI E1 E2 E3 := ⟨_, rfl⟩
  rw [← hWO] at HW HM
  clear hS1 hS2 hS3 hE1 hE2 hE3 hWO hV hT
  go_enter Tryz.func52, Tryz.ntmps52
  go_wp2_with fail
  refine (HC.out _ (Nat.le_trans hB X0.out.2.2.2.2.size) (HT.out.on X0.out.2.2.2.2 hB)).mono ?_
  rintro e w1 ⟨rfl, hb1⟩
  have G0 := hide (below_blk hb1 (X0.out.1) (lt_blk (X0.out.1)))
  have G1 := hide (below_blk hb1 (X0.out.2.1) (lt_blk (X0.out.2.1)))
  have G2 := hide (below_blk hb1 (X0.out.2.2.1) (lt_blk (X0.out.2.2.1)))
  have HB1 := hide (Below.trans (X0.out.2.2.2.2) (hb1.mono (X0.out.2.2.2.2).size))
  clear hb1
  have q0_0 := cell_blk G0.out 0
  have q0_1 := cell_blk G0.out 1
  have q0_2 := cell_blk G0.out 2
  have q0_l := lt_blk G0.out
  have q1_0 := cell_blk G1.out 0
  have q1_1 := cell_blk G1.out 1
  have q1_2 := cell_blk G1.out 2
  have q1_l := lt_blk G1.out
  have q2_0 := cell_blk G2.out 0
  have q2_1 := cell_blk G2.out 1
  have q2_2 := cell_blk G2.out 2
  have q2_l := lt_blk G2.out
  go_wp2_with fail
  refine (C1.out _ (Nat.le_trans hB HB1.out.size) (HT.out.on HB1.out hB)).mono ?_
  rintro e w2 ⟨rfl, hb2⟩
  clear q0_0 q0_1 q0_2 q1_0 q1_1 q1_2 q2_0 q2_1 q2_2 q0_l q1_l q2_l
  have G0 := hide (below_blk hb2 G0.out (lt_blk G0.out))
  have G1 := hide (below_blk hb2 G1.out (lt_blk G1.out))
  have G2 := hide (below_blk hb2 G2.out (lt_blk G2.out))
  have HB2 := hide (Below.trans (HB1.out) (hb2.mono (HB1.out).size))
  clear hb2
  have q0_0 := cell_blk G0.out 0
  have q0_1 := cell_blk G0.out 1
  have q0_2 := cell_blk G0.out 2
  have q0_l := lt_blk G0.out
  have q1_0 := cell_blk G1.out 0
  have q1_1 := cell_blk G1.out 1
  have q1_2 := cell_blk G1.out 2
  have q1_l := lt_blk G1.out
  have q2_0 := cell_blk G2.out 0
  have q2_1 := cell_blk G2.out 1
  have q2_2 := cell_blk G2.out 2
  have q2_l := lt_blk G2.out
  go_wp2_with fail
  refine (C2.out _ (Nat.le_trans hB HB2.out.size) (HT.out.on HB2.out hB)).mono ?_
  rintro e w3 ⟨rfl, hb3⟩
  clear q0_0 q0_1 q0_2 q1_0 q1_1 q1_2 q2_0 q2_1 q2_2 q0_l q1_l q2_l
  have G0 := hide (below_blk hb3 G0.out (lt_blk G0.out))
  have G1 := hide (below_blk hb3 G1.out (lt_blk G1.out))
  have G2 := hide (below_blk hb3 G2.out (lt_blk G2.out))
  have HB3 := hide (Below.trans (HB2.out) (hb3.mono (HB2.out).size))
  clear hb3
  have q0_0 := cell_blk G0.out 0
  have q0_1 := cell_blk G0.out 1
  have q0_2 := cell_blk G0.out 2
  have q0_l := lt_blk G0.out
  have q1_0 := cell_blk G1.out 0
  have q1_1 := cell_blk G1.out 1
  have q1_2 := cell_blk G1.out 2
  have q1_l := lt_blk G1.out
  have q2_0 := cell_blk G2.out 0
  have q2_1 := cell_blk G2.out 1
  have q2_2 := cell_blk G2.out 2
  have q2_l := lt_blk G2.out
  go_wp2_with fail
  refine (C3.out _ (Nat.le_trans hB HB3.out.size) (HT.out.on HB3.out hB)).mono ?_
  rintro e w4 ⟨rfl, hb4⟩
  clear q0_0 q0_1 q0_2 q1_0 q1_1 q1_2 q2_0 q2_1 q2_2 q0_l q1_l q2_l
  have G0 := hide (below_blk hb4 G0.out (lt_blk G0.out))
  have G1 := hide (below_blk hb4 G1.out (lt_blk G1.out))
  have G2 := hide (below_blk hb4 G2.out (lt_blk G2.out))
  have HB4 := hide (Below.trans (HB3.out) (hb4.mono (HB3.out).size))
  clear hb4
  have q0_0 := cell_blk G0.out 0
  have q0_1 := cell_blk G0.out 1
  have q0_2 := cell_blk G0.out 2
  have q0_l := lt_blk G0.out
  have q1_0 := cell_blk G1.out 0
  have q1_1 := cell_blk G1.out 1
  have q1_2 := cell_blk G1.out 2
  have q1_l := lt_blk G1.out
  have q2_0 := cell_blk G2.out 0
  have q2_1 := cell_blk G2.out 1
  have q2_2 := cell_blk G2.out 2
  have q2_l := lt_blk G2.out
  go_wp2_with fail
  refine (HW.out _).mono ?_
  rintro e w0 ⟨rfl, rfl⟩
  go_wp2_with fail
  refine (HM.out _).mono ?_
  rintro e w5 ⟨rfl, hb5⟩
  clear q0_0 q0_1 q0_2 q1_0 q1_1 q1_2 q2_0 q2_1 q2_2 q0_l q1_l q2_l
  have G0 := hide (below_blk hb5 G0.out (lt_blk G0.out))
  have G1 := hide (below_blk hb5 G1.out (lt_blk G1.out))
  have G2 := hide (below_blk hb5 G2.out (lt_blk G2.out))
  have HB5 := hide (Below.trans (HB4.out) (hb5.mono (HB4.out).size))
  clear hb5
  have q0_0 := cell_blk G0.out 0
  have q0_1 := cell_blk G0.out 1
  have q0_2 := cell_blk G0.out 2
  have q0_l := lt_blk G0.out
  have q1_0 := cell_blk G1.out 0
  have q1_1 := cell_blk G1.out 1
  have q1_2 := cell_blk G1.out 2
  have q1_l := lt_blk G1.out
  have q2_0 := cell_blk G2.out 0
  have q2_1 := cell_blk G2.out 1
  have q2_2 := cell_blk G2.out 2
  have q2_l := lt_blk G2.out
  have f0 := froz_blk G2.out 0
  have f1 := froz_blk G2.out 1
  have f2 := froz_blk G2.out 2
  go_wp2_with fail
  exact exit_spotE rfl (set3c (set3b (set3a G2.out _) _) _) rfl rfl rfl ⟨rfl, below_spot HB5.out (show w.heap.size ≤ w.heap.size + 1 + 1 by omega) _ _ _⟩
set_option maxRecDepth 100000 in
set_option maxHeartbeats 4000000 in
theorem r9Parallel_T {a b c : V3} (fa : fitsV a) (fb : fitsV b) (hc : crossO a b = some c) {is : Bool} (his : is = decide (c = vzero)) (B : Nat) (w : World) (hB : B ≤ w.heap.size) (hT : PQ B w) :
    Calls Tryz.prog 55 #[vecV a, vecV b] w (Ret w (.tuple #[.bool is, .int .i64 0])) := by
  have HT := hide hT
  have HX := hide (fun w hB hT => (r9Cross_O fa fb B w hB hT).mono fun _ _ hr => ResV.of hc hr)
  have he := fun w => eqZero c w
  simp only [← his] at he
  have X0 := hide (heap2 w (vecO a) (vecO b))
  clear his hc fa fb hT
  go_enter Tryz.func55, Tryz.ntmps55
  go_wp2_with fail
  refine (HX.out _ (Nat.le_trans hB X0.out.2.2.2.size) (HT.out.on X0.out.2.2.2 hB)).mono ?_
  rintro e w1 ⟨rfl, hb1⟩
  have X := hide (heap1 w1 (vecO c))
  have hb1 := hb1.trans (X.out.2.2.mono hb1.size)
  have G0 := hide X.out.1
  have HB1 := hide (Below.trans (X0.out.2.2.2) (hb1.mono (X0.out.2.2.2).size))
  clear hb1 X
  have q0_0 := cell_blk G0.out 0
  have q0_1 := cell_blk G0.out 1
  have q0_2 := cell_blk G0.out 2
  have q0_l := lt_blk G0.out
  go_wp2_with fail
  refine bodyPost_ret (results_tmp2 rfl _ _ _) rfl ?_
  exact ⟨rfl, HB1.out⟩
end Go.Proofs.YtbfojhneajedmaaGreatDoor
