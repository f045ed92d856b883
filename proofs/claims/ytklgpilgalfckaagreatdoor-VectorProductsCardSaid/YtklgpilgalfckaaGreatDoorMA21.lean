/-
 Texts laid together.
-/
import Derived.Test.YtklgpilgalfckaaGreatDoorMA19
import Derived.Test.YtklgpilgalfckaaGreatDoorMA20
import Derived.Test.YtklgpilgalfckaaGreatDoorMA16
import Derived.Test.YtklgpilgalfckaaGreatDoorMA15
set_option maxRecDepth 100000
set_option maxHeartbeats 16000000
namespace Go.Proofs.YtklgpilgalfckaaGreatDoor
open Go.RowKit Go.KP Go.KI Go.Shelf
attribute [local go_sem] Oper.semAt_some

def midS (V : S3) : Prop := V.x.size ≤ 1000000 ∧ V.y.size ≤ 1000000 ∧ V.z.size ≤ 1000000
abbrev txtV (V : S3) : Value := spotV V.x V.y V.z
abbrev txtO (V : S3) : Obj := spotO V.x V.y V.z
def chkV (V : S3) : Int := chk3 V.x.data.toList V.y.data.toList V.z.data.toList
theorem jw {V : S3} (h : chkV V = 0) : ∃ A : V3, fitsV A ∧ V = ⟨T A.x, T A.y, T A.z⟩ := by
 obtain ⟨c1, c2, c3⟩ := qY.1 h
 obtain ⟨e1, f1, _, _⟩ := qj c1
 obtain ⟨e2, f2, _, _⟩ := qj c2
 obtain ⟨e3, f3, _, _⟩ := qj c3
 refine ⟨⟨_, _, _⟩, ⟨f1, f2, f3⟩, ?_⟩
 cases V
 simp only [S3.mk.injEq]
 exact ⟨T_of e1, T_of e2, T_of e3⟩
theorem kq {p q : Int} (h : both3 p q = 0) : p = 0 ∧ q = 0 := by
 unfold both3 at h
 by_cases hp : p = 0
 ·rw [if_neg (by simp [hp])] at h
  exact ⟨hp, h⟩
 ·rw [if_pos hp] at h
  exact absurd h hp
def resV : Option V3 → Value
 |some v => .tuple #[vecV v, .int .i64 0]
 |none => .tuple #[noV, .int .i64 4]
theorem ResV.opt {w : World} {o : Option V3} {e : Ending} {w' : World} (hr : ResV w o e w') : Ret w (resV o) e w' := by
 rcases hr with ⟨v, rfl, h2⟩ | ⟨rfl, h2⟩
 ·exact h2
 ·exact h2
theorem ygL {V U : S3} {E : Int} (hV : midS V) (hU : midS U) (hE : both3 (chkV V) (chkV U) = E) (h0 : E ≠ 0) (B : Nat) (w : World) (hB : B ≤ w.heap.size) (hT : PQ B w) :
 Calls Tryz.prog 17 #[txtV V, txtV U] w (Ret w (.tuple #[.string ⟨#[]⟩, .int .i64 E])) := by
 have HT := hide hT
 have HC := hide (fun w hB hT => yab V.x V.y V.z U.x U.y U.z hV.1 hV.2.1 hV.2.2 hU.1 hU.2.1 hU.2.2 B w hB hT)
 rw [show both3 (chk3 V.x.data.toList V.y.data.toList V.z.data.toList) (chk3 U.x.data.toList U.y.data.toList U.z.data.toList) = E from hE] at HC
 have hne : (E != 0) = true := by simpa using h0
 have hne2 : (E == 0) = false := by simpa using h0
 have X0 := hide (heap2 w (txtO V) (txtO U))
 clear hV hU hE h0 hT
 go_enter Tryz.func17, Tryz.ntmps17
 go_wp2_with fail
 refine (HC.out _ (Nat.le_trans hB X0.out.2.2.2.size) (HT.out.on X0.out.2.2.2 hB)).mono ?_
 rintro e w1 ⟨rfl, hb1⟩
 have HB1 := hide (Below.trans (X0.out.2.2.2) (hb1.mono (X0.out.2.2.2).size))
 clear hb1
 go_wp2_with fail
 refine bodyPost_ret (results_tmp2 rfl _ _ _) rfl ?_
 exact ⟨rfl, HB1.out⟩
theorem yb5 {V U : S3} {E : Int} (hV : midS V) (hU : midS U) (hE : both3 (chkV V) (chkV U) = E) (h0 : E ≠ 0) (B : Nat) (w : World) (hB : B ≤ w.heap.size) (hT : PQ B w) :
 Calls Tryz.prog 18 #[txtV V, txtV U] w (Ret w (.tuple #[.string ⟨#[]⟩, .int .i64 E])) := by
 have HT := hide hT
 have HC := hide (fun w hB hT => xY V.x V.y V.z U.x U.y U.z hV.1 hV.2.1 hV.2.2 hU.1 hU.2.1 hU.2.2 B w hB hT)
 rw [show both3 (chk3 V.x.data.toList V.y.data.toList V.z.data.toList) (chk3 U.x.data.toList U.y.data.toList U.z.data.toList) = E from hE] at HC
 have hne : (E != 0) = true := by simpa using h0
 have hne2 : (E == 0) = false := by simpa using h0
 have X0 := hide (heap2 w (txtO V) (txtO U))
 clear hV hU hE h0 hT
 go_enter Tryz.func18, Tryz.ntmps18
 go_wp2_with fail
 refine (HC.out _ (Nat.le_trans hB X0.out.2.2.2.size) (HT.out.on X0.out.2.2.2 hB)).mono ?_
 rintro e w1 ⟨rfl, hb1⟩
 have HB1 := hide (Below.trans (X0.out.2.2.2) (hb1.mono (X0.out.2.2.2).size))
 clear hb1
 go_wp2_with fail
 refine bodyPost_ret (results_tmp2 rfl _ _ _) rfl ?_
 exact ⟨rfl, HB1.out⟩
theorem yaZ {V U : S3} {E : Int} (hV : midS V) (hU : midS U) (hE : both3 (chkV V) (chkV U) = E) (h0 : E ≠ 0) (B : Nat) (w : World) (hB : B ≤ w.heap.size) (hT : PQ B w) :
 Calls Tryz.prog 19 #[txtV V, txtV U] w (Ret w (.tuple #[noV, .int .i64 E])) := by
 have HT := hide hT
 have HC := hide (fun w hB hT => yab V.x V.y V.z U.x U.y U.z hV.1 hV.2.1 hV.2.2 hU.1 hU.2.1 hU.2.2 B w hB hT)
 rw [show both3 (chk3 V.x.data.toList V.y.data.toList V.z.data.toList) (chk3 U.x.data.toList U.y.data.toList U.z.data.toList) = E from hE] at HC
 have hne : (E != 0) = true := by simpa using h0
 have hne2 : (E == 0) = false := by simpa using h0
 have X0 := hide (heap3 w (txtO V) (txtO U) (spotO ⟨#[]⟩ ⟨#[]⟩ ⟨#[]⟩))
 clear hV hU hE h0 hT
 go_enter Tryz.func19, Tryz.ntmps19
 go_wp2_with fail
 refine (HC.out _ (Nat.le_trans hB X0.out.2.2.2.2.size) (HT.out.on X0.out.2.2.2.2 hB)).mono ?_
 rintro e w1 ⟨rfl, hb1⟩
 have G0 := hide (yc hb1 (X0.out.2.2.1) (yd (X0.out.2.2.1)))
 have HB1 := hide (Below.trans (X0.out.2.2.2.2) (hb1.mono (X0.out.2.2.2.2).size))
 clear hb1
 have q0_0 := ya G0.out 0
 have q0_1 := ya G0.out 1
 have q0_2 := ya G0.out 2
 have q0_l := yd G0.out
 have f0 := yf G0.out 0
 have f1 := yf G0.out 1
 have f2 := yf G0.out 2
 go_wp2_with fail
 exact yz rfl (set3c (set3b (set3a G0.out _) _) _) rfl rfl rfl ⟨rfl, yA HB1.out (show w.heap.size ≤ w.heap.size + 1 + 1 by omega) _ _ _⟩
theorem wH {V U : S3} {E : Int} (hV : midS V) (hU : midS U) (hE : both3 (chkV V) (chkV U) = E) (h0 : E ≠ 0) (B : Nat) (w : World) (hB : B ≤ w.heap.size) (hT : PQ B w) :
 Calls Tryz.prog 20 #[txtV V, txtV U] w (Ret w (.tuple #[noV, .int .i64 E])) := by
 have HT := hide hT
 have HC := hide (fun w hB hT => xY V.x V.y V.z U.x U.y U.z hV.1 hV.2.1 hV.2.2 hU.1 hU.2.1 hU.2.2 B w hB hT)
 rw [show both3 (chk3 V.x.data.toList V.y.data.toList V.z.data.toList) (chk3 U.x.data.toList U.y.data.toList U.z.data.toList) = E from hE] at HC
 have hne : (E != 0) = true := by simpa using h0
 have hne2 : (E == 0) = false := by simpa using h0
 have X0 := hide (heap3 w (txtO V) (txtO U) (spotO ⟨#[]⟩ ⟨#[]⟩ ⟨#[]⟩))
 clear hV hU hE h0 hT
 go_enter Tryz.func20, Tryz.ntmps20
 go_wp2_with fail
 refine (HC.out _ (Nat.le_trans hB X0.out.2.2.2.2.size) (HT.out.on X0.out.2.2.2.2 hB)).mono ?_
 rintro e w1 ⟨rfl, hb1⟩
 have G0 := hide (yc hb1 (X0.out.2.2.1) (yd (X0.out.2.2.1)))
 have HB1 := hide (Below.trans (X0.out.2.2.2.2) (hb1.mono (X0.out.2.2.2.2).size))
 clear hb1
 have q0_0 := ya G0.out 0
 have q0_1 := ya G0.out 1
 have q0_2 := ya G0.out 2
 have q0_l := yd G0.out
 have f0 := yf G0.out 0
 have f1 := yf G0.out 1
 have f2 := yf G0.out 2
 go_wp2_with fail
 exact yz rfl (set3c (set3b (set3a G0.out _) _) _) rfl rfl rfl ⟨rfl, yA HB1.out (show w.heap.size ≤ w.heap.size + 1 + 1 by omega) _ _ _⟩
theorem xh {V U : S3} {E : Int} {B : Nat} (h0 : E ≠ 0) (HC : Hid (∀ w, B ≤ w.heap.size → PQ B w → Calls Tryz.prog 19 #[txtV V, txtV U] w (Ret w (.tuple #[noV, .int .i64 E])))) (w : World) (hB : B ≤ w.heap.size) (hT : PQ B w) :
 Calls Tryz.prog 23 #[txtV V, txtV U] w (Ret w (.tuple #[.bool false, .int .i64 E])) := by
 have HT := hide hT
 have hne : (E != 0) = true := by simpa using h0
 have hne2 : (E == 0) = false := by simpa using h0
 have X0 := hide (heap2 w (txtO V) (txtO U))
 clear h0 hT
 go_enter Tryz.func23, Tryz.ntmps23
 go_wp2_with fail
 refine (HC.out _ (Nat.le_trans hB X0.out.2.2.2.size) (HT.out.on X0.out.2.2.2 hB)).mono ?_
 rintro e w1 ⟨rfl, hb1⟩
 have X := hide (heap1 w1 (spotO ⟨#[]⟩ ⟨#[]⟩ ⟨#[]⟩))
 have hb1 := hb1.trans (X.out.2.2.mono hb1.size)
 have G0 := hide X.out.1
 have HB1 := hide (Below.trans (X0.out.2.2.2) (hb1.mono (X0.out.2.2.2).size))
 clear hb1 X
 have q0_0 := ya G0.out 0
 have q0_1 := ya G0.out 1
 have q0_2 := ya G0.out 2
 have q0_l := yd G0.out
 go_wp2_with fail
 refine bodyPost_ret (results_tmp2 rfl _ _ _) rfl ?_
 exact ⟨rfl, HB1.out⟩
theorem vE {V U : S3} {E : Int} {B : Nat} (h0 : E ≠ 0) (HC : Hid (∀ w, B ≤ w.heap.size → PQ B w → Calls Tryz.prog 20 #[txtV V, txtV U] w (Ret w (.tuple #[noV, .int .i64 E])))) (w : World) (hB : B ≤ w.heap.size) (hT : PQ B w) :
 Calls Tryz.prog 24 #[txtV V, txtV U] w (Ret w (.tuple #[.bool false, .int .i64 E])) := by
 have HT := hide hT
 have hne : (E != 0) = true := by simpa using h0
 have hne2 : (E == 0) = false := by simpa using h0
 have X0 := hide (heap2 w (txtO V) (txtO U))
 clear h0 hT
 go_enter Tryz.func24, Tryz.ntmps24
 go_wp2_with fail
 refine (HC.out _ (Nat.le_trans hB X0.out.2.2.2.size) (HT.out.on X0.out.2.2.2 hB)).mono ?_
 rintro e w1 ⟨rfl, hb1⟩
 have X := hide (heap1 w1 (spotO ⟨#[]⟩ ⟨#[]⟩ ⟨#[]⟩))
 have hb1 := hb1.trans (X.out.2.2.mono hb1.size)
 have G0 := hide X.out.1
 have HB1 := hide (Below.trans (X0.out.2.2.2) (hb1.mono (X0.out.2.2.2).size))
 clear hb1 X
 have q0_0 := ya G0.out 0
 have q0_1 := ya G0.out 1
 have q0_2 := ya G0.out 2
 have q0_l := yd G0.out
 go_wp2_with fail
 refine bodyPost_ret (results_tmp2 rfl _ _ _) rfl ?_
 exact ⟨rfl, HB1.out⟩
theorem yc4 {o1 o2 o3 : Option Rat} : (worstI (optE o1) (optE o2) (optE o3) = 4 ∧ ∀ f : V3 → Option Rat, (all3 o1 o2 o3).bind f = none) ∨ ∃ x y z, o1 = some x ∧ o2 = some y ∧ o3 = some z := by
 cases o1 with
 |none => exact .inl ⟨rfl, fun f => rfl⟩
 |some x => cases o2 with
  |none => exact .inl ⟨rfl, fun f => rfl⟩
  |some y => cases o3 with
   |none => exact .inl ⟨rfl, fun f => rfl⟩
   |some z => exact .inr ⟨x, y, z, rfl, rfl, rfl⟩
theorem yfB {a b : V3} (fa : fitsV a) (fb : fitsV b) (B : Nat) (w : World) (hB : B ≤ w.heap.size) (hT : PQ B w) :
 Calls Tryz.prog 18 #[vecV a, vecV b] w (Ret w (.tuple #[.string (optT (dotO a b)), .int .i64 (optE (dotO a b))])) := by
 have HT := hide hT
 have HC := hide (fun w hB hT => yee fa fb B w hB hT)
 have C1 := hide (fun w hB hT => wg fa.1 fb.1 B w hB hT)
 have C2 := hide (fun w hB hT => wg fa.2.1 fb.2.1 B w hB hT)
 have C3 := hide (fun w hB hT => wg fa.2.2 fb.2.2 B w hB hT)
 rw [wm] at C1 C2 C3
 have hd : dotO a b = (all3 (mulO a.x b.x) (mulO a.y b.y) (mulO a.z b.z)).bind sum3O := rfl
 rw [hd]
 have HF1 := hide (fun x (h : mulO a.x b.x = some x) => (yY h).2)
 have HF2 := hide (fun x (h : mulO a.y b.y = some x) => (yY h).2)
 have HF3 := hide (fun x (h : mulO a.z b.z = some x) => (yY h).2)
 obtain ⟨O1, hO1⟩ := xe (mulO a.x b.x)
 obtain ⟨O2, hO2⟩ := xe (mulO a.y b.y)
 obtain ⟨O3, hO3⟩ := xe (mulO a.z b.z)
 rw [← hO1] at C1 HF1 ⊢
 rw [← hO2] at C2 HF2 ⊢
 rw [← hO3] at C3 HF3 ⊢
 have X0 := hide (heap2 w (vecO a) (vecO b))
 have HW := hide (fun w => ki (optE O1) (optE O2) (optE O3) w)
 clear hO1 hO2 hO3 hd fa fb hT
 rcases yc4 (o1 := O1) (o2 := O2) (o3 := O3) with ⟨h4, hn⟩ | ⟨x, y, z, rfl, rfl, rfl⟩
 ·rw [hn sum3O]
  rw [h4] at HW
  dsimp only [optT, optE]
  obtain ⟨S1, hS1⟩ := xe (optT O1)
  obtain ⟨S2, hS2⟩ := xe (optT O2)
  obtain ⟨S3, hS3⟩ := xe (optT O3)
  obtain ⟨E1, hE1⟩ := xe (optE O1)
  obtain ⟨E2, hE2⟩ := xe (optE O2)
  obtain ⟨E3, hE3⟩ := xe (optE O3)
  simp only [← hS1, ← hS2, ← hS3, ← hE1, ← hE2, ← hE3] at C1 C2 C3 HW
  clear hS1 hS2 hS3 hE1 hE2 hE3 h4 hn HF1 HF2 HF3
  go_enter Tryz.func18, Tryz.ntmps18
  go_wp2_with fail
  refine (HC.out _ (Nat.le_trans hB X0.out.2.2.2.size) (HT.out.on X0.out.2.2.2 hB)).mono ?_
  rintro e w1 ⟨rfl, hb1⟩
  have G0 := hide (yc hb1 (X0.out.1) (yd (X0.out.1)))
  have G1 := hide (yc hb1 (X0.out.2.1) (yd (X0.out.2.1)))
  have HB1 := hide (Below.trans (X0.out.2.2.2) (hb1.mono (X0.out.2.2.2).size))
  clear hb1
  have q0_0 := ya G0.out 0
  have q0_1 := ya G0.out 1
  have q0_2 := ya G0.out 2
  have q0_l := yd G0.out
  have q1_0 := ya G1.out 0
  have q1_1 := ya G1.out 1
  have q1_2 := ya G1.out 2
  have q1_l := yd G1.out
  go_wp2_with fail
  refine (C1.out _ (Nat.le_trans hB HB1.out.size) (HT.out.on HB1.out hB)).mono ?_
  rintro e w2 ⟨rfl, hb2⟩
  clear q0_0 q0_1 q0_2 q1_0 q1_1 q1_2 q0_l q1_l
  have G0 := bh hb2 G0
  have G1 := bh hb2 G1
  have HB2 := hide (Below.trans (HB1.out) (hb2.mono (HB1.out).size))
  clear hb2
  have q0_0 := ya G0.out 0
  have q0_1 := ya G0.out 1
  have q0_2 := ya G0.out 2
  have q0_l := yd G0.out
  have q1_0 := ya G1.out 0
  have q1_1 := ya G1.out 1
  have q1_2 := ya G1.out 2
  have q1_l := yd G1.out
  go_wp2_with fail
  refine (C2.out _ (Nat.le_trans hB HB2.out.size) (HT.out.on HB2.out hB)).mono ?_
  rintro e w3 ⟨rfl, hb3⟩
  clear q0_0 q0_1 q0_2 q1_0 q1_1 q1_2 q0_l q1_l
  have G0 := bh hb3 G0
  have G1 := bh hb3 G1
  have HB3 := hide (Below.trans (HB2.out) (hb3.mono (HB2.out).size))
  clear hb3
  have q0_0 := ya G0.out 0
  have q0_1 := ya G0.out 1
  have q0_2 := ya G0.out 2
  have q0_l := yd G0.out
  have q1_0 := ya G1.out 0
  have q1_1 := ya G1.out 1
  have q1_2 := ya G1.out 2
  have q1_l := yd G1.out
  go_wp2_with fail
  refine (C3.out _ (Nat.le_trans hB HB3.out.size) (HT.out.on HB3.out hB)).mono ?_
  rintro e w4 ⟨rfl, hb4⟩
  clear q0_0 q0_1 q0_2 q1_0 q1_1 q1_2 q0_l q1_l
  have G0 := bh hb4 G0
  have G1 := bh hb4 G1
  have HB4 := hide (Below.trans (HB3.out) (hb4.mono (HB3.out).size))
  clear hb4
  have q0_0 := ya G0.out 0
  have q0_1 := ya G0.out 1
  have q0_2 := ya G0.out 2
  have q0_l := yd G0.out
  have q1_0 := ya G1.out 0
  have q1_1 := ya G1.out 1
  have q1_2 := ya G1.out 2
  have q1_l := yd G1.out
  go_wp2_with fail
  refine (HW.out _).mono ?_
  rintro e w0 ⟨rfl, rfl⟩
  go_wp2_with fail
  refine bodyPost_ret (results_tmp2 rfl _ _ _) rfl ?_
  exact ⟨rfl, HB4.out⟩
 ·have fx := HF1.out x rfl
  have fy := HF2.out y rfl
  have fz := HF3.out z rfl
  have C4 := hide (fun w hB hT => yf0 fx fy B w hB hT)
  rw [wm] at C4
  have HG := hide (fun s (h : addO x y = some s) => (xr h).2)
  rw [show (all3 (some x) (some y) (some z)).bind sum3O = (addO x y).bind fun s => addO s z from rfl]
  dsimp only [optT, optE] at C1 C2 C3 HW
  rw [show worstI 0 0 0 = 0 from rfl] at HW
  obtain ⟨O4, hO4⟩ := xe (addO x y)
  rw [← hO4] at C4 HG ⊢
  clear hO4
  cases O4 with
  |none =>
   dsimp only [optT, optE, Option.bind_none] at C4 ⊢
   obtain ⟨S1, hS1⟩ := xe (T x)
   obtain ⟨S2, hS2⟩ := xe (T y)
   obtain ⟨S3, hS3⟩ := xe (T z)
   rw [← hS1] at C1 C4
   rw [← hS2] at C2 C4
   rw [← hS3] at C3
   clear hS1 hS2 hS3 HF1 HF2 HF3 HG fx fy fz
   go_enter Tryz.func18, Tryz.ntmps18
   go_wp2_with fail
   refine (HC.out _ (Nat.le_trans hB X0.out.2.2.2.size) (HT.out.on X0.out.2.2.2 hB)).mono ?_
   rintro e w1 ⟨rfl, hb1⟩
   have G0 := hide (yc hb1 (X0.out.1) (yd (X0.out.1)))
   have G1 := hide (yc hb1 (X0.out.2.1) (yd (X0.out.2.1)))
   have HB1 := hide (Below.trans (X0.out.2.2.2) (hb1.mono (X0.out.2.2.2).size))
   clear hb1
   have q0_0 := ya G0.out 0
   have q0_1 := ya G0.out 1
   have q0_2 := ya G0.out 2
   have q0_l := yd G0.out
   have q1_0 := ya G1.out 0
   have q1_1 := ya G1.out 1
   have q1_2 := ya G1.out 2
   have q1_l := yd G1.out
   go_wp2_with fail
   refine (C1.out _ (Nat.le_trans hB HB1.out.size) (HT.out.on HB1.out hB)).mono ?_
   rintro e w2 ⟨rfl, hb2⟩
   clear q0_0 q0_1 q0_2 q1_0 q1_1 q1_2 q0_l q1_l
   have G0 := bh hb2 G0
   have G1 := bh hb2 G1
   have HB2 := hide (Below.trans (HB1.out) (hb2.mono (HB1.out).size))
   clear hb2
   have q0_0 := ya G0.out 0
   have q0_1 := ya G0.out 1
   have q0_2 := ya G0.out 2
   have q0_l := yd G0.out
   have q1_0 := ya G1.out 0
   have q1_1 := ya G1.out 1
   have q1_2 := ya G1.out 2
   have q1_l := yd G1.out
   go_wp2_with fail
   refine (C2.out _ (Nat.le_trans hB HB2.out.size) (HT.out.on HB2.out hB)).mono ?_
   rintro e w3 ⟨rfl, hb3⟩
   clear q0_0 q0_1 q0_2 q1_0 q1_1 q1_2 q0_l q1_l
   have G0 := bh hb3 G0
   have G1 := bh hb3 G1
   have HB3 := hide (Below.trans (HB2.out) (hb3.mono (HB2.out).size))
   clear hb3
   have q0_0 := ya G0.out 0
   have q0_1 := ya G0.out 1
   have q0_2 := ya G0.out 2
   have q0_l := yd G0.out
   have q1_0 := ya G1.out 0
   have q1_1 := ya G1.out 1
   have q1_2 := ya G1.out 2
   have q1_l := yd G1.out
   go_wp2_with fail
   refine (C3.out _ (Nat.le_trans hB HB3.out.size) (HT.out.on HB3.out hB)).mono ?_
   rintro e w4 ⟨rfl, hb4⟩
   clear q0_0 q0_1 q0_2 q1_0 q1_1 q1_2 q0_l q1_l
   have G0 := bh hb4 G0
   have G1 := bh hb4 G1
   have HB4 := hide (Below.trans (HB3.out) (hb4.mono (HB3.out).size))
   clear hb4
   have q0_0 := ya G0.out 0
   have q0_1 := ya G0.out 1
   have q0_2 := ya G0.out 2
   have q0_l := yd G0.out
   have q1_0 := ya G1.out 0
   have q1_1 := ya G1.out 1
   have q1_2 := ya G1.out 2
   have q1_l := yd G1.out
   go_wp2_with fail
   refine (HW.out _).mono ?_
   rintro e w0 ⟨rfl, rfl⟩
   go_wp2_with fail
   refine (C4.out _ (Nat.le_trans hB HB4.out.size) (HT.out.on HB4.out hB)).mono ?_
   rintro e w5 ⟨rfl, hb5⟩
   clear q0_0 q0_1 q0_2 q1_0 q1_1 q1_2 q0_l q1_l
   have G0 := bh hb5 G0
   have G1 := bh hb5 G1
   have HB5 := hide (Below.trans (HB4.out) (hb5.mono (HB4.out).size))
   clear hb5
   have q0_0 := ya G0.out 0
   have q0_1 := ya G0.out 1
   have q0_2 := ya G0.out 2
   have q0_l := yd G0.out
   have q1_0 := ya G1.out 0
   have q1_1 := ya G1.out 1
   have q1_2 := ya G1.out 2
   have q1_l := yd G1.out
   go_wp2_with fail
   refine bodyPost_ret (results_tmp2 rfl _ _ _) rfl ?_
   exact ⟨rfl, HB5.out⟩
  |some s =>
   have fs := HG.out s rfl
   have C5 := hide (fun w hB hT => yf0 fs fz B w hB hT)
   rw [wm] at C5
   dsimp only [optT, optE] at C4
   dsimp only [Option.bind_some]
   obtain ⟨S1, hS1⟩ := xe (T x)
   obtain ⟨S2, hS2⟩ := xe (T y)
   obtain ⟨S3, hS3⟩ := xe (T z)
   obtain ⟨S4, hS4⟩ := xe (T s)
   rw [← hS1] at C1 C4
   rw [← hS2] at C2 C4
   rw [← hS3] at C3 C5
   rw [← hS4] at C4 C5
   have h5 : (∃ V, optT (addO s z) = V ∧ optE (addO s z) = 0) ∨ (optT (addO s z) = ⟨#[]⟩ ∧ optE (addO s z) = 4) := by
    cases addO s z with
    |none => exact .inr ⟨rfl, rfl⟩
    |some r => exact .inl ⟨_, rfl, rfl⟩
   clear hS1 hS2 hS3 hS4 HF1 HF2 HF3 HG fx fy fz fs
   rcases h5 with ⟨V, h5, h6⟩ | ⟨h5, h6⟩
   ·rw [h5, h6] at C5 ⊢
    clear h5 h6
    go_enter Tryz.func18, Tryz.ntmps18
    go_wp2_with fail
    refine (HC.out _ (Nat.le_trans hB X0.out.2.2.2.size) (HT.out.on X0.out.2.2.2 hB)).mono ?_
    rintro e w1 ⟨rfl, hb1⟩
    have G0 := hide (yc hb1 (X0.out.1) (yd (X0.out.1)))
    have G1 := hide (yc hb1 (X0.out.2.1) (yd (X0.out.2.1)))
    have HB1 := hide (Below.trans (X0.out.2.2.2) (hb1.mono (X0.out.2.2.2).size))
    clear hb1
    have q0_0 := ya G0.out 0
    have q0_1 := ya G0.out 1
    have q0_2 := ya G0.out 2
    have q0_l := yd G0.out
    have q1_0 := ya G1.out 0
    have q1_1 := ya G1.out 1
    have q1_2 := ya G1.out 2
    have q1_l := yd G1.out
    go_wp2_with fail
    refine (C1.out _ (Nat.le_trans hB HB1.out.size) (HT.out.on HB1.out hB)).mono ?_
    rintro e w2 ⟨rfl, hb2⟩
    clear q0_0 q0_1 q0_2 q1_0 q1_1 q1_2 q0_l q1_l
    have G0 := bh hb2 G0
    have G1 := bh hb2 G1
    have HB2 := hide (Below.trans (HB1.out) (hb2.mono (HB1.out).size))
    clear hb2
    have q0_0 := ya G0.out 0
    have q0_1 := ya G0.out 1
    have q0_2 := ya G0.out 2
    have q0_l := yd G0.out
    have q1_0 := ya G1.out 0
    have q1_1 := ya G1.out 1
    have q1_2 := ya G1.out 2
    have q1_l := yd G1.out
    go_wp2_with fail
    refine (C2.out _ (Nat.le_trans hB HB2.out.size) (HT.out.on HB2.out hB)).mono ?_
    rintro e w3 ⟨rfl, hb3⟩
    clear q0_0 q0_1 q0_2 q1_0 q1_1 q1_2 q0_l q1_l
    have G0 := bh hb3 G0
    have G1 := bh hb3 G1
    have HB3 := hide (Below.trans (HB2.out) (hb3.mono (HB2.out).size))
    clear hb3
    have q0_0 := ya G0.out 0
    have q0_1 := ya G0.out 1
    have q0_2 := ya G0.out 2
    have q0_l := yd G0.out
    have q1_0 := ya G1.out 0
    have q1_1 := ya G1.out 1
    have q1_2 := ya G1.out 2
    have q1_l := yd G1.out
    go_wp2_with fail
    refine (C3.out _ (Nat.le_trans hB HB3.out.size) (HT.out.on HB3.out hB)).mono ?_
    rintro e w4 ⟨rfl, hb4⟩
    clear q0_0 q0_1 q0_2 q1_0 q1_1 q1_2 q0_l q1_l
    have G0 := bh hb4 G0
    have G1 := bh hb4 G1
    have HB4 := hide (Below.trans (HB3.out) (hb4.mono (HB3.out).size))
    clear hb4
    have q0_0 := ya G0.out 0
    have q0_1 := ya G0.out 1
    have q0_2 := ya G0.out 2
    have q0_l := yd G0.out
    have q1_0 := ya G1.out 0
    have q1_1 := ya G1.out 1
    have q1_2 := ya G1.out 2
    have q1_l := yd G1.out
    go_wp2_with fail
    refine (HW.out _).mono ?_
    rintro e w0 ⟨rfl, rfl⟩
    go_wp2_with fail
    refine (C4.out _ (Nat.le_trans hB HB4.out.size) (HT.out.on HB4.out hB)).mono ?_
    rintro e w5 ⟨rfl, hb5⟩
    clear q0_0 q0_1 q0_2 q1_0 q1_1 q1_2 q0_l q1_l
    have G0 := bh hb5 G0
    have G1 := bh hb5 G1
    have HB5 := hide (Below.trans (HB4.out) (hb5.mono (HB4.out).size))
    clear hb5
    have q0_0 := ya G0.out 0
    have q0_1 := ya G0.out 1
    have q0_2 := ya G0.out 2
    have q0_l := yd G0.out
    have q1_0 := ya G1.out 0
    have q1_1 := ya G1.out 1
    have q1_2 := ya G1.out 2
    have q1_l := yd G1.out
    go_wp2_with fail
    refine (C5.out _ (Nat.le_trans hB HB5.out.size) (HT.out.on HB5.out hB)).mono ?_
    rintro e w6 ⟨rfl, hb6⟩
    clear q0_0 q0_1 q0_2 q1_0 q1_1 q1_2 q0_l q1_l
    have G0 := bh hb6 G0
    have G1 := bh hb6 G1
    have HB6 := hide (Below.trans (HB5.out) (hb6.mono (HB5.out).size))
    clear hb6
    have q0_0 := ya G0.out 0
    have q0_1 := ya G0.out 1
    have q0_2 := ya G0.out 2
    have q0_l := yd G0.out
    have q1_0 := ya G1.out 0
    have q1_1 := ya G1.out 1
    have q1_2 := ya G1.out 2
    have q1_l := yd G1.out
    go_wp2_with fail
    refine bodyPost_ret (results_tmp2 rfl _ _ _) rfl ?_
    exact ⟨rfl, HB6.out⟩
   ·rw [h5, h6] at C5 ⊢
    clear h5 h6
    go_enter Tryz.func18, Tryz.ntmps18
    go_wp2_with fail
    refine (HC.out _ (Nat.le_trans hB X0.out.2.2.2.size) (HT.out.on X0.out.2.2.2 hB)).mono ?_
    rintro e w1 ⟨rfl, hb1⟩
    have G0 := hide (yc hb1 (X0.out.1) (yd (X0.out.1)))
    have G1 := hide (yc hb1 (X0.out.2.1) (yd (X0.out.2.1)))
    have HB1 := hide (Below.trans (X0.out.2.2.2) (hb1.mono (X0.out.2.2.2).size))
    clear hb1
    have q0_0 := ya G0.out 0
    have q0_1 := ya G0.out 1
    have q0_2 := ya G0.out 2
    have q0_l := yd G0.out
    have q1_0 := ya G1.out 0
    have q1_1 := ya G1.out 1
    have q1_2 := ya G1.out 2
    have q1_l := yd G1.out
    go_wp2_with fail
    refine (C1.out _ (Nat.le_trans hB HB1.out.size) (HT.out.on HB1.out hB)).mono ?_
    rintro e w2 ⟨rfl, hb2⟩
    clear q0_0 q0_1 q0_2 q1_0 q1_1 q1_2 q0_l q1_l
    have G0 := bh hb2 G0
    have G1 := bh hb2 G1
    have HB2 := hide (Below.trans (HB1.out) (hb2.mono (HB1.out).size))
    clear hb2
    have q0_0 := ya G0.out 0
    have q0_1 := ya G0.out 1
    have q0_2 := ya G0.out 2
    have q0_l := yd G0.out
    have q1_0 := ya G1.out 0
    have q1_1 := ya G1.out 1
    have q1_2 := ya G1.out 2
    have q1_l := yd G1.out
    go_wp2_with fail
    refine (C2.out _ (Nat.le_trans hB HB2.out.size) (HT.out.on HB2.out hB)).mono ?_
    rintro e w3 ⟨rfl, hb3⟩
    clear q0_0 q0_1 q0_2 q1_0 q1_1 q1_2 q0_l q1_l
    have G0 := bh hb3 G0
    have G1 := bh hb3 G1
    have HB3 := hide (Below.trans (HB2.out) (hb3.mono (HB2.out).size))
    clear hb3
    have q0_0 := ya G0.out 0
    have q0_1 := ya G0.out 1
    have q0_2 := ya G0.out 2
    have q0_l := yd G0.out
    have q1_0 := ya G1.out 0
    have q1_1 := ya G1.out 1
    have q1_2 := ya G1.out 2
    have q1_l := yd G1.out
    go_wp2_with fail
    refine (C3.out _ (Nat.le_trans hB HB3.out.size) (HT.out.on HB3.out hB)).mono ?_
    rintro e w4 ⟨rfl, hb4⟩
    clear q0_0 q0_1 q0_2 q1_0 q1_1 q1_2 q0_l q1_l
    have G0 := bh hb4 G0
    have G1 := bh hb4 G1
    have HB4 := hide (Below.trans (HB3.out) (hb4.mono (HB3.out).size))
    clear hb4
    have q0_0 := ya G0.out 0
    have q0_1 := ya G0.out 1
    have q0_2 := ya G0.out 2
    have q0_l := yd G0.out
    have q1_0 := ya G1.out 0
    have q1_1 := ya G1.out 1
    have q1_2 := ya G1.out 2
    have q1_l := yd G1.out
    go_wp2_with fail
    refine (HW.out _).mono ?_
    rintro e w0 ⟨rfl, rfl⟩
    go_wp2_with fail
    refine (C4.out _ (Nat.le_trans hB HB4.out.size) (HT.out.on HB4.out hB)).mono ?_
    rintro e w5 ⟨rfl, hb5⟩
    clear q0_0 q0_1 q0_2 q1_0 q1_1 q1_2 q0_l q1_l
    have G0 := bh hb5 G0
    have G1 := bh hb5 G1
    have HB5 := hide (Below.trans (HB4.out) (hb5.mono (HB4.out).size))
    clear hb5
    have q0_0 := ya G0.out 0
    have q0_1 := ya G0.out 1
    have q0_2 := ya G0.out 2
    have q0_l := yd G0.out
    have q1_0 := ya G1.out 0
    have q1_1 := ya G1.out 1
    have q1_2 := ya G1.out 2
    have q1_l := yd G1.out
    go_wp2_with fail
    refine (C5.out _ (Nat.le_trans hB HB5.out.size) (HT.out.on HB5.out hB)).mono ?_
    rintro e w6 ⟨rfl, hb6⟩
    clear q0_0 q0_1 q0_2 q1_0 q1_1 q1_2 q0_l q1_l
    have G0 := bh hb6 G0
    have G1 := bh hb6 G1
    have HB6 := hide (Below.trans (HB5.out) (hb6.mono (HB5.out).size))
    clear hb6
    have q0_0 := ya G0.out 0
    have q0_1 := ya G0.out 1
    have q0_2 := ya G0.out 2
    have q0_l := yd G0.out
    have q1_0 := ya G1.out 0
    have q1_1 := ya G1.out 1
    have q1_2 := ya G1.out 2
    have q1_l := yd G1.out
    go_wp2_with fail
    refine bodyPost_ret (results_tmp2 rfl _ _ _) rfl ?_
    exact ⟨rfl, HB6.out⟩
theorem ygC (V U : S3) (hV : midS V) (hU : midS U) (B : Nat) : ∃ (s : ByteArray) (e : Int), Hid (∀ w, B ≤ w.heap.size → PQ B w → Calls Tryz.prog 17 #[txtV V, txtV U] w (Ret w (.tuple #[.string s, .int .i64 e]))) ∧ Hid (∀ w, B ≤ w.heap.size → PQ B w → Calls Tryz.prog 18 #[txtV V, txtV U] w (Ret w (.tuple #[.string s, .int .i64 e]))) := by
 by_cases h : both3 (chkV V) (chkV U) = 0
 ·obtain ⟨h1, h2⟩ := kq h
  obtain ⟨a, fa, rfl⟩ := jw h1
  obtain ⟨b, fb, rfl⟩ := jw h2
  exact ⟨_, _, hide (fun w hB hT => (yiw fa fb B w hB hT).mono fun _ _ hr => hr.opt), hide (fun w hB hT => yfB fa fb B w hB hT)⟩
 ·exact ⟨_, _, hide (fun w hB hT => ygL hV hU rfl h B w hB hT), hide (fun w hB hT => yb5 hV hU rfl h B w hB hT)⟩
theorem yeG (V U : S3) (hV : midS V) (hU : midS U) (B : Nat) : ∃ (x y z : ByteArray) (e : Int), Hid (∀ w, B ≤ w.heap.size → PQ B w → Calls Tryz.prog 19 #[txtV V, txtV U] w (Ret w (.tuple #[spotV x y z, .int .i64 e]))) ∧ Hid (∀ w, B ≤ w.heap.size → PQ B w → Calls Tryz.prog 20 #[txtV V, txtV U] w (Ret w (.tuple #[spotV x y z, .int .i64 e]))) := by
 by_cases h : both3 (chkV V) (chkV U) = 0
 ·obtain ⟨h1, h2⟩ := kq h
  obtain ⟨a, fa, rfl⟩ := jw h1
  obtain ⟨b, fb, rfl⟩ := jw h2
  have c1 : Hid (∀ w, B ≤ w.heap.size → PQ B w → Calls Tryz.prog 19 #[vecV a, vecV b] w (Ret w (resV (crossO a b)))) := hide (fun w hB hT => (wa fa fb B w hB hT).mono fun _ _ hr => hr.opt)
  have c2 : Hid (∀ w, B ≤ w.heap.size → PQ B w → Calls Tryz.prog 20 #[vecV a, vecV b] w (Ret w (resV (crossO a b)))) := hide (fun w hB hT => (yal fa fb B w hB hT).mono fun _ _ hr => hr.opt)
  cases hc : crossO a b with
  |none => rw [hc] at c1 c2; exact ⟨⟨#[]⟩, ⟨#[]⟩, ⟨#[]⟩, 4, c1, c2⟩
  |some v => rw [hc] at c1 c2; exact ⟨T v.x, T v.y, T v.z, 0, c1, c2⟩
 ·exact ⟨⟨#[]⟩, ⟨#[]⟩, ⟨#[]⟩, both3 (chkV V) (chkV U), hide (fun w hB hT => yaZ hV hU rfl h B w hB hT), hide (fun w hB hT => wH hV hU rfl h B w hB hT)⟩
theorem ybn (V U : S3) (hV : midS V) (hU : midS U) (B : Nat) : ∃ (b : Bool) (e : Int), Hid (∀ w, B ≤ w.heap.size → PQ B w → Calls Tryz.prog 23 #[txtV V, txtV U] w (Ret w (.tuple #[.bool b, .int .i64 e]))) ∧ Hid (∀ w, B ≤ w.heap.size → PQ B w → Calls Tryz.prog 24 #[txtV V, txtV U] w (Ret w (.tuple #[.bool b, .int .i64 e]))) := by
 by_cases h : both3 (chkV V) (chkV U) = 0
 ·obtain ⟨h1, h2⟩ := kq h
  obtain ⟨a, fa, rfl⟩ := jw h1
  obtain ⟨b, fb, rfl⟩ := jw h2
  cases hc : crossO a b with
  |none =>
   have c1 : ∀ w, B ≤ w.heap.size → PQ B w → Calls Tryz.prog 19 #[txtV ⟨T a.x, T a.y, T a.z⟩, txtV ⟨T b.x, T b.y, T b.z⟩] w (Ret w (.tuple #[noV, .int .i64 4])) := fun w hB hT => (wa fa fb B w hB hT).mono fun _ _ hr => hr.no hc
   have c2 : ∀ w, B ≤ w.heap.size → PQ B w → Calls Tryz.prog 20 #[txtV ⟨T a.x, T a.y, T a.z⟩, txtV ⟨T b.x, T b.y, T b.z⟩] w (Ret w (.tuple #[noV, .int .i64 4])) := fun w hB hT => (yal fa fb B w hB hT).mono fun _ _ hr => hr.no hc
   exact ⟨false, 4, hide (fun w hB hT => xh (by decide) (hide c1) w hB hT), hide (fun w hB hT => vE (by decide) (hide c2) w hB hT)⟩
  |some v =>
   have c1 : ∀ w, B ≤ w.heap.size → PQ B w → Calls Tryz.prog 23 #[vecV a, vecV b] w (Ret w (.tuple #[.bool (decide (v = vzero)), .int .i64 0])) := fun w hB hT => ydx fa fb hc rfl B w hB hT
   have c2 : ∀ w, B ≤ w.heap.size → PQ B w → Calls Tryz.prog 24 #[vecV a, vecV b] w (Ret w (.tuple #[.bool (decide (v = vzero)), .int .i64 0])) := fun w hB hT => yb9 fa fb hc rfl B w hB hT
   exact ⟨decide (v = vzero), 0, c1, c2⟩
 ·exact ⟨false, both3 (chkV V) (chkV U), hide (fun w hB hT => xh (V := V) (U := U) h (hide (fun w hB hT => yaZ hV hU rfl h B w hB hT)) w hB hT), hide (fun w hB hT => vE (V := V) (U := U) h (hide (fun w hB hT => wH hV hU rfl h B w hB hT)) w hB hT)⟩

theorem xC {q : Rat} (fq : fitsQ q) (B : Nat) (w : World) (hB : B ≤ w.heap.size) (hT : PQ B w) :
 Calls Tryz.prog 104 #[.string (T q)] w (Ret w (.tuple #[.string (iB q.num), .string (iB (q.den : Int)), .int .i64 0])) := by
 have HT := hide hT
 have H1 := hide (fun w hB hT => yan fq B w hB hT)
 have H2 := hide (fun w => zQ fq w)
 generalize iB q.num = N at H2 ⊢
 generalize iB (q.den : Int) = D at H2 ⊢
 generalize T q = X at *
 clear fq hT
 go_enter Tryz.func104, Tryz.ntmps104
 go_wp2_with fail
 refine (H1.out _ hB HT.out).mono ?_
 rintro e w1 ⟨rfl, hb1⟩
 have HB1 := hide hb1
 clear hb1
 go_wp2_with fail
 refine (H2.out _).mono ?_
 rintro e w2 ⟨rfl, hb2⟩
 have HB2 := bt HB1 hb2
 clear hb2
 go_wp2_with fail
 refine bodyPost_ret (results_tmp3 rfl _ _ _) rfl ?_
 exact ⟨rfl, HB2.out⟩
theorem yif {x y : Rat} (fx : fitsQ x) (fy : fitsQ y) (hy : 0 < y.num) (hc : cmpC x y) (B : Nat) (w : World) (hB : B ≤ w.heap.size) (hT : PQ B w) :
 Calls Tryz.prog 161 #[.string (T x), .string (T y)] w (Ret w (.tuple #[.string (T (x / y)), .int .i64 0])) := by
 have HT := hide hT
 have H1 := hide (fun w hB hT => jF fx fy B w hB hT)
 have hdiv := kj x y
 have hz : ((T y).toList == [48]) = false := by rw [yhJ, decide_eq_false (by omega)]
 by_cases hs : shortQ x ∧ shortQ y
 ·have HI1 := hide (fun w => qp fx hs.1 w)
  have HI2 := hide (fun w => qp fy hs.2 w)
  obtain ⟨a1, a2⟩ := zD hs.1
  obtain ⟨b1, b2⟩ := zD hs.2
  have ap := x.den_pos
  have bp := y.den_pos
  have m1 := prod9 (a := x.num) (b := (y.den : Int)) a1 (by omega)
  have m3 := prod9 (a := (x.den : Int)) (b := y.num) (by omega) b1
  have e0 : y.num = ((y.num.toNat : Nat) : Int) := by omega
  have m4 : 0 < x.den * y.num.toNat := Nat.mul_pos ap (by omega)
  have m5 : ((x.den * y.num.toNat : Nat) : Int) = (x.den : Int) * y.num := by rw [Int.natCast_mul, ← e0]
  have HQ := hide (fun w => jl (x.num * (y.den : Int)) (x.den * y.num.toNat) (by omega) (by omega) m4 w)
  rw [m5, Int.mul_comm (x.den : Int) y.num, hdiv] at HQ
  rw [Int.mul_comm y.num (x.den : Int)] at HQ
  obtain ⟨R, hR⟩ := xe (T (x / y))
  have hR2 : strB (ratS (x / y)) = R := hR.symm
  rw [hR2] at HQ
  rw [← hR]
  generalize T x = S at *
  generalize T y = U at *
  obtain ⟨n, hn⟩ := xe x.num
  obtain ⟨d, hd⟩ := xe (x.den : Int)
  obtain ⟨m, hm⟩ := xe y.num
  obtain ⟨c, hcc⟩ := xe (y.den : Int)
  simp only [← hn, ← hd, ← hm, ← hcc] at HI1 HI2 HQ
  have v1 : IntKind.i64.wrap (n * c) = n * c := IntWalk.i64_in _ (by rw [hn, hcc]; omega)
  have v2 : IntKind.i64.wrap (d * m) = d * m := IntWalk.i64_in _ (by rw [hd, hm]; omega)
  have l1 : -9223372036854775808 ≤ n * c := by rw [hn, hcc]; omega
  have l2 : n * c ≤ 9223372036854775807 := by rw [hn, hcc]; omega
  have l3 : -9223372036854775808 ≤ d * m := by rw [hd, hm]; omega
  have l4 : d * m ≤ 9223372036854775807 := by rw [hd, hm]; omega
  have hm0 : (m < 0) = False := eq_false (by omega)
  clear hR hR2 hn hd hm hcc a1 a2 b1 b2 ap bp m1 m3 e0 m4 m5 hdiv hy hc hs fx fy hT
  go_enter Tryz.func161, Tryz.ntmps161
  go_wp2_with fail
  refine (H1.out _ hB HT.out).mono ?_
  rintro e w1 ⟨rfl, hb1⟩
  have HB1 := hide hb1
  clear hb1
  go_wp2_with fail
  refine (HI1.out _).mono ?_
  rintro e w2 ⟨rfl, hb2⟩
  have HB2 := bt HB1 hb2
  clear hb2
  go_wp2_with fail
  refine (HI2.out _).mono ?_
  rintro e w3 ⟨rfl, hb3⟩
  have HB3 := bt HB2 hb3
  clear hb3
  go_wp2_with fail
  refine (HQ.out _).mono ?_
  rintro e w4 ⟨rfl, hb4⟩
  have HB4 := bt HB3 hb4
  clear hb4
  go_wp2_with fail
  refine bodyPost_ret (results_tmp2 rfl _ _ _) rfl ?_
  exact ⟨rfl, HB4.out⟩
 ·obtain ⟨i1, i2, b1, b2, i3, i4, HI1, HI2, hb⟩ := wR fx fy hs
  have HP1 := hide (fun w => zQ fx w)
  have HP2 := hide (fun w => zQ fy w)
  have hdc : (x.den : Int) * y.num ≠ 0 := by
   have := Int.mul_pos (show 0 < (x.den : Int) by have := x.den_pos; omega) hy
   omega
  have HM := hide (fun w hB hT => ygf fx.1 fx.2 fy.2 fy.1 hdc B w hB hT)
  have hO : mulI x.num (x.den : Int) (y.den : Int) y.num = some (x / y) := by
   unfold mulI
   rw [if_pos ⟨hc.1, by rw [Int.mul_comm]; exact hc.2⟩, Int.mul_comm (x.den : Int) y.num, hdiv]
  rw [hO] at HM
  unfold opV at HM
  dsimp only at HM
  generalize T (x / y) = R at HM ⊢
  generalize iB x.num = NB at *
  generalize iB (x.den : Int) = DB at *
  generalize iB y.num = MB at *
  generalize iB (y.den : Int) = CB at *
  generalize T x = S at *
  generalize T y = U at *
  clear hdc hO hdiv hy hc hs fx fy hT
  rcases hb with rfl | ⟨rfl, rfl⟩
  all_goals
   go_enter Tryz.func161, Tryz.ntmps161
   go_wp2_with fail
   refine (H1.out _ hB HT.out).mono ?_
   rintro e w1 ⟨rfl, hb1⟩
   have HB1 := hide hb1
   clear hb1
   go_wp2_with fail
   refine (HI1.out _).mono ?_
   rintro e w2 ⟨rfl, hb2⟩
   have HB2 := bt HB1 hb2
   clear hb2
   go_wp2_with fail
   refine (HI2.out _).mono ?_
   rintro e w3 ⟨rfl, hb3⟩
   have HB3 := bt HB2 hb3
   clear hb3
   go_wp2_with fail
   refine (HP1.out _).mono ?_
   rintro e w4 ⟨rfl, hb4⟩
   have HB4 := bt HB3 hb4
   clear hb4
   go_wp2_with fail
   refine (HP2.out _).mono ?_
   rintro e w5 ⟨rfl, hb5⟩
   have HB5 := bt HB4 hb5
   clear hb5
   go_wp2_with fail
   refine (HM.out _ (Nat.le_trans hB HB5.out.size) (HT.out.p10.on HB5.out hB)).mono ?_
   rintro e w6 ⟨rfl, hb6⟩
   have HB6 := bt HB5 hb6
   clear hb6
   go_wp2_with fail
   refine bodyPost_ret (results_tmp2 rfl _ _ _) rfl ?_
   exact ⟨rfl, HB6.out⟩
theorem ybK {x y : Rat} (fx : fitsQ x) (fy : fitsQ y) (hy : 0 < y.num) (hc : cmpC x y) (B : Nat) (w : World) (hB : B ≤ w.heap.size) (hT : PQ B w) :
 Calls Tryz.prog 108 #[.string (T x), .string (T y)] w (Ret w (.string (T (x / y)))) := by
 have HT := hide hT
 have H1 := hide (fun w hB hT => yif fx fy hy hc B w hB hT)
 generalize T (x / y) = R at *
 generalize T x = S at *
 generalize T y = U at *
 clear fx fy hy hc hT
 go_enter Tryz.func108, Tryz.ntmps108
 go_wp2_with fail
 refine (H1.out _ hB HT.out).mono ?_
 rintro e w1 ⟨rfl, hb1⟩
 have HB1 := hide hb1
 clear hb1
 go_wp2_with fail
 go_ret
 exact ⟨rfl, HB1.out⟩
theorem xi {x y : Int} (f1 : fits x) (f2 : fits y) (f3 : fits (x * y)) (B : Nat) (w : World) (hB : B ≤ w.heap.size) (hT : P10 B w) :
 Calls Tryz.prog 106 #[.string (iB x), .string (iB y)] w (Ret w (.string (iB (x * y)))) := by
 have HT := hide hT
 have H1 := hide (fun w hB hT => ycp f1 f2 B w hB hT)
 rw [xu f3] at H1
 generalize iB (x * y) = R at *
 generalize iB x = S at *
 generalize iB y = U at *
 clear f1 f2 f3 hT
 go_enter Tryz.func106, Tryz.ntmps106
 go_wp2_with fail
 refine (H1.out _ hB HT.out).mono ?_
 rintro e w1 ⟨rfl, hb1⟩
 have HB1 := hide hb1
 clear hb1
 go_wp2_with fail
 go_ret
 exact ⟨rfl, HB1.out⟩
theorem ydT (q : Rat) (w : World) : Calls Tryz.prog 103 #[.string (T q)] w (fun e w' => e = .returned (.int .i64 (sgnR q)) ∧ w' = w) := by
 have hz := yhJ q
 obtain ⟨hp, h45⟩ := ygy q
 have hp0 : (0 : Int) < ((T q).size : Int) := by omega
 have hk : (q.num = 0 ∧ sgnR q = 0) ∨ (¬ q.num = 0 ∧ q.num < 0 ∧ sgnR q = -1) ∨ (¬ q.num = 0 ∧ ¬ q.num < 0 ∧ sgnR q = 1) := by
  rcases yaW q 0 with ⟨h, h2⟩ | ⟨h, h2⟩ | ⟨h, h2⟩
  ·exact .inr (.inl ⟨by have := yhL h; omega, yhL h, h2⟩)
  ·exact .inl ⟨by rw [h]; rfl, h2⟩
  ·exact .inr (.inr ⟨by have := yhC h; omega, by have := yhC h; omega, h2⟩)
 obtain ⟨S, hS⟩ := xe (sgnR q)
 rw [← hS] at hk ⊢
 generalize T q = X at *
 rcases hk with ⟨h1, rfl⟩ | ⟨h1, h2, rfl⟩ | ⟨h1, h2, rfl⟩
 ·rw [decide_eq_true h1] at hz
  clear h1 hS h45
  go_enter Tryz.func103, Tryz.ntmps103
  go_wp2_with fail
  go_ret
  exact ⟨rfl, rfl⟩
 ·rw [decide_eq_false h1] at hz
  rw [decide_eq_true h2] at h45
  clear h1 h2 hS
  go_enter Tryz.func103, Tryz.ntmps103
  go_wp2_with fail
  go_ret
  exact ⟨rfl, rfl⟩
 ·rw [decide_eq_false h1] at hz
  rw [decide_eq_false h2] at h45
  clear h1 h2 hS
  go_enter Tryz.func103, Tryz.ntmps103
  go_wp2_with fail
  go_ret
  exact ⟨rfl, rfl⟩
theorem js (z : Int) : (iB z).size = if z < 0 then (Lib.decDigits z.natAbs).length + 1 else (Lib.decDigits z.natAbs).length := by
 rw [← yg, yv]
 rcases yo z with ⟨h1, h⟩ | ⟨h1, h⟩ <;> rw [h]
 ·rw [if_pos h1, List.length_cons]
 ·rw [if_neg (by omega)]
theorem yd5 {z : Int} (f : fits z) (w : World) : Calls Tryz.prog 155 #[.string (iB z)] w (fun e w' => e = .returned (.int .i64 ((Lib.decDigits z.natAbs).length : Nat)) ∧ w' = w) := by
 obtain ⟨hp, h45⟩ := kb z
 have hs := js z
 have hsz := qU f
 have hp0 : (0 : Int) < ((iB z).size : Int) := by omega
 have he : ((iB z).toList == []) = false := by
  rw [ByteArray.toList_eq]
  exact beq_false_of_ne fun e => by
   have : (iB z).data.toList.length = 0 := by rw [e]; rfl
   rw [yg] at this
   omega
 have he2 : ((iB z).toList != []) = true := by simp only [bne, he]; rfl
 have he3 : (iB z).toList.isEmpty = false := by
  cases h : (iB z).toList with
  |nil => rw [h] at he; cases he
  |cons a b => rfl
 obtain ⟨L, hL⟩ := xe ((Lib.decDigits z.natAbs).length)
 rw [← hL] at hs ⊢
 by_cases hz : z < 0
 ·rw [if_pos hz] at hs
  rw [decide_eq_true hz] at h45
  generalize iB z = X at *
  have hl : (X.size : Int) - 1 = (L : Int) := by omega
  clear hL hz hs f
  go_enter Tryz.func155, Tryz.ntmps155
  go_wp2_with fail
  go_ret
  exact ⟨by rw [← hl]; rfl, rfl⟩
 ·rw [if_neg hz] at hs
  rw [decide_eq_false hz] at h45
  generalize iB z = X at *
  subst hs
  clear hL hz f
  go_enter Tryz.func155, Tryz.ntmps155
  go_wp2_with fail
  go_ret
  exact ⟨rfl, rfl⟩
theorem vN (b1 : Nat) (l1 : List ByteArray) (n1 : l1.length ≤ 1000) (h1 : ∀ s ∈ l1, s.size ≤ 9223372036854775807) (B : Nat) (w : World) (c1 : StrsAt w b1 l1) (hB : B ≤ w.heap.size) (hT : PQ B w) :
 Calls Tryz.prog 102 #[.slice (some ⟨b1, 0, none⟩) l1.length l1.length] w (Ret w (.int .i64 (firstE l1))) := by
 have HT := hide hT
 obtain ⟨n, hn⟩ := xe l1.length
 rw [← hn] at n1 ⊢
 have C1 := hide c1
 have N1 := hide hn
 have R1 := hide h1
 obtain ⟨R, hR⟩ := xe (firstE l1)
 rw [← hR]
 have HR := hide hR
 clear c1 hn h1 hT hR
 go_enter Tryz.func102, Tryz.ntmps102
 go_wp2_with fail
 go_loopw [3] (fun i wr => ∃ k : Nat, k ≤ n ∧ i = .int .i64 k ∧ Hid ((∀ x ∈ l1.take k, chk90 x.data.toList = 0) ∧ Below w.heap.size w wr)) (fun i _ => n - (intOf i).toNat)
 case atStart => exact ⟨0, Nat.zero_le _, rfl, by simp, Below.refl _ _⟩
 case round =>
  obtain ⟨k, hk, rfl, hin⟩ := hrel
  obtain ⟨wo, hwo⟩ := xe wr
  subst hwo
  have IN := hide hin.out.1
  have HB0 := hide hin.out.2
  by_cases hlt : k < n
  ·have hki : (k : Int) < (n : Int) := by omega
   have hk0 : (0 : Int) ≤ (k : Int) := by omega
   obtain ⟨s, hs⟩ : ∃ s, l1[k]? = some s := ⟨_, List.getElem?_eq_getElem (by rw [← N1.out]; exact hlt)⟩
   have hss := R1.out s (List.mem_of_getElem? hs)
   have hcell := (C1.out.below HB0.out C1.out.1).2 k s hs
   have HSK := hide hs
   have HC := hide (wQ s hss B wo (Nat.le_trans hB HB0.out.size) (HT.out.on HB0.out hB))
   by_cases hq : chkQ s.data.toList = 0
   rotate_left
   ·have e : R = chkQ s.data.toList := by
     have h9 := ya6 hq
     have := jh hs IN.out (by rw [h9]; exact hq)
     rw [h9] at this
     rw [HR.out]
     exact this
    have hqb : (chkQ s.data.toList == 0) = false := by simpa using hq
    rw [← e] at HC hqb
    clear hs hss hq e hlt hin
    go_wp2_with fail
    refine HC.out.mono ?_
    rintro e w1 ⟨rfl, hb1⟩
    have HB1 := bt HB0 hb1
    clear hb1 hcell
    go_wp2_with fail
    go_ret
    exact ⟨rfl, HB1.out⟩
   rw [hq] at HC
   obtain ⟨eT, fq, _, _⟩ := qj hq
   obtain ⟨q, hqq⟩ := xe (valQ s.data.toList)
   rw [← hqq] at eT fq
   have eS : s = T q := T_of eT
   have HP := hide (fun w hB hT => xC fq B w hB hT)
   have HS1 := hide (fun w => yd5 fq.1 w)
   have HS2 := hide (fun w => yd5 fq.2 w)
   rw [Int.natAbs_natCast] at HS2
   rw [← eS] at HP
   have h9 : chk90 s.data.toList = if 90 < max (Lib.decDigits q.num.natAbs).length (Lib.decDigits q.den).length then 4 else 0 := by
    unfold chk90
    rw [if_neg (by simp [hq]), ← hqq]
   generalize (Lib.decDigits q.num.natAbs).length = a at HS1 h9
   generalize (Lib.decDigits q.den).length = d at HS2 h9
   have hbig : (90 < a ∧ R = 4) ∨ (a ≤ 90 ∧ 90 < d ∧ R = 4) ∨ (a ≤ 90 ∧ d ≤ 90 ∧ (∀ x ∈ l1.take (k + 1), chk90 x.data.toList = 0)) := by
    by_cases hb : 90 < max a d
    ·rw [if_pos hb] at h9
     have := jh hs IN.out (by rw [h9]; decide)
     rw [h9, ← HR.out] at this
     by_cases ha : 90 < a
     ·exact .inl ⟨ha, this⟩
     ·exact .inr (.inl ⟨by omega, by omega, this⟩)
    ·rw [if_neg hb] at h9
     refine .inr (.inr ⟨by omega, by omega, fun x hx => ?_⟩)
     rw [List.take_add_one, hs] at hx
     rcases List.mem_append.1 hx with h | h
     ·exact IN.out x h
     ·simp at h; rw [h]; exact h9
   have HBIG := hide hbig
   generalize iB q.num = N at *
   generalize iB (q.den : Int) = D at *
   clear hs hss hq eT fq hqq eS h9 hbig hlt hin
   go_wp2_with fail
   refine HC.out.mono ?_
   rintro e w1 ⟨rfl, hb1⟩
   have HB1 := bt HB0 hb1
   clear hb1 hcell HC
   have hcell := (C1.out.below HB1.out C1.out.1).2 k s HSK.out
   go_wp2_with fail
   refine (HP.out _ (Nat.le_trans hB HB1.out.size) (HT.out.on HB1.out hB)).mono ?_
   rintro e w2 ⟨rfl, hb2⟩
   have HB2 := bt HB1 hb2
   clear hb2 hcell
   go_wp2_with fail
   refine (HS1.out _).mono ?_
   rintro e w3 ⟨rfl, rfl⟩
   rcases HBIG.out with ⟨ha, rfl⟩ | ⟨ha, hd, rfl⟩ | ⟨ha, hd, hall⟩
   ·have g1 : (90 : Int) < (a : Int) := by omega
    clear ha
    go_wp2_with fail
    go_ret
    exact ⟨rfl, HB2.out⟩
   ·have g1 : ((90 : Int) < (a : Int)) = False := eq_false (by omega)
    have g2 : (90 : Int) < (d : Int) := by omega
    clear ha hd
    go_wp2_with fail
    refine (HS2.out _).mono ?_
    rintro e w3 ⟨rfl, rfl⟩
    go_wp2_with fail
    go_ret
    exact ⟨rfl, HB2.out⟩
   ·have g1 : ((90 : Int) < (a : Int)) = False := eq_false (by omega)
    have g2 : ((90 : Int) < (d : Int)) = False := eq_false (by omega)
    have HALL := hide hall
    clear ha hd hall
    go_wp2_with fail
    refine (HS2.out _).mono ?_
    rintro e w3 ⟨rfl, rfl⟩
    go_wp2_with fail
    go_roundw
    case rel => exact ⟨k + 1, by omega, by simp, HALL.out, HB2.out⟩
    case measure => simp [intOf]; omega
  ·obtain rfl : k = n := by omega
   have hki : ((k : Int) < (k : Int)) = False := eq_false (by omega)
   have hR2 : R = 0 := by
    have h := IN.out
    rw [List.take_of_length_le (by rw [← N1.out]; omega)] at h
    rw [HR.out]
    exact qD h
   subst hR2
   clear hlt hin IN HR
   go_wp2_with fail
   go_ret
   exact ⟨rfl, HB0.out⟩

def RNumS (m : Bool) (z : Int) (n : Nat) (w : World) (e : Ending) (w2 : World) : Prop := ∃ (v : Value) (l : List Nat), e = .returned (numV m v) ∧ Below w.heap.size w w2 ∧ OwnL w.heap.size w2 v l ∧ Norm 1000000 l ∧ valS m (lv 1000000 l) = z ∧ l.length ≤ n
theorem yeB (s : ByteArray) (c1 : chkI s.data.toList = 0) (w : World) :
 Calls Tryz.prog 189 #[.string s] w (RNumS (decide (s.data.toList.head? = some 45)) (valI s.data.toList) 60 w) := by
 obtain ⟨i0, hi0, hz0, hz1, hz2⟩ := info_parts info3
 obtain ⟨mi, hmi⟩ := xe (decide (s.data.toList.head? = some 45))
 rw [← hmi]
 have HV := hide (ydS s.data.toList)
 rw [← hmi] at HV
 have hpos := jL c1
 have hlen := (yL c1).2
 rw [yg] at hpos hlen
 have hne : s.data.toList ≠ [] := fun e => by have := yg s; rw [e] at this; simp at this; omega
 obtain ⟨hp, hh⟩ := yT hne
 have hp0 : (0 : Int) < (s.size : Int) := by omega
 have h45 : ((s[0].toNat : Int) == 45) = mi := by
  rw [hmi, hh]
  by_cases h : s[0] = 45
  ·rw [h]; rfl
  ·have : s[0].toNat ≠ 45 := fun e => h (UInt8.toNat_inj.1 e)
   have h2 : ((s[0].toNat : Int) == 45) = false := by
    simp only [beq_eq_false_iff_ne, ne_eq]
    omega
   rw [h2]
   simp [h]
 have HDG := hide (yL c1).1
 obtain ⟨ds, hds⟩ := xe (digs s.data.toList)
 have hd := yZ s.data.toList
 rw [← hds] at HDG HV hd
 have hdl : ds.length ≤ 300 := by
  have h1 := zb.1 (qg c1).2
  have h2 := yQ (valI s.data.toList)
  rw [← (qg c1).1, ← hds] at h2
  rw [h2]
  exact h1
 obtain ⟨t, ht⟩ : ∃ t : ByteArray, t.data.toList = ds := ⟨strB ds, yh _⟩
 have htl : t.size = ds.length := by rw [← yg, ht]
 have htT : mi = true → s.extract 1 s.size = t := fun h => by
  rw [h] at hmi
  apply yp
  rw [ht, hd, if_pos (of_decide_eq_true hmi.symm)]
  simp
  exact List.take_of_length_le (by rw [List.length_tail, yg]; exact Nat.le_refl _)
 have htF : mi = false → s = t := fun h => by
  rw [h] at hmi
  apply yp
  rw [ht, hd, if_neg (of_decide_eq_false hmi.symm)]
  rfl
 have HTT := hide htT; have HTF := hide htF; have HT := hide ht
 obtain ⟨D, hD⟩ := xe t.size
 have hDl : D ≤ 300 := by omega
 have HD := hide hD; have HDD := hide (show ds.length = D by omega)
 clear hmi hne hh c1 hd hds hlen hdl ht htl htT htF hpos hD
 go_enter Tryz.func189, Tryz.ntmps189
 cases mi
 ·have HST := hide (HTF.out rfl)
  clear HTT HTF
  go_wp2_with fail
  have hst := HST.out
  subst hst
  have HSZ := hide (show s.size = D from HD.out.symm)
  obtain ⟨p0, p1, ps, pb⟩ := heap2 w (.cells #[.bool false, .slice none 0 0] 222) (.cells #[.bool false, .slice none 0 0] 222)
  obtain ⟨w0, hw0⟩ : ∃ w0, (w.alloc (.cells #[.bool false, .slice none 0 0] 222)).alloc (.cells #[.bool false, .slice none 0 0] 222) = w0 := ⟨_, rfl⟩
  rw [hw0] at p0 p1 ps pb ⊢
  have P0 := hide p0; have P1 := hide p1; have PB := hide pb; have PS := hide ps
  clear p0 p1 ps pb hw0 h45
  go_loopw [4] (fun e wr => ∃ k : Nat, e = .int .i64 ((D : Int) - 6 * (k : Int)) ∧ 6 * k ≤ D + 5 ∧ Hid (∃ (v : Value) (L : List Nat), wr.heap[w.heap.size]? = some (.cells #[.bool false, .slice none 0 0] 222 (0, 0)) ∧ wr.heap[w.heap.size + 1]? = some (.cells #[.bool false, v] 222 (0, 0)) ∧ Below w.heap.size w wr ∧ OwnL (w.heap.size + 2) wr v L ∧ L.length = k ∧ Lt 1000000 L ∧ lv 1000000 L = dv (ds.drop (D - 6 * k)))) (fun e _ => (intOf e).toNat)
  case atStart => exact ⟨0, by have := HSZ.out; first | rfl | (congr 1 <;> omega), by omega, .slice none 0 0, [], P0.out, P1.out, PB.out, OwnL.nil _ _, rfl, fun z hz => by simp at hz, by
   rw [List.drop_of_length_le (by have := HDD.out; omega)]; rfl⟩
  case round =>
   obtain ⟨k, rfl, hk6, hin⟩ := hrel
   obtain ⟨v, L, r0, r1, rb, ro, rl, rt, rv⟩ := hin.out
   obtain ⟨va, vc, hvf, hcap, _⟩ := ro.form
   rw [rl] at hvf hcap
   subst hvf
   have hwr : w.heap.size + 2 ≤ wr.heap.size := by
    have h1 := yd r1
    omega
   by_cases hlt : 6 * k < D
   ·obtain ⟨E, hE⟩ := xe (D - 6 * k)
    have hEi : (D : Int) - 6 * (k : Int) = (E : Int) := by omega
    obtain ⟨lo, hlo⟩ := xe (E - 6)
    have hmax : max (0 : Int) ((E : Int) - 6) = (lo : Int) := by omega
    have hE0 : (0 : Int) < (E : Int) := by omega
    have hEl : (E : Int) ≤ 300 := by omega
    rw [hEi]
    have R0 := hide r0; have R1 := hide r1; have RB := hide rb; have RO := hide ro; have RL := hide rl; have RT := hide rt; have RV := hide rv
    have HE := hide hE; have HLO := hide hlo
    have hloE : lo ≤ E := by omega
    have hED : E ≤ D := by omega
    clear r0 r1 rb ro rl rt rv hin hE hlo hEi
    go_wp2_with fail
    clear hmax
    obtain ⟨wo, hwo⟩ := xe wr
    subst hwo
    go_loopw [5, 6] (fun nn i wr2 => ∃ j A : Nat, lo ≤ j ∧ j ≤ E ∧ i = .int .i64 j ∧ nn = .int .i64 A ∧ Hid (A = dv ((ds.drop lo).take (j - lo))) ∧ wr2 = wo) (fun _ i _ => E - (intOf i).toNat)
    case atStart => exact ⟨lo, 0, Nat.le_refl _, hloE, rfl, rfl, by rw [Nat.sub_self]; rfl, rfl⟩
    case round =>
     obtain ⟨j, A, hj1, hj2, rfl, rfl, hA, hww⟩ := hrel
     obtain rfl := hww.symm
     have hAb := jY HDG.out lo (j - lo)
     rw [← hA.out] at hAb
     by_cases hlt2 : j < E
     ·have hji : (j : Int) < (E : Int) := by omega
      have hj0 : (0 : Int) ≤ (j : Int) := by omega
      have hjt : j < s.size := by have := HD.out; omega
      have hjti : (j : Int) < (s.size : Int) := by omega
      obtain ⟨y, hyv⟩ : ∃ y : Nat, y = (s[j]'hjt).toNat := ⟨_, rfl⟩
      have hyv2 : (s[j]'hjt).toNat = y := hyv.symm
      have hat : ds[j]? = some (s[j]'hjt) := by
       rw [← HT.out]
       have h1 : s.data.toList[j]? = some s.data[j] := by simp
       exact h1
      have hdg := yH.1 (HDG.out _ (List.mem_of_getElem? hat))
      rw [hyv2] at hdg
      have hnew := qP ds hj1 hat
      rw [hyv2, ← hA.out] at hnew
      have hp5 : (10 : Nat) ^ (j - lo) ≤ 10 ^ 5 := Nat.pow_le_pow_right (by omega) (by have := HLO.out; omega)
      have hA5 : A < 100000 := Nat.lt_of_lt_of_le hAb hp5
      have HN := hide hnew.symm
      have y0 : (48 : Int) ≤ (y : Int) := by omega
      have y1 : (y : Int) ≤ 57 := by omega
      have a1 : (A : Int) < 100000 := by omega
      have HC := hide (show 10 * (A : Int) + ((y : Int) - 48) = ((A * 10 + (y - 48) : Nat) : Int) by omega)
      clear hat hyv hdg hnew hA hAb hp5 hA5
      go_wp2_with fail
      go_roundw
      case rel => exact ⟨j + 1, A * 10 + (y - 48), by omega, by omega, by go_num, by rw [← HC.out], HN, trivial⟩
      case measure => simp [intOf]; omega
     ·obtain rfl : j = E := by omega
      have hji : ((j : Int) < (j : Int)) = False := eq_false (by omega)
      have hp6 : (10 : Nat) ^ (j - lo) ≤ 10 ^ 6 := Nat.pow_le_pow_right (by omega) (by have := HLO.out; omega)
      have hAl : A < 1000000 := Nat.lt_of_lt_of_le hAb hp6
      have HAL := hide hAl
      have HAE := hide hA.out
      have q1 := ya R1.out 1
      have qf := yf R1.out 1
      have HOW := hide (show (wo.alloc (.cells #[.int .i64 A] 3)).ownsRow (w.heap.size + 2) 3 1 (.slice va k vc) k (icells L) by
       have h := RO.out
       unfold OwnL at h
       rw [RL.out] at h
       exact h.alloc _)
      have HNW := hide (show ∀ j u, ([.int .i64 A] : List Value)[j]? = some u → (wo.alloc (.cells #[.int .i64 A] 3)).cell? ((⟨wo.heap.size, 0, none⟩ : Addr).add j) = some u from World.news_of_block (cs := #[.int .i64 A]) (t := 3) (fr := (0, 0)) (heap_alloc_new wo _))
      clear hA hAb hp6 hAl hlt2
      go_wp2_with (at_builtin; go_must (refine wpList_append_own _ rfl (.tmp 37) (.tmp 39) 199 rfl (w.heap.size + 2) 3 i0 _ 1 8 Tryz.underlying199 hi0 hz0 hz1 hz2 rfl (by decide) (.slice va k vc) _ _ rfl HOW.out ⟨wo.heap.size, 0, none⟩ 1 1 [.int .i64 A] rfl rfl HNW.out (by simp [Value.oneCell']) (by simp only [maxLen]; omega) (by omega) (by simp; omega) ?_); intro v1 w5 hown hg1 hiff; clear hiff; obtain ⟨va1, vc1, hvf⟩ := xG hown; subst hvf; have HOW5 := hide hown; have HB5 := hide (show Below (w.heap.size + 2) wo w5 from ((Below.refl (w.heap.size + 2) wo).alloc hwr _).grown hg1 (by simp; omega) (qG RO.out (Nat.le_refl _))); clear hown hg1 q1 qf; have R1' := hide (yc HB5.out R1.out (by omega)); have R0' := hide (yc HB5.out R0.out (by omega)); have qf := yf R1'.out 1; have qc5 := ya R1'.out 1; have ql := yd R1'.out)
      go_roundw
      case rel =>
       refine ⟨k + 1, by have := HE.out; have := HLO.out; congr 1; omega, by have := HE.out; omega, .slice va1 (k + 1) vc1, L ++ [A], (ye (by omega)).trans R0'.out, ?_, (RB.out.trans (HB5.out.mono (by omega))).setCell (p := ⟨w.heap.size + 1, 1, none⟩) (by simp) _, ?_, by rw [List.length_append, RL.out]; rfl, ?_, ?_⟩
       ·have h := R1'.out
        simp only [World.setCell, Array.getElem?_modify, h]
        rfl
       ·refine OwnL.other ?_ (p := ⟨w.heap.size + 1, 1, none⟩) (by simp) _
        show World.ownsRow _ _ _ _ _ (L ++ [A]).length (icells (L ++ [A]))
        rw [List.length_append, RL.out, za]
        exact HOW5.out
       ·intro z hz
        rcases List.mem_append.1 hz with h | h
        ·exact RT.out z h
        ·simp only [List.mem_singleton] at h
         rw [h]
         exact HAL.out
       ·rw [qB, RL.out, RV.out]
        have h1 := yeh ds (lo := lo) (e := j) hj1 (by rw [HDD.out]; exact hED)
        have e1 : D - 6 * (k + 1) = lo := by have := HE.out; have := HLO.out; omega
        have e2 : D - 6 * k = j := HE.out.symm
        have e3 : (1000000 : Nat) ^ k = 10 ^ (ds.length - j) := by
         rw [show (1000000 : Nat) = 10 ^ 6 by decide, ← Nat.pow_mul]
         congr 1
         have := HE.out
         have := HDD.out
         omega
        rw [e1, e2, h1, ← HAE.out, e3, Nat.mul_comm A, Nat.add_comm]
      case measure => simp [intOf]; omega
   ·have hEi : ((0 : Int) < (D : Int) - 6 * (k : Int)) = False := eq_false (by omega)
    have HT2 := hide (fun W (h : OwnL (w.heap.size + 2) W (.slice va k vc) L) => zy va vc L W.heap.size W (by rw [rl]; exact h.at_) (by omega) (by omega))
    rw [rl] at HT2
    have HT3 := hide (HT2.out wr ro)
    have q1 := ya r1 1
    have q0 := ya r1 0
    have qf := yf r1 1
    have ql := yd r1
    have z0 := ya r0 0
    have z1 := ya r0 1
    have zf := yf r0 0
    have zg := yf r0 1
    have zl := yd r0
    have R0 := hide r0; have R1 := hide r1; have RB := hide rb; have RO := hide ro; have RL := hide rl; have RT := hide rt; have RV := hide rv
    have hk60 : k ≤ 60 := by omega
    clear r0 r1 rb ro rl rt rv hin HT2
    go_wp2_with fail
    refine HT3.out.mono ?_
    rintro e w1 ⟨rfl, rfl⟩
    go_wp2_with fail
    obtain ⟨Wa, hWa⟩ := xe (wr.setCell ⟨w.heap.size + 1, 1, none⟩ (.slice va (trimTo L k) vc))
    rw [← hWa]
    have A0 : Wa.heap[w.heap.size]? = some (.cells #[.bool false, .slice none 0 0] 222 (0, 0)) := by rw [hWa]; exact (ye (by omega)).trans R0.out
    have AB : Below w.heap.size w Wa := by rw [hWa]; exact RB.out.setCell (p := ⟨w.heap.size + 1, 1, none⟩) (by simp) _
    have AO : OwnL (w.heap.size + 2) Wa (.slice va k vc) L := by rw [hWa]; exact RO.out.other (p := ⟨w.heap.size + 1, 1, none⟩) (by simp) _
    obtain ⟨s1, s2⟩ := set2 A0 (.bool false) (.slice va (trimTo L k) vc)
    refine vn s1 rfl rfl ?_
    refine ⟨_, trimL L, rfl, AB.trans s2, ?_, yB RT.out, ?_, ?_⟩
    ·have h1 := (((AO.other (p := ⟨w.heap.size, 0, none⟩) (by simp) (.bool false)).other (p := ⟨w.heap.size, 1, none⟩) (by simp) (.slice va (trimTo L k) vc)).cut (k := trimTo L k) (by have := yj L k; rw [RL.out]; exact this)).mono (show w.heap.size ≤ w.heap.size + 2 by omega)
     unfold trimL
     rw [RL.out]
     exact h1
    ·rw [yR, RV.out, show D - 6 * k = 0 by omega, List.drop_zero, HV.out]
    ·rw [yJ]
     have := yj L L.length
     have := RL.out
     omega
 ·have HST := hide (HTT.out rfl)
  clear HTT HTF
  go_wp2_with fail
  have hst := HST.out
  have hsz : s.size - 1 = D := by
   rw [HD.out, ← hst]
   simp
  rw [hst, hsz]
  clear hst hsz
  have HSZ := hide (show D = D from rfl)
  obtain ⟨p0, p1, ps, pb⟩ := heap2 w (.cells #[.bool false, .slice none 0 0] 222) (.cells #[.bool true, .slice none 0 0] 222)
  obtain ⟨w0, hw0⟩ : ∃ w0, (w.alloc (.cells #[.bool false, .slice none 0 0] 222)).alloc (.cells #[.bool true, .slice none 0 0] 222) = w0 := ⟨_, rfl⟩
  rw [hw0] at p0 p1 ps pb ⊢
  have P0 := hide p0; have P1 := hide p1; have PB := hide pb; have PS := hide ps
  clear p0 p1 ps pb hw0 h45
  go_loopw [4] (fun e wr => ∃ k : Nat, e = .int .i64 ((D : Int) - 6 * (k : Int)) ∧ 6 * k ≤ D + 5 ∧ Hid (∃ (v : Value) (L : List Nat), wr.heap[w.heap.size]? = some (.cells #[.bool false, .slice none 0 0] 222 (0, 0)) ∧ wr.heap[w.heap.size + 1]? = some (.cells #[.bool true, v] 222 (0, 0)) ∧ Below w.heap.size w wr ∧ OwnL (w.heap.size + 2) wr v L ∧ L.length = k ∧ Lt 1000000 L ∧ lv 1000000 L = dv (ds.drop (D - 6 * k)))) (fun e _ => (intOf e).toNat)
  case atStart => exact ⟨0, by have := HSZ.out; first | rfl | (congr 1 <;> omega), by omega, .slice none 0 0, [], P0.out, P1.out, PB.out, OwnL.nil _ _, rfl, fun z hz => by simp at hz, by
   rw [List.drop_of_length_le (by have := HDD.out; omega)]; rfl⟩
  case round =>
   obtain ⟨k, rfl, hk6, hin⟩ := hrel
   obtain ⟨v, L, r0, r1, rb, ro, rl, rt, rv⟩ := hin.out
   obtain ⟨va, vc, hvf, hcap, _⟩ := ro.form
   rw [rl] at hvf hcap
   subst hvf
   have hwr : w.heap.size + 2 ≤ wr.heap.size := by
    have h1 := yd r1
    omega
   by_cases hlt : 6 * k < D
   ·obtain ⟨E, hE⟩ := xe (D - 6 * k)
    have hEi : (D : Int) - 6 * (k : Int) = (E : Int) := by omega
    obtain ⟨lo, hlo⟩ := xe (E - 6)
    have hmax : max (0 : Int) ((E : Int) - 6) = (lo : Int) := by omega
    have hE0 : (0 : Int) < (E : Int) := by omega
    have hEl : (E : Int) ≤ 300 := by omega
    rw [hEi]
    have R0 := hide r0; have R1 := hide r1; have RB := hide rb; have RO := hide ro; have RL := hide rl; have RT := hide rt; have RV := hide rv
    have HE := hide hE; have HLO := hide hlo
    have hloE : lo ≤ E := by omega
    have hED : E ≤ D := by omega
    clear r0 r1 rb ro rl rt rv hin hE hlo hEi
    go_wp2_with fail
    clear hmax
    obtain ⟨wo, hwo⟩ := xe wr
    subst hwo
    go_loopw [5, 6] (fun nn i wr2 => ∃ j A : Nat, lo ≤ j ∧ j ≤ E ∧ i = .int .i64 j ∧ nn = .int .i64 A ∧ Hid (A = dv ((ds.drop lo).take (j - lo))) ∧ wr2 = wo) (fun _ i _ => E - (intOf i).toNat)
    case atStart => exact ⟨lo, 0, Nat.le_refl _, hloE, rfl, rfl, by rw [Nat.sub_self]; rfl, rfl⟩
    case round =>
     obtain ⟨j, A, hj1, hj2, rfl, rfl, hA, hww⟩ := hrel
     obtain rfl := hww.symm
     have hAb := jY HDG.out lo (j - lo)
     rw [← hA.out] at hAb
     by_cases hlt2 : j < E
     ·have hji : (j : Int) < (E : Int) := by omega
      have hj0 : (0 : Int) ≤ (j : Int) := by omega
      have hjt : j < t.size := by have := HD.out; omega
      have hjti : (j : Int) < (t.size : Int) := by omega
      obtain ⟨y, hyv⟩ : ∃ y : Nat, y = (t[j]'hjt).toNat := ⟨_, rfl⟩
      have hyv2 : (t[j]'hjt).toNat = y := hyv.symm
      have hat : ds[j]? = some (t[j]'hjt) := by
       rw [← HT.out]
       have h1 : t.data.toList[j]? = some t.data[j] := by simp
       exact h1
      have hdg := yH.1 (HDG.out _ (List.mem_of_getElem? hat))
      rw [hyv2] at hdg
      have hnew := qP ds hj1 hat
      rw [hyv2, ← hA.out] at hnew
      have hp5 : (10 : Nat) ^ (j - lo) ≤ 10 ^ 5 := Nat.pow_le_pow_right (by omega) (by have := HLO.out; omega)
      have hA5 : A < 100000 := Nat.lt_of_lt_of_le hAb hp5
      have HN := hide hnew.symm
      have y0 : (48 : Int) ≤ (y : Int) := by omega
      have y1 : (y : Int) ≤ 57 := by omega
      have a1 : (A : Int) < 100000 := by omega
      have HC := hide (show 10 * (A : Int) + ((y : Int) - 48) = ((A * 10 + (y - 48) : Nat) : Int) by omega)
      clear hat hyv hdg hnew hA hAb hp5 hA5
      go_wp2_with fail
      go_roundw
      case rel => exact ⟨j + 1, A * 10 + (y - 48), by omega, by omega, by go_num, by rw [← HC.out], HN, trivial⟩
      case measure => simp [intOf]; omega
     ·obtain rfl : j = E := by omega
      have hji : ((j : Int) < (j : Int)) = False := eq_false (by omega)
      have hp6 : (10 : Nat) ^ (j - lo) ≤ 10 ^ 6 := Nat.pow_le_pow_right (by omega) (by have := HLO.out; omega)
      have hAl : A < 1000000 := Nat.lt_of_lt_of_le hAb hp6
      have HAL := hide hAl
      have HAE := hide hA.out
      have q1 := ya R1.out 1
      have qf := yf R1.out 1
      have HOW := hide (show (wo.alloc (.cells #[.int .i64 A] 3)).ownsRow (w.heap.size + 2) 3 1 (.slice va k vc) k (icells L) by
       have h := RO.out
       unfold OwnL at h
       rw [RL.out] at h
       exact h.alloc _)
      have HNW := hide (show ∀ j u, ([.int .i64 A] : List Value)[j]? = some u → (wo.alloc (.cells #[.int .i64 A] 3)).cell? ((⟨wo.heap.size, 0, none⟩ : Addr).add j) = some u from World.news_of_block (cs := #[.int .i64 A]) (t := 3) (fr := (0, 0)) (heap_alloc_new wo _))
      clear hA hAb hp6 hAl hlt2
      go_wp2_with (at_builtin; go_must (refine wpList_append_own _ rfl (.tmp 37) (.tmp 39) 199 rfl (w.heap.size + 2) 3 i0 _ 1 8 Tryz.underlying199 hi0 hz0 hz1 hz2 rfl (by decide) (.slice va k vc) _ _ rfl HOW.out ⟨wo.heap.size, 0, none⟩ 1 1 [.int .i64 A] rfl rfl HNW.out (by simp [Value.oneCell']) (by simp only [maxLen]; omega) (by omega) (by simp; omega) ?_); intro v1 w5 hown hg1 hiff; clear hiff; obtain ⟨va1, vc1, hvf⟩ := xG hown; subst hvf; have HOW5 := hide hown; have HB5 := hide (show Below (w.heap.size + 2) wo w5 from ((Below.refl (w.heap.size + 2) wo).alloc hwr _).grown hg1 (by simp; omega) (qG RO.out (Nat.le_refl _))); clear hown hg1 q1 qf; have R1' := hide (yc HB5.out R1.out (by omega)); have R0' := hide (yc HB5.out R0.out (by omega)); have qf := yf R1'.out 1; have qc5 := ya R1'.out 1; have ql := yd R1'.out)
      go_roundw
      case rel =>
       refine ⟨k + 1, by have := HE.out; have := HLO.out; congr 1; omega, by have := HE.out; omega, .slice va1 (k + 1) vc1, L ++ [A], (ye (by omega)).trans R0'.out, ?_, (RB.out.trans (HB5.out.mono (by omega))).setCell (p := ⟨w.heap.size + 1, 1, none⟩) (by simp) _, ?_, by rw [List.length_append, RL.out]; rfl, ?_, ?_⟩
       ·have h := R1'.out
        simp only [World.setCell, Array.getElem?_modify, h]
        rfl
       ·refine OwnL.other ?_ (p := ⟨w.heap.size + 1, 1, none⟩) (by simp) _
        show World.ownsRow _ _ _ _ _ (L ++ [A]).length (icells (L ++ [A]))
        rw [List.length_append, RL.out, za]
        exact HOW5.out
       ·intro z hz
        rcases List.mem_append.1 hz with h | h
        ·exact RT.out z h
        ·simp only [List.mem_singleton] at h
         rw [h]
         exact HAL.out
       ·rw [qB, RL.out, RV.out]
        have h1 := yeh ds (lo := lo) (e := j) hj1 (by rw [HDD.out]; exact hED)
        have e1 : D - 6 * (k + 1) = lo := by have := HE.out; have := HLO.out; omega
        have e2 : D - 6 * k = j := HE.out.symm
        have e3 : (1000000 : Nat) ^ k = 10 ^ (ds.length - j) := by
         rw [show (1000000 : Nat) = 10 ^ 6 by decide, ← Nat.pow_mul]
         congr 1
         have := HE.out
         have := HDD.out
         omega
        rw [e1, e2, h1, ← HAE.out, e3, Nat.mul_comm A, Nat.add_comm]
      case measure => simp [intOf]; omega
   ·have hEi : ((0 : Int) < (D : Int) - 6 * (k : Int)) = False := eq_false (by omega)
    have HT2 := hide (fun W (h : OwnL (w.heap.size + 2) W (.slice va k vc) L) => zy va vc L W.heap.size W (by rw [rl]; exact h.at_) (by omega) (by omega))
    rw [rl] at HT2
    have HT3 := hide (HT2.out wr ro)
    have q1 := ya r1 1
    have q0 := ya r1 0
    have qf := yf r1 1
    have ql := yd r1
    have z0 := ya r0 0
    have z1 := ya r0 1
    have zf := yf r0 0
    have zg := yf r0 1
    have zl := yd r0
    have R0 := hide r0; have R1 := hide r1; have RB := hide rb; have RO := hide ro; have RL := hide rl; have RT := hide rt; have RV := hide rv
    have hk60 : k ≤ 60 := by omega
    clear r0 r1 rb ro rl rt rv hin HT2
    go_wp2_with fail
    refine HT3.out.mono ?_
    rintro e w1 ⟨rfl, rfl⟩
    go_wp2_with fail
    obtain ⟨Wa, hWa⟩ := xe (wr.setCell ⟨w.heap.size + 1, 1, none⟩ (.slice va (trimTo L k) vc))
    rw [← hWa]
    have A0 : Wa.heap[w.heap.size]? = some (.cells #[.bool false, .slice none 0 0] 222 (0, 0)) := by rw [hWa]; exact (ye (by omega)).trans R0.out
    have AB : Below w.heap.size w Wa := by rw [hWa]; exact RB.out.setCell (p := ⟨w.heap.size + 1, 1, none⟩) (by simp) _
    have AO : OwnL (w.heap.size + 2) Wa (.slice va k vc) L := by rw [hWa]; exact RO.out.other (p := ⟨w.heap.size + 1, 1, none⟩) (by simp) _
    obtain ⟨s1, s2⟩ := set2 A0 (.bool true) (.slice va (trimTo L k) vc)
    refine vn s1 rfl rfl ?_
    refine ⟨_, trimL L, rfl, AB.trans s2, ?_, yB RT.out, ?_, ?_⟩
    ·have h1 := (((AO.other (p := ⟨w.heap.size, 0, none⟩) (by simp) (.bool true)).other (p := ⟨w.heap.size, 1, none⟩) (by simp) (.slice va (trimTo L k) vc)).cut (k := trimTo L k) (by have := yj L k; rw [RL.out]; exact this)).mono (show w.heap.size ≤ w.heap.size + 2 by omega)
     unfold trimL
     rw [RL.out]
     exact h1
    ·rw [yR, RV.out, show D - 6 * k = 0 by omega, List.drop_zero, HV.out]
    ·rw [yJ]
     have := yj L L.length
     have := RL.out
     omega
end Go.Proofs.YtklgpilgalfckaaGreatDoor
namespace Go.KI
theorem yh1 {n R : Nat} (h : rootN n ≤ R) (h2 : R * R ≤ n) : rootN n = R := by
 refine kR h2 ?_
 obtain ⟨_, g2⟩ := yX n
 exact Nat.lt_of_lt_of_le g2 (Nat.mul_le_mul (by omega) (by omega))
theorem yfm {n R : Nat} (h : n < R * R) : (R + n / R) / 2 < R := by
 have hR : 0 < R := by
  rcases Nat.eq_zero_or_pos R with h0 | h0
  ·rw [h0] at h; omega
  ·exact h0
 have h1 : n / R < R := (Nat.div_lt_iff_lt_mul hR).2 h
 omega
end Go.KI
namespace Go.Proofs.YtklgpilgalfckaaGreatDoor
open Go.RowKit Go.KP Go.KI Go.Shelf
attribute [local go_sem] Oper.semAt_some

theorem norm2 : Norm 1000000 [2] := ⟨fun z hz => by simp only [List.mem_singleton] at hz; omega, .inr (by simp [lat])⟩
theorem row2 {w : World} : LimbAt (w.alloc (.cells #[.int .i64 2] 3)).heap.size (w.alloc (.cells #[.int .i64 2] 3)) (.slice (some ⟨w.heap.size, 0, none⟩) ([2] : List Nat).length 1) [2] := yV (heap_alloc_new w (rowO [2])) (by simp [maxLen])
theorem ye2 (s : ByteArray) (n : Nat) (w : World) (c1 : chkI s.data.toList = 0) (hn : valI s.data.toList = (n : Int)) :
 Calls Tryz.prog 160 #[.string s] w (Ret w (pairV (Lib.itoa ((rootN n : Nat) : Int)) 0)) := by
 have l1 := (yL c1).2
 rw [yg] at l1
 have HC := hide (vd s (by omega) w)
 rw [c1] at HC
 have HRD := hide (fun w => yeB s c1 w)
 have hsi := (qg c1).1
 rw [hn] at hsi
 rw [show decide (s.data.toList.head? = some 45) = false from decide_eq_false (fun h => by
  rw [hsi] at h
  have := (xl _).1 h
  omega), hn] at HRD
 have hlt : n < 10 ^ s.size := by
  have h := yK (n := s.size) c1 (by rw [yg]; exact Nat.le_refl _) (by have := jL c1; rw [yg] at this; exact this)
  rw [hn, Int.natAbs_natCast] at h
  exact h
 obtain ⟨hh, hhh⟩ := xe ((s.size + 1) / 2)
 have HST := hide (yaB (k := hh) hlt (by omega))
 have hhi : ((s.size : Int) + 1) / 2 = (hh : Int) := by omega
 have hh2 : hh ≤ 200 := by omega
 have hsl : s.size ≤ 301 := l1
 clear c1 l1 hn hsi hlt hhh
 go_enter Tryz.func160, Tryz.ntmps160
 go_wp2_with fail
 refine HC.out.mono ?_
 rintro e w1 ⟨rfl, hb1⟩
 have HB1 := hide hb1
 clear hb1 HC
 go_wp2_with fail
 refine (HRD.out _).mono ?_
 rintro e w2 ⟨vx, lx, rfl, hb2, ox, nx, qx, kx⟩
 obtain ⟨ax, cx, hvf, _, _⟩ := ox.form
 subst hvf
 have H3 := hide (heap1 w2 (bigO false (.slice ax lx.length cx)))
 have HB3 := hide (HB1.out.trans ((hb2.mono HB1.out.size).trans (H3.out.2.2.mono (Nat.le_trans HB1.out.size hb2.size))))
 have OX := hide ((ox.keep H3.out.2.2).mono (Nat.zero_le _)); have NX := hide nx
 have QX := hide (show lv 1000000 lx = n by
  have h : ((lv 1000000 lx : Nat) : Int) = (n : Int) := qx
  omega)
 have hnw0 : w.heap.size ≤ w2.heap.size := Nat.le_trans HB1.out.size hb2.size
 obtain ⟨w3, hw3⟩ : ∃ w3, w2.alloc (bigO false (.slice ax lx.length cx)) = w3 := ⟨_, rfl⟩
 have H4 := hide (show w3.heap[w2.heap.size]? = some (bigO false (.slice ax lx.length cx)) by rw [← hw3]; exact H3.out.1)
 rw [hw3] at HB3 OX
 have HW3 := hide hw3
 clear hb2 ox nx qx HB1 HRD H3 hw3
 have e0 := ya H4.out 0
 go_wp2_with fail
 rw [show w2.alloc (.cells #[.bool false, .slice ax lx.length cx] 222) = w3 from HW3.out]
 clear e0
 obtain ⟨nb, hnb⟩ := xe w2.heap.size
 rw [← hnb] at H4 hnw0 ⊢
 clear hnb HW3
 go_loopw [6, 7] (fun p i wr => ∃ (k : Nat) (t : ByteArray), k ≤ hh ∧ i = .int .i64 k ∧ p = .string t ∧ t.size ≤ 1 + k ∧ Hid (t.data.toList = [49] ++ List.replicate k 48) ∧ wr = w3) (fun _ i _ => hh - (intOf i).toNat)
 case atStart => exact ⟨0, ⟨#[49]⟩, Nat.zero_le _, rfl, rfl, by decide, rfl, rfl⟩
 case round =>
  obtain ⟨k, t, hk, rfl, rfl, hts, htt, rfl⟩ := hrel
  by_cases hlt : k < hh
  ·have hki : (k : Int) < (hh : Int) := by omega
   have hov : (9223372036854775807 < t.size + 1) = False := eq_false (by omega)
   have HTT := hide htt.out
   clear htt hlt
   go_wp2_with fail
   go_roundw
   case rel =>
    refine ⟨k + 1, _, by omega, by go_num, rfl, ?_, ?_, trivial⟩
    ·rw [ByteArray.size_append]
     have : (⟨#[48]⟩ : ByteArray).size = 1 := rfl
     omega
    ·have h := HTT.out
     show (t ++ ⟨#[48]⟩).data.toList = _
     rw [List.replicate_succ', ← List.append_assoc, ← h]
     simp
   case measure => simp [intOf]; omega
  ·obtain rfl : k = hh := by omega
   have hki : ((k : Int) < (k : Int)) = False := eq_false (by omega)
   obtain ⟨c2, v2⟩ := yaK k hh2
   have HR2 := hide (fun w => ze t (by rw [htt.out]; exact c2) w)
   rw [htt.out, v2] at HR2
   clear hlt htt hts c2 v2
   go_wp2_with fail
   refine (HR2.out _).mono ?_
   rintro e w4 ⟨m1, v1, l1, rfl, hb4, o1, n1, q1, k1⟩
   obtain ⟨a1, g1, hvf, _, _⟩ := o1.form
   subst hvf
   have HB4 := bt HB3 hb4
   have H5 := bh hb4 H4
   have OX4 := hide (OX.out.keep hb4)
   have O1 := hide (LimbAt.yx o1); have N1 := hide n1
   have Q1 := hide (show lv 1000000 l1 = 10 ^ k by
    have h := congrArg Int.natAbs q1
    rw [jn, Int.natAbs_natCast] at h
    exact h)
   clear hb4 o1 n1 q1 HR2 HB3 OX H4
   have hf1 := fun w => jK m1 (.slice a1 l1.length g1) w
   go_wp2_with fail
   clear hf1
   have HLE := hide (show rootN n ≤ lv 1000000 l1 by rw [Q1.out]; exact HST.out)
   go_loopw [8] (fun r wr => ∃ (a : Option Addr) (c : Nat) (l : List Nat), r = .slice a l.length c ∧ l.length ≤ 60 ∧ Hid (LimbAt wr.heap.size wr (.slice a l.length c) l ∧ Norm 1000000 l ∧ rootN n ≤ lv 1000000 l ∧ wr.heap[nb]? = some (bigO false (.slice ax lx.length cx)) ∧ OwnL 0 wr (.slice ax lx.length cx) lx ∧ Below w.heap.size w wr)) (fun r wr => lv 1000000 (limbsAt wr r))
   case atStart => exact ⟨a1, g1, l1, rfl, k1, O1.out, N1.out, HLE.out, H5.out, OX4.out, HB4.out⟩
   case round =>
    obtain ⟨ar, cr, r, rfl, hr, hin⟩ := hrel
    obtain ⟨iL, iN, iG, iH, iX, iW⟩ := hin.out
    have e1 := ya iH 1
    have hlt2 := yd iH
    have lxl : lx.length ≤ 60 := kx
    have HT := hide (kr (.slice ar r.length cr) (.slice ar r.length cr) r r wr.heap.size wr.drew iL iL (Nat.le_refl _) iN.lt iN.lt (by omega) (by omega))
    have HL := hide iL; have HN := hide iN; have HG := hide iG; have HH := hide iH; have HX := hide iX; have HW := hide iW
    clear iL iN iG iH iX iW hin
    go_wp2_with fail
    go_region_held3 (fun w' => w'.cell? ⟨nb, 1, none⟩ = some (.slice ax lx.length cx)) (first | exact e1 | exact d1 | exact x1)
     (first
       |(go_at_call 210
         refine HT.out.mono ?_
         rintro e w5 ⟨l3, ⟨v3, rfl, hb5, o3⟩, n3, q3, k3⟩
         obtain ⟨a3, c3, hvf, _, _⟩ := o3.form
         subst hvf
         have HB5 := hide (show Below wr.heap.size wr w5 from jA hb5)
         have d1 : w5.cell? ⟨nb, 1, none⟩ = some (.slice ax lx.length cx) := ya (yc HB5.out HH.out hlt2) 1
         have O3 := hide (LimbAt.yx o3); have N3 := hide n3; have Q3 := hide q3
         clear hb5 o3 n3 q3)
       |(go_at_call 209
         refine (yao (.slice a3 l3.length c3) (.slice ax lx.length cx) l3 lx w5.heap.size w5 O3.out (.yx (HX.out.keep HB5.out)) (Nat.le_refl _) N3.out NX.out (by omega)).mono ?_
         rintro e w6 ⟨r2, rfl, hr2, hb6⟩
         have HB6 := hide (show Below wr.heap.size wr w6 from HB5.out.trans (hb6.mono HB5.out.size))
         have x1 : w6.cell? ⟨nb, 1, none⟩ = some (.slice ax lx.length cx) := ya (yc HB6.out HH.out hlt2) 1
         have HR2 := hide hr2
         clear hb6 hr2)
       |fail)
    have HW6 := hide (HW.out.trans (HB6.out.mono HW.out.size))
    have HH6 := hide (yc HB6.out HH.out hlt2)
    have HX6 := hide (HX.out.keep HB6.out)
    have HL6 := hide ((HL.out.below HB6.out (Nat.le_refl _)).mono HB6.out.size)
    have hlt6 := yd HH6.out
    have hs6 := HB6.out.size
    have HC := hide (show CmpRes r2 (lv 1000000 r * lv 1000000 r) n by have h := HR2.out; rw [Q3.out, QX.out] at h; exact h)
    obtain ⟨wo, hwo⟩ := xe w6
    rw [← hwo] at HW6 HH6 HX6 HL6 hlt6 hs6 x1 ⊢
    clear hwo e1 d1 HB5 HB6 O3 N3 Q3 HH HX HW HT HR2
    by_cases hgt : 0 < r2
    ·have hsq : n < lv 1000000 r * lv 1000000 r := by
      have h := HC.out
      unfold CmpRes at h
      rcases Nat.lt_or_ge n (lv 1000000 r * lv 1000000 r) with h1 | h1
      ·exact h1
      ·exfalso
       rcases Nat.lt_or_eq_of_le h1 with h2 | h2
       ·have := h.1.2 h2
        omega
       ·have := h.2.2 h2
        omega
     have hrp : 0 < lv 1000000 r := by
      rcases Nat.eq_zero_or_pos (lv 1000000 r) with h | h
      ·rw [h] at hsq; omega
      ·exact h
     have hrn : r ≠ [] := fun e => by rw [e, ycI] at hrp; omega
     have HSQ := hide (yfm hsq); have HGE := hide (xJ (n := n) hrp)
     have HDV := hide (jy (.slice ax lx.length cx) (.slice ar r.length cr) lx r wo.heap.size wo (.yx HX6.out) HL6.out (Nat.le_refl _) NX.out.lt HN.out hrn (by omega) (by omega))
     clear hsq hrp hrn HC
     go_wp2_with fail
     refine HDV.out.mono ?_
     rintro e w7 ⟨vq, vr, q, rr, rfl, hb7, oq, or_, nq, nr, eq, er, lq⟩
     obtain ⟨aq, cq, hvf, _, _⟩ := oq.form
     subst hvf
     have HW7 := hide (HW6.out.trans (hb7.mono HW6.out.size)); have HH7 := hide (yc hb7 HH6.out hlt6); have HX7 := hide (HX6.out.keep hb7)
     have HL7 := hide ((HL6.out.below hb7 (Nat.le_refl _)).mono hb7.size)
     have OQ := hide (LimbAt.yx oq); have NQ := hide nq
     have EQ := hide (show lv 1000000 q = n / lv 1000000 r by rw [eq, QX.out])
     have hlt7 := yd HH7.out
     clear hb7 oq or_ nq nr eq er HDV HW6 HH6 HX6 HL6 x1 hlt6
     go_wp2_with fail
     refine (ybX (.slice ar r.length cr) (.slice aq q.length cq) r q w7.heap.size w7 HL7.out OQ.out (Nat.le_refl _) HN.out.lt NQ.out.lt (by omega) (by omega)).mono ?_
     rintro e w8 ⟨l8, ⟨v8, rfl, hb8, o8⟩, n8, q8, k8⟩
     obtain ⟨a8, c8, hvf, _, _⟩ := o8.form
     subst hvf
     have H2 := hide (row2 (w := w8))
     have hb8' := (show Below w7.heap.size w7 (w8.alloc (.cells #[.int .i64 2] 3)) from hb8.alloc hb8.size _)
     have HW8 := hide (HW7.out.trans (hb8'.mono HW7.out.size)); have HH8 := hide (yc hb8' HH7.out hlt7); have HX8 := hide (HX7.out.keep hb8')
     have O8 := hide (LimbAt.yx (o8.keep ((Below.refl _ _).alloc (Nat.le_refl _) (.cells #[.int .i64 2] 3)))); have N8 := hide n8
     have Q8 := hide (show lv 1000000 l8 = lv 1000000 r + n / lv 1000000 r by rw [q8, EQ.out])
     have hk8 : l8.length ≤ 200 := by omega
     clear hb8 hb8' o8 n8 q8 k8 HW7 HH7 HX7 HL7 OQ NQ EQ hlt7
     go_wp2_with fail
     obtain ⟨w9, hw9⟩ : ∃ w9, w8.alloc (.cells #[.int .i64 2] 3) = w9 := ⟨_, rfl⟩
     rw [hw9] at H2 HW8 HH8 HX8 O8 ⊢
     have hlt9 := yd HH8.out
     clear hw9
     refine (jy (.slice a8 l8.length c8) (.slice (some ⟨w8.heap.size, 0, none⟩) 1 1) l8 [2] w9.heap.size w9 O8.out H2.out (Nat.le_refl _) N8.out.lt norm2 (by simp) (by omega) (by simp)).mono ?_
     rintro e w10 ⟨vq2, vr2, q2, r3, rfl, hb10, oq2, or2, nq2, nr2, eq2, er2, lq2⟩
     obtain ⟨aq2, cq2, hvf, _, _⟩ := oq2.form
     subst hvf
     have HW10 := hide (HW8.out.trans (hb10.mono HW8.out.size)); have HH10 := hide (yc hb10 HH8.out hlt9); have HX10 := hide (HX8.out.keep hb10)
     have O10 := hide (LimbAt.yx oq2); have N10 := hide nq2
     have E10 := hide (show lv 1000000 q2 = (lv 1000000 r + n / lv 1000000 r) / 2 by rw [eq2, Q8.out]; congr 1)
     have hk10 : q2.length ≤ 60 := by
      have h := jg (b := 1000000) (by omega) nq2 HN.out.lt (by rw [E10.out]; exact Nat.le_of_lt HSQ.out)
      omega
     clear hb10 oq2 or2 nq2 nr2 eq2 er2 lq2 HW8 HH8 HX8 O8 N8 Q8 H2
     go_wp2_with fail
     go_roundw
     case rel => exact ⟨aq2, cq2, q2, rfl, hk10, O10.out, N10.out, by rw [E10.out]; exact HGE.out, HH10.out, HX10.out, HW10.out⟩
     case measure =>
      rw [zM O10.out, zM HL.out, E10.out]
      exact HSQ.out
    ·have hsq : lv 1000000 r * lv 1000000 r ≤ n := by
      have h := HC.out
      unfold CmpRes at h
      rcases Nat.lt_or_ge n (lv 1000000 r * lv 1000000 r) with h1 | h1
      ·exfalso
       rcases Int.lt_trichotomy r2 0 with h2 | h2 | h2
       ·have := h.1.1 h2
        omega
       ·have := h.2.1 h2
        omega
       ·exact hgt h2
      ·exact h1
     have hrt := yh1 HG.out hsq
     have hgt1 : decide (0 < r2) = false := decide_eq_false hgt
     rw [hgt1]
     have HWR := hide (je false (.slice ar r.length cr) r wo.heap.size wo HL6.out (Nat.le_refl _) HN.out (by omega))
     rw [show valS false (lv 1000000 r) = ((rootN n : Nat) : Int) by rw [hrt]; rfl] at HWR
     clear hsq hrt hgt HC hgt1
     go_wp2_with fail
     refine HWR.out.mono ?_
     rintro e w7 ⟨rfl, hb7⟩
     have HB7 := hide (HW6.out.trans (hb7.mono HW6.out.size))
     clear hb7 HWR
     go_wp2_with fail
     refine bodyPost_ret (results_tmp2 rfl _ _ _) rfl ?_
     exact ⟨rfl, HB7.out⟩
end Go.Proofs.YtklgpilgalfckaaGreatDoor
