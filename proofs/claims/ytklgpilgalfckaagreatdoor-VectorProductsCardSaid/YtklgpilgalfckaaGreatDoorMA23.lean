/-
 Texts laid together.
-/
import Derived.Test.YtklgpilgalfckaaGreatDoorMA22
import Derived.Test.YtklgpilgalfckaaGreatDoorMA19
import Derived.ChangeSame
import Derived.OpenShut
set_option maxRecDepth 100000
set_option maxHeartbeats 16000000
namespace Go.Proofs.YtklgpilgalfckaaGreatDoor
open Go.RowKit Go.KP Go.KI Go.Shelf
attribute [local go_sem] Oper.semAt_some

def grB (s : ByteArray) : Bool := decide ((40 < s.size ∧ s.size < 299) ∨ 604 < s.size)
def grV (V : S3) : Bool := grB V.x || grB V.y || grB V.z
theorem yfT {s : ByteArray} (h : grB s = false) : s.size ≤ 1000000 := by
 unfold grB at h
 have := of_decide_eq_false h
 omega
theorem yhA {V : S3} (h : grV V = false) : midS V := by
 unfold grV at h
 simp only [Bool.or_eq_false_iff] at h
 exact ⟨yfT h.1.1, yfT h.1.2, yfT h.2⟩
theorem vX (s : ByteArray) (w : World) : Calls Tryz.prog 42 #[.string s] w (Ret w (.bool (grB s))) := by
 have hway : (((40 : Int) < (s.size : Int)) ∧ ((s.size : Int) < 299) ∧ grB s = true) ∨ (((40 : Int) < (s.size : Int)) ∧ ((s.size : Int) < 299) = False ∧ ((604 : Int) < (s.size : Int)) ∧ grB s = true) ∨ (((40 : Int) < (s.size : Int)) ∧ ((s.size : Int) < 299) = False ∧ ((604 : Int) < (s.size : Int)) = False ∧ grB s = false) ∨ (((40 : Int) < (s.size : Int)) = False ∧ ((604 : Int) < (s.size : Int)) = False ∧ grB s = false) := by
  unfold grB
  by_cases h1 : 40 < s.size
  ·by_cases h2 : s.size < 299
   ·exact .inl ⟨by omega, by omega, decide_eq_true (.inl ⟨h1, h2⟩)⟩
   ·by_cases h3 : 604 < s.size
    ·exact .inr (.inl ⟨by omega, eq_false (by omega), by omega, decide_eq_true (.inr h3)⟩)
    ·exact .inr (.inr (.inl ⟨by omega, eq_false (by omega), eq_false (by omega), decide_eq_false (by omega)⟩))
  ·exact .inr (.inr (.inr ⟨eq_false (by omega), eq_false (by omega), decide_eq_false (by omega)⟩))
 obtain ⟨b, hb⟩ := xe (grB s)
 rw [← hb] at hway ⊢
 clear hb
 rcases hway with ⟨g1, g2, rfl⟩ | ⟨g1, g2, g3, rfl⟩ | ⟨g1, g2, g3, rfl⟩ | ⟨g1, g2, rfl⟩
 all_goals
  go_enter Tryz.func42, Tryz.ntmps42
  go_wp2_with fail
  refine bodyPost_ret (results_tmp rfl _ _ _) rfl ?_
  exact ⟨rfl, Below.refl _ _⟩
theorem wX (V : S3) (w : World) : Calls Tryz.prog 15 #[txtV V] w (Ret w (.bool (grV V))) := by
 have H1 := hide (fun w => vX V.x w)
 have H2 := hide (fun w => vX V.y w)
 have H3 := hide (fun w => vX V.z w)
 have X0 := hide (heap1 w (txtO V))
 unfold grV
 generalize grB V.x = b1 at H1 ⊢
 generalize grB V.y = b2 at H2 ⊢
 generalize grB V.z = b3 at H3 ⊢
 cases b1
 ·cases b2
  ·skip
   go_enter Tryz.func15, Tryz.ntmps15
   go_wp2_with fail
   refine (H1.out _).mono ?_
   rintro e w1 ⟨rfl, hb1⟩
   have G0 := hide (yc hb1 (X0.out.1) (yd (X0.out.1)))
   have HB1 := hide (Below.trans (X0.out.2.2) (hb1.mono (X0.out.2.2).size))
   clear hb1
   have q0_0 := ya G0.out 0
   have q0_1 := ya G0.out 1
   have q0_2 := ya G0.out 2
   have q0_l := yd G0.out
   go_wp2_with fail
   refine (H2.out _).mono ?_
   rintro e w2 ⟨rfl, hb2⟩
   clear q0_0 q0_1 q0_2 q0_l
   have G0 := bh hb2 G0
   have HB2 := hide (Below.trans (HB1.out) (hb2.mono (HB1.out).size))
   clear hb2
   have q0_0 := ya G0.out 0
   have q0_1 := ya G0.out 1
   have q0_2 := ya G0.out 2
   have q0_l := yd G0.out
   go_wp2_with fail
   refine (H3.out _).mono ?_
   rintro e w3 ⟨rfl, hb3⟩
   clear q0_0 q0_1 q0_2 q0_l
   have G0 := bh hb3 G0
   have HB3 := hide (Below.trans (HB2.out) (hb3.mono (HB2.out).size))
   clear hb3
   have q0_0 := ya G0.out 0
   have q0_1 := ya G0.out 1
   have q0_2 := ya G0.out 2
   have q0_l := yd G0.out
   go_wp2_with fail
   refine bodyPost_ret (results_tmp rfl _ _ _) rfl ?_
   exact ⟨rfl, HB3.out⟩
  ·skip
   go_enter Tryz.func15, Tryz.ntmps15
   go_wp2_with fail
   refine (H1.out _).mono ?_
   rintro e w1 ⟨rfl, hb1⟩
   have G0 := hide (yc hb1 (X0.out.1) (yd (X0.out.1)))
   have HB1 := hide (Below.trans (X0.out.2.2) (hb1.mono (X0.out.2.2).size))
   clear hb1
   have q0_0 := ya G0.out 0
   have q0_1 := ya G0.out 1
   have q0_2 := ya G0.out 2
   have q0_l := yd G0.out
   go_wp2_with fail
   refine (H2.out _).mono ?_
   rintro e w2 ⟨rfl, hb2⟩
   clear q0_0 q0_1 q0_2 q0_l
   have G0 := bh hb2 G0
   have HB2 := hide (Below.trans (HB1.out) (hb2.mono (HB1.out).size))
   clear hb2
   have q0_0 := ya G0.out 0
   have q0_1 := ya G0.out 1
   have q0_2 := ya G0.out 2
   have q0_l := yd G0.out
   go_wp2_with fail
   refine bodyPost_ret (results_tmp rfl _ _ _) rfl ?_
   exact ⟨rfl, HB2.out⟩
 ·skip
  go_enter Tryz.func15, Tryz.ntmps15
  go_wp2_with fail
  refine (H1.out _).mono ?_
  rintro e w1 ⟨rfl, hb1⟩
  have G0 := hide (yc hb1 (X0.out.1) (yd (X0.out.1)))
  have HB1 := hide (Below.trans (X0.out.2.2) (hb1.mono (X0.out.2.2).size))
  clear hb1
  have q0_0 := ya G0.out 0
  have q0_1 := ya G0.out 1
  have q0_2 := ya G0.out 2
  have q0_l := yd G0.out
  go_wp2_with fail
  refine bodyPost_ret (results_tmp rfl _ _ _) rfl ?_
  exact ⟨rfl, HB1.out⟩
theorem ybe (w : World) : Calls Tryz.prog 25 #[.slice none 0 0, .slice none 0 0] w (Ret w (.bool true)) := by
 go_enter Tryz.func25, Tryz.ntmps25
 go_wp2_with fail
 refine wp_loop_rounds 1 ?_
 rw [rounds_succ]
 go_wp2_with fail
 go_ret
 exact ⟨rfl, Below.refl _ _⟩
theorem ycd (a b : Nat) (c n : ByteArray) (w : World) (h1 : w.heap[a]? = some (termO c n)) (h2 : w.heap[b]? = some (termO c n)) :
 Calls Tryz.prog 25 #[.slice (some ⟨a, 0, none⟩) 1 1, .slice (some ⟨b, 0, none⟩) 1 1] w (Ret w (.bool true)) := by
 have a0 := ya h1 0
 have a1 := ya h1 1
 have b0 := ya h2 0
 have b1 := ya h2 1
 have he := fun w => eqTerm c n w
 clear h1 h2
 go_enter Tryz.func25, Tryz.ntmps25
 go_wp2_with fail
 refine wp_loop_rounds 2 ?_
 rw [rounds_succ]
 go_wp2_with fail
 go_quiet (fail)
 have HB := hide (below_drewN (Below.refl w.heap.size w) nq)
 go_wp2_with fail
 rw [rounds_succ]
 go_wp2_with fail
 go_ret
 exact ⟨rfl, HB.out⟩
theorem xD (V U : S3) (B : Nat) (w : World) (hB : B ≤ w.heap.size) (hT : PR B w) :
 Calls Tryz.prog 5 #[txtV V, txtV U] w (Ret w (.bool true)) := by
 have HT := hide hT
 have HA := hide (fun w hB hT => ycV B w hB hT)
 have HG1 := hide (fun w => wX V w)
 have HG2 := hide (fun w => wX U w)
 have X0 := hide (heap2 w (txtO V) (txtO U))
 obtain ⟨g1, h1⟩ := xe (grV V)
 obtain ⟨g2, h2⟩ := xe (grV U)
 rw [← h1] at HG1
 rw [← h2] at HG2
 clear hT
 cases g1
 rotate_left
 ·clear h1 h2
  go_enter Tryz.func5, Tryz.ntmps5
  go_wp2_with fail
  refine (HG1.out _).mono ?_
  rintro e w1 ⟨rfl, hb1⟩
  have HB1 := hide (Below.trans (X0.out.2.2.2) (hb1.mono (X0.out.2.2.2).size))
  clear hb1
  go_wp2_with fail
  refine (HA.out _ (Nat.le_trans hB HB1.out.size) (HT.out.on HB1.out hB)).mono ?_
  rintro e w2 ⟨rfl, hb2⟩
  have HB2 := hide (Below.trans (HB1.out) (hb2.mono (HB1.out).size))
  clear hb2
  go_wp2_with fail
  refine bodyPost_ret (results_tmp rfl _ _ _) rfl ?_
  exact ⟨rfl, HB2.out⟩
 cases g2
 rotate_left
 ·clear h1 h2
  go_enter Tryz.func5, Tryz.ntmps5
  go_wp2_with fail
  refine (HG1.out _).mono ?_
  rintro e w1 ⟨rfl, hb1⟩
  have G0 := hide (yc hb1 (X0.out.2.1) (yd (X0.out.2.1)))
  have HB1 := hide (Below.trans (X0.out.2.2.2) (hb1.mono (X0.out.2.2.2).size))
  clear hb1
  have q0_0 := ya G0.out 0
  have q0_1 := ya G0.out 1
  have q0_2 := ya G0.out 2
  have q0_l := yd G0.out
  go_wp2_with fail
  refine (HG2.out _).mono ?_
  rintro e w2 ⟨rfl, hb2⟩
  clear q0_0 q0_1 q0_2 q0_l
  have G0 := bh hb2 G0
  have HB2 := hide (Below.trans (HB1.out) (hb2.mono (HB1.out).size))
  clear hb2
  have q0_0 := ya G0.out 0
  have q0_1 := ya G0.out 1
  have q0_2 := ya G0.out 2
  have q0_l := yd G0.out
  go_wp2_with fail
  refine (HA.out _ (Nat.le_trans hB HB2.out.size) (HT.out.on HB2.out hB)).mono ?_
  rintro e w3 ⟨rfl, hb3⟩
  clear q0_0 q0_1 q0_2 q0_l
  have G0 := bh hb3 G0
  have HB3 := hide (Below.trans (HB2.out) (hb3.mono (HB2.out).size))
  clear hb3
  have q0_0 := ya G0.out 0
  have q0_1 := ya G0.out 1
  have q0_2 := ya G0.out 2
  have q0_l := yd G0.out
  go_wp2_with fail
  refine bodyPost_ret (results_tmp rfl _ _ _) rfl ?_
  exact ⟨rfl, HB3.out⟩
 have mV := yhA h1.symm
 have mU := yhA h2.symm
 obtain ⟨s, e1, D1, D2⟩ := ygC V U mV mU B
 obtain ⟨cx, cy, cz, e2, C1, C2⟩ := yeG V U mV mU B
 have hlen := ydi V mV B
 obtain ⟨p, e4, P1, P2⟩ := ybn V U mV mU B
 have ss : (s.toList == s.toList) = true := beq_self_eq_true _
 have es : ∀ w, (Op.equalIn 10000 28 (spotV cx cy cz) (spotV cx cy cz)).run Tryz.prog w = .ok true w := fun w => by
  rw [eqSpot]
  simp
 have i1 : ((e1 : Int) == e1) = true := beq_self_eq_true _
 have i2 : ((e2 : Int) == e2) = true := beq_self_eq_true _
 have i4 : ((e4 : Int) == e4) = true := beq_self_eq_true _
 have ip : (p == p) = true := beq_self_eq_true _
 clear h1 h2 mV mU
 rcases hlen with ⟨e3, l1, l2⟩ | ⟨tc, tn, l1, l2⟩
 ·have L1 := hide l1
  have L2 := hide l2
  clear l1 l2
  have i3 : ((e3 : Int) == e3) = true := beq_self_eq_true _
  have HS := hide (fun w => ybe w)
  go_enter Tryz.func5, Tryz.ntmps5
  go_wp2_with fail
  refine (HG1.out _).mono ?_
  rintro e w1 ⟨rfl, hb1⟩
  have G0 := hide (yc hb1 (X0.out.1) (yd (X0.out.1)))
  have G1 := hide (yc hb1 (X0.out.2.1) (yd (X0.out.2.1)))
  have HB1 := hide (Below.trans (X0.out.2.2.2) (hb1.mono (X0.out.2.2.2).size))
  clear hb1
  have q0_0 := ya G0.out 0
  have q0_1 := ya G0.out 1
  have q0_2 := ya G0.out 2
  have q0_l := yd G0.out
  have q1_0 := ya G1.out 0
  have q1_1 := ya G1.out 1
  have q1_2 := ya G1.out 2
  have q1_l := yd G1.out
  go_wp2_with fail
  refine (HG2.out _).mono ?_
  rintro e w2 ⟨rfl, hb2⟩
  clear q0_0 q0_1 q0_2 q1_0 q1_1 q1_2 q0_l q1_l
  have G0 := bh hb2 G0
  have G1 := bh hb2 G1
  have HB2 := hide (Below.trans (HB1.out) (hb2.mono (HB1.out).size))
  clear hb2
  have q0_0 := ya G0.out 0
  have q0_1 := ya G0.out 1
  have q0_2 := ya G0.out 2
  have q0_l := yd G0.out
  have q1_0 := ya G1.out 0
  have q1_1 := ya G1.out 1
  have q1_2 := ya G1.out 2
  have q1_l := yd G1.out
  go_wp2_with fail
  refine (D1.out _ (Nat.le_trans hB HB2.out.size) (HT.out.on HB2.out hB).pq).mono ?_
  rintro e w3 ⟨rfl, hb3⟩
  clear q0_0 q0_1 q0_2 q1_0 q1_1 q1_2 q0_l q1_l
  have G0 := bh hb3 G0
  have G1 := bh hb3 G1
  have HB3 := hide (Below.trans (HB2.out) (hb3.mono (HB2.out).size))
  clear hb3
  have q0_0 := ya G0.out 0
  have q0_1 := ya G0.out 1
  have q0_2 := ya G0.out 2
  have q0_l := yd G0.out
  have q1_0 := ya G1.out 0
  have q1_1 := ya G1.out 1
  have q1_2 := ya G1.out 2
  have q1_l := yd G1.out
  go_wp2_with fail
  refine (D2.out _ (Nat.le_trans hB HB3.out.size) (HT.out.on HB3.out hB).pq).mono ?_
  rintro e w4 ⟨rfl, hb4⟩
  clear q0_0 q0_1 q0_2 q1_0 q1_1 q1_2 q0_l q1_l
  have G0 := bh hb4 G0
  have G1 := bh hb4 G1
  have HB4 := hide (Below.trans (HB3.out) (hb4.mono (HB3.out).size))
  clear hb4
  have q0_0 := ya G0.out 0
  have q0_1 := ya G0.out 1
  have q0_2 := ya G0.out 2
  have q0_l := yd G0.out
  have q1_0 := ya G1.out 0
  have q1_1 := ya G1.out 1
  have q1_2 := ya G1.out 2
  have q1_l := yd G1.out
  go_wp2_with fail
  refine (C1.out _ (Nat.le_trans hB HB4.out.size) (HT.out.on HB4.out hB).pq).mono ?_
  rintro e w5 ⟨rfl, hb5⟩
  clear q0_0 q0_1 q0_2 q1_0 q1_1 q1_2 q0_l q1_l
  have X := hide (heap1 w5 (spotO cx cy cz))
  have hb5 := hb5.trans (X.out.2.2.mono hb5.size)
  have G0 := bh hb5 G0
  have G1 := bh hb5 G1
  have G2 := hide X.out.1
  have HB5 := hide (Below.trans (HB4.out) (hb5.mono (HB4.out).size))
  clear hb5 X
  have q0_0 := ya G0.out 0
  have q0_1 := ya G0.out 1
  have q0_2 := ya G0.out 2
  have q0_l := yd G0.out
  have q1_0 := ya G1.out 0
  have q1_1 := ya G1.out 1
  have q1_2 := ya G1.out 2
  have q1_l := yd G1.out
  have q2_0 := ya G2.out 0
  have q2_1 := ya G2.out 1
  have q2_2 := ya G2.out 2
  have q2_l := yd G2.out
  go_wp2_with fail
  refine (C2.out _ (Nat.le_trans hB HB5.out.size) (HT.out.on HB5.out hB).pq).mono ?_
  rintro e w6 ⟨rfl, hb6⟩
  clear q0_0 q0_1 q0_2 q1_0 q1_1 q1_2 q2_0 q2_1 q2_2 q0_l q1_l q2_l
  have X := hide (heap1 w6 (spotO cx cy cz))
  have hb6 := hb6.trans (X.out.2.2.mono hb6.size)
  have G0 := bh hb6 G0
  have G1 := bh hb6 G1
  have G2 := bh hb6 G2
  have G3 := hide X.out.1
  have HB6 := hide (Below.trans (HB5.out) (hb6.mono (HB5.out).size))
  clear hb6 X
  have q0_0 := ya G0.out 0
  have q0_1 := ya G0.out 1
  have q0_2 := ya G0.out 2
  have q0_l := yd G0.out
  have q1_0 := ya G1.out 0
  have q1_1 := ya G1.out 1
  have q1_2 := ya G1.out 2
  have q1_l := yd G1.out
  have q2_0 := ya G2.out 0
  have q2_1 := ya G2.out 1
  have q2_2 := ya G2.out 2
  have q2_l := yd G2.out
  have q3_0 := ya G3.out 0
  have q3_1 := ya G3.out 1
  have q3_2 := ya G3.out 2
  have q3_l := yd G3.out
  go_wp2_with fail
  refine (L1.out _ (Nat.le_trans hB HB6.out.size) (HT.out.on HB6.out hB)).mono ?_
  rintro e w7 ⟨rfl, hb7⟩
  clear q0_0 q0_1 q0_2 q1_0 q1_1 q1_2 q2_0 q2_1 q2_2 q3_0 q3_1 q3_2 q0_l q1_l q2_l q3_l
  have G0 := bh hb7 G0
  have G1 := bh hb7 G1
  have G2 := bh hb7 G2
  have G3 := bh hb7 G3
  have HB7 := hide (Below.trans (HB6.out) (hb7.mono (HB6.out).size))
  clear hb7
  have q0_0 := ya G0.out 0
  have q0_1 := ya G0.out 1
  have q0_2 := ya G0.out 2
  have q0_l := yd G0.out
  have q1_0 := ya G1.out 0
  have q1_1 := ya G1.out 1
  have q1_2 := ya G1.out 2
  have q1_l := yd G1.out
  have q2_0 := ya G2.out 0
  have q2_1 := ya G2.out 1
  have q2_2 := ya G2.out 2
  have q2_l := yd G2.out
  have q3_0 := ya G3.out 0
  have q3_1 := ya G3.out 1
  have q3_2 := ya G3.out 2
  have q3_l := yd G3.out
  go_wp2_with fail
  refine (L2.out _ (Nat.le_trans hB HB7.out.size) (HT.out.on HB7.out hB)).mono ?_
  rintro e w8 ⟨rfl, hb8⟩
  clear q0_0 q0_1 q0_2 q1_0 q1_1 q1_2 q2_0 q2_1 q2_2 q3_0 q3_1 q3_2 q0_l q1_l q2_l q3_l
  have G0 := bh hb8 G0
  have G1 := bh hb8 G1
  have G2 := bh hb8 G2
  have G3 := bh hb8 G3
  have HB8 := hide (Below.trans (HB7.out) (hb8.mono (HB7.out).size))
  clear hb8
  have q0_0 := ya G0.out 0
  have q0_1 := ya G0.out 1
  have q0_2 := ya G0.out 2
  have q0_l := yd G0.out
  have q1_0 := ya G1.out 0
  have q1_1 := ya G1.out 1
  have q1_2 := ya G1.out 2
  have q1_l := yd G1.out
  have q2_0 := ya G2.out 0
  have q2_1 := ya G2.out 1
  have q2_2 := ya G2.out 2
  have q2_l := yd G2.out
  have q3_0 := ya G3.out 0
  have q3_1 := ya G3.out 1
  have q3_2 := ya G3.out 2
  have q3_l := yd G3.out
  go_wp2_with fail
  refine (P1.out _ (Nat.le_trans hB HB8.out.size) (HT.out.on HB8.out hB).pq).mono ?_
  rintro e w9 ⟨rfl, hb9⟩
  clear q0_0 q0_1 q0_2 q1_0 q1_1 q1_2 q2_0 q2_1 q2_2 q3_0 q3_1 q3_2 q0_l q1_l q2_l q3_l
  have G0 := bh hb9 G0
  have G1 := bh hb9 G1
  have G2 := bh hb9 G2
  have G3 := bh hb9 G3
  have HB9 := hide (Below.trans (HB8.out) (hb9.mono (HB8.out).size))
  clear hb9
  have q0_0 := ya G0.out 0
  have q0_1 := ya G0.out 1
  have q0_2 := ya G0.out 2
  have q0_l := yd G0.out
  have q1_0 := ya G1.out 0
  have q1_1 := ya G1.out 1
  have q1_2 := ya G1.out 2
  have q1_l := yd G1.out
  have q2_0 := ya G2.out 0
  have q2_1 := ya G2.out 1
  have q2_2 := ya G2.out 2
  have q2_l := yd G2.out
  have q3_0 := ya G3.out 0
  have q3_1 := ya G3.out 1
  have q3_2 := ya G3.out 2
  have q3_l := yd G3.out
  go_wp2_with fail
  refine (P2.out _ (Nat.le_trans hB HB9.out.size) (HT.out.on HB9.out hB).pq).mono ?_
  rintro e w10 ⟨rfl, hb10⟩
  clear q0_0 q0_1 q0_2 q1_0 q1_1 q1_2 q2_0 q2_1 q2_2 q3_0 q3_1 q3_2 q0_l q1_l q2_l q3_l
  have G0 := bh hb10 G0
  have G1 := bh hb10 G1
  have G2 := bh hb10 G2
  have G3 := bh hb10 G3
  have HB10 := hide (Below.trans (HB9.out) (hb10.mono (HB9.out).size))
  clear hb10
  have q0_0 := ya G0.out 0
  have q0_1 := ya G0.out 1
  have q0_2 := ya G0.out 2
  have q0_l := yd G0.out
  have q1_0 := ya G1.out 0
  have q1_1 := ya G1.out 1
  have q1_2 := ya G1.out 2
  have q1_l := yd G1.out
  have q2_0 := ya G2.out 0
  have q2_1 := ya G2.out 1
  have q2_2 := ya G2.out 2
  have q2_l := yd G2.out
  have q3_0 := ya G3.out 0
  have q3_1 := ya G3.out 1
  have q3_2 := ya G3.out 2
  have q3_l := yd G3.out
  go_wp2_with fail
  refine (HS.out _).mono ?_
  rintro e w11 ⟨rfl, hb11⟩
  clear q0_0 q0_1 q0_2 q1_0 q1_1 q1_2 q2_0 q2_1 q2_2 q3_0 q3_1 q3_2 q0_l q1_l q2_l q3_l
  have G0 := bh hb11 G0
  have G1 := bh hb11 G1
  have G2 := bh hb11 G2
  have G3 := bh hb11 G3
  have HB11 := hide (Below.trans (HB10.out) (hb11.mono (HB10.out).size))
  clear hb11
  have q0_0 := ya G0.out 0
  have q0_1 := ya G0.out 1
  have q0_2 := ya G0.out 2
  have q0_l := yd G0.out
  have q1_0 := ya G1.out 0
  have q1_1 := ya G1.out 1
  have q1_2 := ya G1.out 2
  have q1_l := yd G1.out
  have q2_0 := ya G2.out 0
  have q2_1 := ya G2.out 1
  have q2_2 := ya G2.out 2
  have q2_l := yd G2.out
  have q3_0 := ya G3.out 0
  have q3_1 := ya G3.out 1
  have q3_2 := ya G3.out 2
  have q3_l := yd G3.out
  go_wp2_with fail
  refine (HA.out _ (Nat.le_trans hB HB11.out.size) (HT.out.on HB11.out hB)).mono ?_
  rintro e w12 ⟨rfl, hb12⟩
  clear q0_0 q0_1 q0_2 q1_0 q1_1 q1_2 q2_0 q2_1 q2_2 q3_0 q3_1 q3_2 q0_l q1_l q2_l q3_l
  have G0 := bh hb12 G0
  have G1 := bh hb12 G1
  have G2 := bh hb12 G2
  have G3 := bh hb12 G3
  have HB12 := hide (Below.trans (HB11.out) (hb12.mono (HB11.out).size))
  clear hb12
  have q0_0 := ya G0.out 0
  have q0_1 := ya G0.out 1
  have q0_2 := ya G0.out 2
  have q0_l := yd G0.out
  have q1_0 := ya G1.out 0
  have q1_1 := ya G1.out 1
  have q1_2 := ya G1.out 2
  have q1_l := yd G1.out
  have q2_0 := ya G2.out 0
  have q2_1 := ya G2.out 1
  have q2_2 := ya G2.out 2
  have q2_l := yd G2.out
  have q3_0 := ya G3.out 0
  have q3_1 := ya G3.out 1
  have q3_2 := ya G3.out 2
  have q3_l := yd G3.out
  go_wp2_with fail
  refine bodyPost_ret (results_tmp rfl _ _ _) rfl ?_
  exact ⟨rfl, HB12.out⟩
 ·have L1 := hide l1
  have L2 := hide l2
  clear l1 l2
  have HS := hide (fun a b w h1 h2 => ycd a b tc tn w h1 h2)
  go_enter Tryz.func5, Tryz.ntmps5
  go_wp2_with fail
  refine (HG1.out _).mono ?_
  rintro e w1 ⟨rfl, hb1⟩
  have G0 := hide (yc hb1 (X0.out.1) (yd (X0.out.1)))
  have G1 := hide (yc hb1 (X0.out.2.1) (yd (X0.out.2.1)))
  have HB1 := hide (Below.trans (X0.out.2.2.2) (hb1.mono (X0.out.2.2.2).size))
  clear hb1
  have q0_0 := ya G0.out 0
  have q0_1 := ya G0.out 1
  have q0_2 := ya G0.out 2
  have q0_l := yd G0.out
  have q1_0 := ya G1.out 0
  have q1_1 := ya G1.out 1
  have q1_2 := ya G1.out 2
  have q1_l := yd G1.out
  go_wp2_with fail
  refine (HG2.out _).mono ?_
  rintro e w2 ⟨rfl, hb2⟩
  clear q0_0 q0_1 q0_2 q1_0 q1_1 q1_2 q0_l q1_l
  have G0 := bh hb2 G0
  have G1 := bh hb2 G1
  have HB2 := hide (Below.trans (HB1.out) (hb2.mono (HB1.out).size))
  clear hb2
  have q0_0 := ya G0.out 0
  have q0_1 := ya G0.out 1
  have q0_2 := ya G0.out 2
  have q0_l := yd G0.out
  have q1_0 := ya G1.out 0
  have q1_1 := ya G1.out 1
  have q1_2 := ya G1.out 2
  have q1_l := yd G1.out
  go_wp2_with fail
  refine (D1.out _ (Nat.le_trans hB HB2.out.size) (HT.out.on HB2.out hB).pq).mono ?_
  rintro e w3 ⟨rfl, hb3⟩
  clear q0_0 q0_1 q0_2 q1_0 q1_1 q1_2 q0_l q1_l
  have G0 := bh hb3 G0
  have G1 := bh hb3 G1
  have HB3 := hide (Below.trans (HB2.out) (hb3.mono (HB2.out).size))
  clear hb3
  have q0_0 := ya G0.out 0
  have q0_1 := ya G0.out 1
  have q0_2 := ya G0.out 2
  have q0_l := yd G0.out
  have q1_0 := ya G1.out 0
  have q1_1 := ya G1.out 1
  have q1_2 := ya G1.out 2
  have q1_l := yd G1.out
  go_wp2_with fail
  refine (D2.out _ (Nat.le_trans hB HB3.out.size) (HT.out.on HB3.out hB).pq).mono ?_
  rintro e w4 ⟨rfl, hb4⟩
  clear q0_0 q0_1 q0_2 q1_0 q1_1 q1_2 q0_l q1_l
  have G0 := bh hb4 G0
  have G1 := bh hb4 G1
  have HB4 := hide (Below.trans (HB3.out) (hb4.mono (HB3.out).size))
  clear hb4
  have q0_0 := ya G0.out 0
  have q0_1 := ya G0.out 1
  have q0_2 := ya G0.out 2
  have q0_l := yd G0.out
  have q1_0 := ya G1.out 0
  have q1_1 := ya G1.out 1
  have q1_2 := ya G1.out 2
  have q1_l := yd G1.out
  go_wp2_with fail
  refine (C1.out _ (Nat.le_trans hB HB4.out.size) (HT.out.on HB4.out hB).pq).mono ?_
  rintro e w5 ⟨rfl, hb5⟩
  clear q0_0 q0_1 q0_2 q1_0 q1_1 q1_2 q0_l q1_l
  have X := hide (heap1 w5 (spotO cx cy cz))
  have hb5 := hb5.trans (X.out.2.2.mono hb5.size)
  have G0 := bh hb5 G0
  have G1 := bh hb5 G1
  have G2 := hide X.out.1
  have HB5 := hide (Below.trans (HB4.out) (hb5.mono (HB4.out).size))
  clear hb5 X
  have q0_0 := ya G0.out 0
  have q0_1 := ya G0.out 1
  have q0_2 := ya G0.out 2
  have q0_l := yd G0.out
  have q1_0 := ya G1.out 0
  have q1_1 := ya G1.out 1
  have q1_2 := ya G1.out 2
  have q1_l := yd G1.out
  have q2_0 := ya G2.out 0
  have q2_1 := ya G2.out 1
  have q2_2 := ya G2.out 2
  have q2_l := yd G2.out
  go_wp2_with fail
  refine (C2.out _ (Nat.le_trans hB HB5.out.size) (HT.out.on HB5.out hB).pq).mono ?_
  rintro e w6 ⟨rfl, hb6⟩
  clear q0_0 q0_1 q0_2 q1_0 q1_1 q1_2 q2_0 q2_1 q2_2 q0_l q1_l q2_l
  have X := hide (heap1 w6 (spotO cx cy cz))
  have hb6 := hb6.trans (X.out.2.2.mono hb6.size)
  have G0 := bh hb6 G0
  have G1 := bh hb6 G1
  have G2 := bh hb6 G2
  have G3 := hide X.out.1
  have HB6 := hide (Below.trans (HB5.out) (hb6.mono (HB5.out).size))
  clear hb6 X
  have q0_0 := ya G0.out 0
  have q0_1 := ya G0.out 1
  have q0_2 := ya G0.out 2
  have q0_l := yd G0.out
  have q1_0 := ya G1.out 0
  have q1_1 := ya G1.out 1
  have q1_2 := ya G1.out 2
  have q1_l := yd G1.out
  have q2_0 := ya G2.out 0
  have q2_1 := ya G2.out 1
  have q2_2 := ya G2.out 2
  have q2_l := yd G2.out
  have q3_0 := ya G3.out 0
  have q3_1 := ya G3.out 1
  have q3_2 := ya G3.out 2
  have q3_l := yd G3.out
  go_wp2_with fail
  refine (L1.out _ (Nat.le_trans hB HB6.out.size) (HT.out.on HB6.out hB)).mono ?_
  rintro e w7 ⟨b1, hle1, hgb1, rfl, hb7⟩
  clear q0_0 q0_1 q0_2 q1_0 q1_1 q1_2 q2_0 q2_1 q2_2 q3_0 q3_1 q3_2 q0_l q1_l q2_l q3_l
  have G0 := bh hb7 G0
  have G1 := bh hb7 G1
  have G2 := bh hb7 G2
  have G3 := bh hb7 G3
  have HB7 := hide (Below.trans (HB6.out) (hb7.mono (HB6.out).size))
  clear hb7
  have q0_0 := ya G0.out 0
  have q0_1 := ya G0.out 1
  have q0_2 := ya G0.out 2
  have q0_l := yd G0.out
  have q1_0 := ya G1.out 0
  have q1_1 := ya G1.out 1
  have q1_2 := ya G1.out 2
  have q1_l := yd G1.out
  have q2_0 := ya G2.out 0
  have q2_1 := ya G2.out 1
  have q2_2 := ya G2.out 2
  have q2_l := yd G2.out
  have q3_0 := ya G3.out 0
  have q3_1 := ya G3.out 1
  have q3_2 := ya G3.out 2
  have q3_l := yd G3.out
  have G4 := hide hgb1
  clear hgb1
  have q4_0 := ya G4.out 0
  have q4_1 := ya G4.out 1
  have q4_l := yd G4.out
  go_wp2_with fail
  refine (L2.out _ (Nat.le_trans hB HB7.out.size) (HT.out.on HB7.out hB)).mono ?_
  rintro e w8 ⟨b2, hle2, hgb2, rfl, hb8⟩
  clear q0_0 q0_1 q0_2 q1_0 q1_1 q1_2 q2_0 q2_1 q2_2 q3_0 q3_1 q3_2 q4_0 q4_1 q0_l q1_l q2_l q3_l q4_l
  have G0 := bh hb8 G0
  have G1 := bh hb8 G1
  have G2 := bh hb8 G2
  have G3 := bh hb8 G3
  have G4 := bh hb8 G4
  have HB8 := hide (Below.trans (HB7.out) (hb8.mono (HB7.out).size))
  clear hb8
  have q0_0 := ya G0.out 0
  have q0_1 := ya G0.out 1
  have q0_2 := ya G0.out 2
  have q0_l := yd G0.out
  have q1_0 := ya G1.out 0
  have q1_1 := ya G1.out 1
  have q1_2 := ya G1.out 2
  have q1_l := yd G1.out
  have q2_0 := ya G2.out 0
  have q2_1 := ya G2.out 1
  have q2_2 := ya G2.out 2
  have q2_l := yd G2.out
  have q3_0 := ya G3.out 0
  have q3_1 := ya G3.out 1
  have q3_2 := ya G3.out 2
  have q3_l := yd G3.out
  have q4_0 := ya G4.out 0
  have q4_1 := ya G4.out 1
  have q4_l := yd G4.out
  have G5 := hide hgb2
  clear hgb2
  have q5_0 := ya G5.out 0
  have q5_1 := ya G5.out 1
  have q5_l := yd G5.out
  go_wp2_with fail
  refine (P1.out _ (Nat.le_trans hB HB8.out.size) (HT.out.on HB8.out hB).pq).mono ?_
  rintro e w9 ⟨rfl, hb9⟩
  clear q0_0 q0_1 q0_2 q1_0 q1_1 q1_2 q2_0 q2_1 q2_2 q3_0 q3_1 q3_2 q4_0 q4_1 q5_0 q5_1 q0_l q1_l q2_l q3_l q4_l q5_l
  have G0 := bh hb9 G0
  have G1 := bh hb9 G1
  have G2 := bh hb9 G2
  have G3 := bh hb9 G3
  have G4 := bh hb9 G4
  have G5 := bh hb9 G5
  have HB9 := hide (Below.trans (HB8.out) (hb9.mono (HB8.out).size))
  clear hb9
  have q0_0 := ya G0.out 0
  have q0_1 := ya G0.out 1
  have q0_2 := ya G0.out 2
  have q0_l := yd G0.out
  have q1_0 := ya G1.out 0
  have q1_1 := ya G1.out 1
  have q1_2 := ya G1.out 2
  have q1_l := yd G1.out
  have q2_0 := ya G2.out 0
  have q2_1 := ya G2.out 1
  have q2_2 := ya G2.out 2
  have q2_l := yd G2.out
  have q3_0 := ya G3.out 0
  have q3_1 := ya G3.out 1
  have q3_2 := ya G3.out 2
  have q3_l := yd G3.out
  have q4_0 := ya G4.out 0
  have q4_1 := ya G4.out 1
  have q4_l := yd G4.out
  have q5_0 := ya G5.out 0
  have q5_1 := ya G5.out 1
  have q5_l := yd G5.out
  go_wp2_with fail
  refine (P2.out _ (Nat.le_trans hB HB9.out.size) (HT.out.on HB9.out hB).pq).mono ?_
  rintro e w10 ⟨rfl, hb10⟩
  clear q0_0 q0_1 q0_2 q1_0 q1_1 q1_2 q2_0 q2_1 q2_2 q3_0 q3_1 q3_2 q4_0 q4_1 q5_0 q5_1 q0_l q1_l q2_l q3_l q4_l q5_l
  have G0 := bh hb10 G0
  have G1 := bh hb10 G1
  have G2 := bh hb10 G2
  have G3 := bh hb10 G3
  have G4 := bh hb10 G4
  have G5 := bh hb10 G5
  have HB10 := hide (Below.trans (HB9.out) (hb10.mono (HB9.out).size))
  clear hb10
  have q0_0 := ya G0.out 0
  have q0_1 := ya G0.out 1
  have q0_2 := ya G0.out 2
  have q0_l := yd G0.out
  have q1_0 := ya G1.out 0
  have q1_1 := ya G1.out 1
  have q1_2 := ya G1.out 2
  have q1_l := yd G1.out
  have q2_0 := ya G2.out 0
  have q2_1 := ya G2.out 1
  have q2_2 := ya G2.out 2
  have q2_l := yd G2.out
  have q3_0 := ya G3.out 0
  have q3_1 := ya G3.out 1
  have q3_2 := ya G3.out 2
  have q3_l := yd G3.out
  have q4_0 := ya G4.out 0
  have q4_1 := ya G4.out 1
  have q4_l := yd G4.out
  have q5_0 := ya G5.out 0
  have q5_1 := ya G5.out 1
  have q5_l := yd G5.out
  go_wp2_with fail
  refine (HS.out b1 b2 _ G4.out G5.out).mono ?_
  rintro e w11 ⟨rfl, hb11⟩
  clear q0_0 q0_1 q0_2 q1_0 q1_1 q1_2 q2_0 q2_1 q2_2 q3_0 q3_1 q3_2 q4_0 q4_1 q5_0 q5_1 q0_l q1_l q2_l q3_l q4_l q5_l
  have G0 := bh hb11 G0
  have G1 := bh hb11 G1
  have G2 := bh hb11 G2
  have G3 := bh hb11 G3
  have G4 := bh hb11 G4
  have G5 := bh hb11 G5
  have HB11 := hide (Below.trans (HB10.out) (hb11.mono (HB10.out).size))
  clear hb11
  have q0_0 := ya G0.out 0
  have q0_1 := ya G0.out 1
  have q0_2 := ya G0.out 2
  have q0_l := yd G0.out
  have q1_0 := ya G1.out 0
  have q1_1 := ya G1.out 1
  have q1_2 := ya G1.out 2
  have q1_l := yd G1.out
  have q2_0 := ya G2.out 0
  have q2_1 := ya G2.out 1
  have q2_2 := ya G2.out 2
  have q2_l := yd G2.out
  have q3_0 := ya G3.out 0
  have q3_1 := ya G3.out 1
  have q3_2 := ya G3.out 2
  have q3_l := yd G3.out
  have q4_0 := ya G4.out 0
  have q4_1 := ya G4.out 1
  have q4_l := yd G4.out
  have q5_0 := ya G5.out 0
  have q5_1 := ya G5.out 1
  have q5_l := yd G5.out
  go_wp2_with fail
  refine (HA.out _ (Nat.le_trans hB HB11.out.size) (HT.out.on HB11.out hB)).mono ?_
  rintro e w12 ⟨rfl, hb12⟩
  clear q0_0 q0_1 q0_2 q1_0 q1_1 q1_2 q2_0 q2_1 q2_2 q3_0 q3_1 q3_2 q4_0 q4_1 q5_0 q5_1 q0_l q1_l q2_l q3_l q4_l q5_l
  have G0 := bh hb12 G0
  have G1 := bh hb12 G1
  have G2 := bh hb12 G2
  have G3 := bh hb12 G3
  have G4 := bh hb12 G4
  have G5 := bh hb12 G5
  have HB12 := hide (Below.trans (HB11.out) (hb12.mono (HB11.out).size))
  clear hb12
  have q0_0 := ya G0.out 0
  have q0_1 := ya G0.out 1
  have q0_2 := ya G0.out 2
  have q0_l := yd G0.out
  have q1_0 := ya G1.out 0
  have q1_1 := ya G1.out 1
  have q1_2 := ya G1.out 2
  have q1_l := yd G1.out
  have q2_0 := ya G2.out 0
  have q2_1 := ya G2.out 1
  have q2_2 := ya G2.out 2
  have q2_l := yd G2.out
  have q3_0 := ya G3.out 0
  have q3_1 := ya G3.out 1
  have q3_2 := ya G3.out 2
  have q3_l := yd G3.out
  have q4_0 := ya G4.out 0
  have q4_1 := ya G4.out 1
  have q4_l := yd G4.out
  have q5_0 := ya G5.out 0
  have q5_1 := ya G5.out 1
  have q5_l := yd G5.out
  go_wp2_with fail
  refine bodyPost_ret (results_tmp rfl _ _ _) rfl ?_
  exact ⟨rfl, HB12.out⟩
open Go.ChangeShapes Go.WideShapes Go.RowKit Go.KP Go.KI

theorem yg9 {W : World} {base : Nat} {v : Value} (h : Cell.okWide Tryz.prog W .any base 26 v) : ∃ s : ByteArray, v = .string s := by
 have u := Tryz.underlying26
 simp only [Cell.okWide, u, Cell.ok] at h
 cases v <;> simp_all
theorem yb2 {W : World} {base : Nat} {v : Value} (h : Value.okWide Tryz.prog W .any base 28 v) : ∃ a : S3, v = .agg #[.string a.x, .string a.y, .string a.z] := by
 have u := Tryz.underlying28
 simp only [Value.okWide, u] at h
 obtain ⟨cs, rfl, hsz, ts, hts, _, hi⟩ := h
 have hts2 : Tryz.prog.cellTypes Tryz.prog.depth 28 = some [26, 26, 26] := by kernel_rfl
 rw [hts2] at hts
 obtain rfl := Option.some.inj hts
 have hC : Tryz.prog.cellsOf 28 = 3 := by kernel_rfl
 rw [hC] at hsz
 obtain ⟨l⟩ := cs
 match l, hsz with
 | [c0, c1, c2], _ =>
   have key : ∀ (i : Nat) (v : Value), i < 3 → (#[c0, c1, c2] : Array Value)[i]? = some v → ∃ s : ByteArray, v = .string s := by
    intro i v hlt hv
    obtain ⟨t, ht, hc⟩ := hi i v hv
    have e : t = 26 := by
     rw [show i % [26, 26, 26].length = i from Nat.mod_eq_of_lt hlt] at ht
     have : i = 0 ∨ i = 1 ∨ i = 2 := by omega
     rcases this with rfl | rfl | rfl <;> simpa using ht.symm
    rw [e] at hc
    exact yg9 hc
   obtain ⟨n0, rfl⟩ := key 0 _ (by omega) rfl
   obtain ⟨n1, rfl⟩ := key 1 _ (by omega) rfl
   obtain ⟨n2, rfl⟩ := key 2 _ (by omega) rfl
   exact ⟨⟨n0, n1, n2⟩, rfl⟩
end Go.Proofs.YtklgpilgalfckaaGreatDoor
