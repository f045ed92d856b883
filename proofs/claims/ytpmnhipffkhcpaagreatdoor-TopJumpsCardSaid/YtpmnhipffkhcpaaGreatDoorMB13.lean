/-
  Texts laid together.
-/
import Derived.Test.YtpmnhipffkhcpaaGreatDoorMB12
import Derived.Test.YtpmnhipffkhcpaaGreatDoorMB5
import Derived.Lib.MinMax
import Derived.BigQuiet
set_option maxRecDepth 100000
set_option maxHeartbeats 32000000
namespace Go.Proofs.YtpmnhipffkhcpaaGreatDoor
open Go.RowKit Go.KP Go.KI Go.Shelf
attribute [local go_sem] Oper.semAt_some

theorem nums2b {w : World} {b : Nat} {p q : Rat} (h : w.heap[b]? = some (.cells #[.string (T p), .string (T q)] 22 (0, 0))) : NumsAt w b [p, q] := by
  refine ⟨lt_blk h, fun i x hx => ?_⟩
  match i with
  | 0 => simp at hx; rw [← hx]; exact cell_blk h 0
  | 1 => simp at hx; rw [← hx]; exact cell_blk h 1
  | i + 2 => simp at hx
theorem bCheck_ok {b : Bm} (hs : BmS b) (fa : Option Addr) (fc : Nat) (sa : Option Addr) (sc : Nat) (B : Nat) (w : World) (hB : B ≤ w.heap.size) (hT : PQ B w) (hb : BeamAt B w fa sa b) :
    Calls Tryz.prog 87 #[beamV (T b.len) (T b.lft) (T b.rgt) fa b.F.length fc sa b.S.length sc] w (Ret w (.int .i64 0)) := by
  have HT := hide hT
  have HB := hide hb
  have HS := hide hs
  have X0 := hide (heap1 w (beamO (T b.len) (T b.lft) (T b.rgt) fa b.F.length fc sa b.S.length sc))
  have HF := hide (fun w hB hT => bframe_ok hs.sl hs.sf hs.sr hs.pos hs.l0 hs.ll hs.r0 hs.rl hs.lr fa b.F.length fc sa b.S.length sc B w hB hT)
  have HO := hide (fun a (k : smallB a) h0 h1 w hB hT => boutside_in (smallB_sz hs.sl) (smallB_sz k) (by omega) h0 h1 (T b.lft) (T b.rgt) fa b.F.length fc sa b.S.length sc B w hB hT)
  obtain ⟨n1, hn1⟩ : ∃ n, n = b.F.length := ⟨_, rfl⟩
  obtain ⟨n2, hn2⟩ : ∃ n, n = b.S.length := ⟨_, rfl⟩
  have c1 : n1 ≤ 64 := by rw [hn1]; exact hs.fF
  have c2 : n2 ≤ 64 := by rw [hn2]; exact hs.fS
  have g1 : ((64 : Int) < (n1 : Int)) = False := eq_false (by omega)
  have g2 : ((64 : Int) < (n2 : Int)) = False := eq_false (by omega)
  rw [← hn1, ← hn2] at X0 HF HO ⊢
  have HN1 := hide hn1
  have HN2 := hide hn2
  generalize T b.len = TL at *
  generalize T b.lft = Tl at *
  generalize T b.rgt = Tr at *
  clear hT hb hs hn1 hn2
  go_enter Tryz.func87, Tryz.ntmps87
  go_wp2_with fail
  refine (HF.out _ (Nat.le_trans hB X0.out.2.2.size) (HT.out.on X0.out.2.2 hB)).mono ?_
  rintro e w1 ⟨rfl, hb1⟩
  have G1 := hide (below_blk hb1 X0.out.1 (lt_blk X0.out.1))
  have HB1 := hide (X0.out.2.2.trans (hb1.mono X0.out.2.2.size))
  have k3 := cell_blk G1.out 3
  have l3 := lt_blk G1.out
  clear hb1 g1 g2 X0 HF
  go_wp2_with fail
  go_loopw [28] (fun i wr => ∃ k : Nat, k ≤ n1 ∧ i = .int .i64 k ∧ Hid (Below w.heap.size w wr ∧ wr.heap[w.heap.size]? = some (beamO TL Tl Tr fa n1 fc sa n2 sc))) (fun i _ => n1 - (intOf i).toNat)
  case atStart => exact ⟨0, Nat.zero_le _, rfl, HB1.out, G1.out⟩
  clear HB1 G1 k3 l3
  case round =>
    obtain ⟨k, hk, rfl, hin⟩ := hrel
    obtain ⟨wo, hwo⟩ : ∃ wo, wo = wr := ⟨_, rfl⟩
    subst hwo
    by_cases hlt : k < n1
    · have hki : (k : Int) < (n1 : Int) := by omega
      have hk0 : (0 : Int) ≤ (k : Int) := by omega
      have hkl : k < b.F.length := by rw [← HN1.out]; exact hlt
      obtain ⟨kb, ko, hfa, hkb, c1, c2⟩ := (HB.out.below hin.out.1 hB).force hkl
      subst hfa
      have hfm := fAt_mem hkl
      obtain ⟨sp, sq⟩ := HS.out.sF _ hfm
      obtain ⟨f0, f1⟩ := HS.out.F _ hfm
      generalize (fAt b.F k).1 = P at *
      generalize (fAt b.F k).2 = Q at *
      have hkw : kb < wo.heap.size := by have := hin.out.1.size; omega
      have hBw : B ≤ wo.heap.size := Nat.le_trans hB hin.out.1.size
      have HTw := hide (HT.out.on hin.out.1 hB)
      have XF := hide (heap2 wo (frcO (T P) (T Q)) (.cells #[.string (T P), .string (T Q)] 22))
      have H1 := hide (bnumbers_ok (wo.heap.size + 1) [P, Q] (by simp) (fun q hq => by simp at hq; rcases hq with rfl | rfl; exact sp; exact sq) B _ (nums2b XF.out.2.1) (Nat.le_trans hBw XF.out.2.2.2.size) (HTw.out.on XF.out.2.2.2 hBw))
      have H2 := hide (fun w hB hT => HO.out P sp f0 f1 w hB hT)
      generalize T P = TP at *
      generalize T Q = TQ at *
      clear hfm sp sq f0 f1 hlt
      go_wp2_with fail
      refine H1.out.mono ?_
      rintro e w1 ⟨rfl, hb1⟩
      have G1 := hide (below_blk hb1 XF.out.1 (lt_blk XF.out.1))
      have HB1 := hide (XF.out.2.2.2.trans (hb1.mono XF.out.2.2.2.size))
      have G2 := hide (below_blk HB1.out hin.out.2 (lt_blk hin.out.2))
      have q0 := cell_blk G1.out 0
      have ql := lt_blk G1.out
      have r0 := cell_blk G2.out 0
      have r1 := cell_blk G2.out 1
      have r2 := cell_blk G2.out 2
      have r3 := cell_blk G2.out 3
      have r4 := cell_blk G2.out 4
      have rl := lt_blk G2.out
      clear hb1 c1 c2 hkw XF H1
      go_wp2_with fail
      refine (H2.out _ (Nat.le_trans hBw HB1.out.size) (HTw.out.on HB1.out hBw)).mono ?_
      rintro e w2 ⟨rfl, hb2⟩
      have HB2 := hide (hin.out.1.trans ((HB1.out.trans (hb2.mono HB1.out.size)).mono hin.out.1.size))
      have G3 := hide (below_blk hb2 G2.out (lt_blk G2.out))
      clear hb2 q0 ql r0 r1 r2 r3 r4 rl hin
      go_wp2_with fail
      go_roundw
      case rel => exact ⟨k + 1, by omega, by simp, HB2.out, G3.out⟩
      case measure => simp [intOf]; omega
    · obtain rfl : k = n1 := by omega
      have hki : ((k : Int) < (k : Int)) = False := eq_false (by omega)
      have HB1 := hide hin.out.1
      have G1 := hide hin.out.2
      have k3 := cell_blk G1.out 4
      have l3 := lt_blk G1.out
      clear hin hlt
      go_wp2_with fail
      go_loopw [49] (fun i wr => ∃ j : Nat, j ≤ n2 ∧ i = .int .i64 j ∧ Hid (Below w.heap.size w wr ∧ wr.heap[w.heap.size]? = some (beamO TL Tl Tr fa k fc sa n2 sc))) (fun i _ => n2 - (intOf i).toNat)
      case atStart => exact ⟨0, Nat.zero_le _, rfl, HB1.out, G1.out⟩
      clear HB1 G1 k3 l3
      case round =>
        obtain ⟨j, hj, rfl, hin⟩ := hrel
        obtain ⟨wo, hwo⟩ : ∃ wo, wo = wr := ⟨_, rfl⟩
        subst hwo
        by_cases hlt : j < n2
        · have hki : (j : Int) < (n2 : Int) := by omega
          have hk0 : (0 : Int) ≤ (j : Int) := by omega
          have hkl : j < b.S.length := by rw [← HN2.out]; exact hlt
          obtain ⟨kb, ko, hfa, hkb, c1, c2, c3⟩ := (HB.out.below hin.out.1 hB).spread hkl
          subst hfa
          have hfm := sAt_mem hkl
          obtain ⟨sp, st, sq⟩ := HS.out.sS _ hfm
          obtain ⟨f0, f1, f2⟩ := HS.out.S _ hfm
          generalize (sAt b.S j).1 = P at *
          generalize (sAt b.S j).2.1 = E at *
          generalize (sAt b.S j).2.2 = Q at *
          have hkw : kb < wo.heap.size := by have := hin.out.1.size; omega
          have hBw : B ≤ wo.heap.size := Nat.le_trans hB hin.out.1.size
          have HTw := hide (HT.out.on hin.out.1 hB)
          have XF := hide (heap2 wo (sprO (T P) (T E) (T Q)) (.cells #[.string (T P), .string (T E), .string (T Q)] 22))
          have H1 := hide (bnumbers_ok (wo.heap.size + 1) [P, E, Q] (by simp) (fun q hq => by simp at hq; rcases hq with rfl | rfl | rfl; exact sp; exact st; exact sq) B _ (nums3 XF.out.2.1) (Nat.le_trans hBw XF.out.2.2.2.size) (HTw.out.on XF.out.2.2.2 hBw))
          have H2 := hide (fun w hB hT => HO.out P sp f0 (Rat.le_trans (Rat.le_of_lt f1) f2) w hB hT)
          have H3 := hide (fun w hB hT => HO.out E st (Rat.le_trans f0 (Rat.le_of_lt f1)) f2 w hB hT)
          have H4 := hide (fun w hB hT => bCmp_T (smallB_sz sp) (smallB_sz st) (by omega) B w hB hT)
          have g4 := cmp_nle f1
          generalize cmpR P E = C at *
          generalize T P = TP at *
          generalize T E = TE at *
          generalize T Q = TQ at *
          clear hfm sp st sq f0 f1 f2 hlt
          go_wp2_with fail
          refine H1.out.mono ?_
          rintro e w1 ⟨rfl, hb1⟩
          have G1 := hide (below_blk hb1 XF.out.1 (lt_blk XF.out.1))
          have HB1 := hide (XF.out.2.2.2.trans (hb1.mono XF.out.2.2.2.size))
          have G2 := hide (below_blk HB1.out hin.out.2 (lt_blk hin.out.2))
          have q0 := cell_blk G1.out 0
          have ql := lt_blk G1.out
          have r0 := cell_blk G2.out 0
          have r1 := cell_blk G2.out 1
          have r2 := cell_blk G2.out 2
          have r3 := cell_blk G2.out 3
          have r4 := cell_blk G2.out 4
          have rl := lt_blk G2.out
          clear hb1 c1 c2 c3 hkw XF H1
          go_wp2_with fail
          refine (H2.out _ (Nat.le_trans hBw HB1.out.size) (HTw.out.on HB1.out hBw)).mono ?_
          rintro e w2 ⟨rfl, hb2⟩
          have G3 := hide (below_blk hb2 G1.out (lt_blk G1.out))
          have G4 := hide (below_blk hb2 G2.out (lt_blk G2.out))
          have HB2 := hide (HB1.out.trans (hb2.mono HB1.out.size))
          clear hb2 q0 ql r0 r1 r2 r3 r4 rl
          have q0 := cell_blk G3.out 1
          have ql := lt_blk G3.out
          have r0 := cell_blk G4.out 0
          have r1 := cell_blk G4.out 1
          have r2 := cell_blk G4.out 2
          have r3 := cell_blk G4.out 3
          have r4 := cell_blk G4.out 4
          have rl := lt_blk G4.out
          go_wp2_with fail
          refine (H3.out _ (Nat.le_trans hBw HB2.out.size) (HTw.out.on HB2.out hBw)).mono ?_
          rintro e w3 ⟨rfl, hb3⟩
          have G5 := hide (below_blk hb3 G3.out (lt_blk G3.out))
          have G6 := hide (below_blk hb3 G4.out (lt_blk G4.out))
          have HB3 := hide (HB2.out.trans (hb3.mono HB2.out.size))
          clear hb3 q0 ql r0 r1 r2 r3 r4 rl
          have q0 := cell_blk G5.out 0
          have q1 := cell_blk G5.out 1
          have ql := lt_blk G5.out
          go_wp2_with fail
          refine (H4.out _ (Nat.le_trans hBw HB3.out.size) (HTw.out.on HB3.out hBw)).mono ?_
          rintro e w4 ⟨rfl, hb4⟩
          have HB4 := hide (hin.out.1.trans ((HB3.out.trans (hb4.mono HB3.out.size)).mono hin.out.1.size))
          have G7 := hide (below_blk hb4 G6.out (lt_blk G6.out))
          clear hb4 q0 q1 ql hin
          go_wp2_with fail
          go_roundw
          case rel => exact ⟨j + 1, by omega, by simp, HB4.out, G7.out⟩
          case measure => simp [intOf]; omega
        · obtain rfl : j = n2 := by omega
          have hki : ((j : Int) < (j : Int)) = False := eq_false (by omega)
          have HB1 := hide hin.out.1
          clear hin hlt
          go_wp2_with fail
          go_ret
          exact ⟨rfl, HB1.out⟩
open Go.RowKit Go.KP Go.KI Go.Shelf
attribute [local go_sem] Oper.semAt_some

theorem one_gq : 1 ≤ 2 * gq := by decide
theorem btotal_T {b : Bm} (hs : BmS b) (fa : Option Addr) (fc : Nat) (sa : Option Addr) (sc : Nat) (B : Nat) (w : World) (hB : B ≤ w.heap.size) (hT : PQ B w) (hb : BeamAt B w fa sa b) :
    Calls Tryz.prog 221 #[beamV (T b.len) (T b.lft) (T b.rgt) fa b.F.length fc sa b.S.length sc] w (Ret w (.string (T (totalB b)))) := by
  have X0 := hide (heap2 w (beamO (T b.len) (T b.lft) (T b.rgt) fa b.F.length fc sa b.S.length sc) (.cells #[.string (T 0)] 22))
  have hTW := hT.on X0.out.2.2.2 hB
  have hEA : Each 330 #[.pointer (some ⟨w.heap.size + 1, 0, none⟩)] (w.heap.size + 1) _ (zD 1) zB (fun _ q => q) := each_total (K := 1) (Nat.le_refl 1) one_gq (bx := w.heap.size + 1) (B := B) (by omega) (Nat.le_trans hB X0.out.2.2.2.size) hTW
  have hg0 : Gr (zD 1) (0 * zB) 0 := gr_zero _ _
  have hgw : ∀ p q, Pnt p q → Gr (zD 1) zB ((fun _ q => q) p q) := fun p q hp => weight_into one_gq hp.wt
  have HF := hide (bfold_any (B := B) (Z := zD 1) (Y := zB) (m := 0) (h := fun _ q => q) (u := b.len) (x0 := 0) hs (small_gr hs.sl) (by omega) hg0 hgw fa fc sa sc _ hEA X0.out.2.1 (by omega) hTW (hb.below X0.out.2.2.2 hB))
  clear hEA hg0 hgw hTW
  rw [show (0 : Rat) + foldB (fun _ q => q) b b.len = totalB b from Rat.zero_add _] at HF
  delta bmV boxO at HF
  rw [T0] at X0 HF
  clear hT hb hs
  obtain ⟨R, hR⟩ : ∃ R, R = totalB b := ⟨_, rfl⟩
  rw [← hR] at HF ⊢
  clear hR
  generalize T b.len = TL at *
  generalize T b.lft = Tl at *
  generalize T b.rgt = Tr at *
  generalize b.F.length = n1 at *
  generalize b.S.length = n2 at *
  go_enter Tryz.func221, Tryz.ntmps221
  go_wp2_with fail
  refine HF.out.mono ?_
  rintro e w1 ⟨⟨v, rfl⟩, ho, hbx⟩
  have HB1 := hide (X0.out.2.2.2.trans ((only_on ho (show w.heap.size ≤ w.heap.size + 1 by omega) X0.out.2.2.2.size)))
  have G1 := hide hbx
  have k0 := cell_blk G1.out 0
  have l0 := lt_blk G1.out
  clear ho hbx HF
  go_wp2_with fail
  go_ret
  exact ⟨rfl, HB1.out⟩
open Go.RowKit Go.KP Go.KI Go.Shelf
attribute [local go_sem] Oper.semAt_some

theorem turns_sz {b : Bm} (hs : BmS b) : sz 60 (turnB b) := gr_sz (by decide) (turns_gr hs (small_gr hs.sl) (small_gr hs.sf)) (by decide) (by decide)
theorem total_sz {b : Bm} (hs : BmS b) : sz 60 (totalB b) := gr_sz (by decide) (total_gr hs (small_gr hs.sl)) (by decide) (by decide)
theorem span_sz {b : Bm} (hs : BmS b) : sz 20 (b.rgt - b.lft) := gr_sz (by decide) (dif_gr (small_gr hs.sr) (small_gr hs.sf)) (by decide) (by decide)
theorem right_sz {b : Bm} (hs : BmS b) : sz 100 (rightB b) := by
  obtain ⟨K, h1, h2, h3, _⟩ := react_gr hs
  exact react_sz h1 h2 (right_l h3)
theorem left_sz {b : Bm} (hs : BmS b) : sz 100 (leftB b) := by
  obtain ⟨K, h1, h2, _, h4⟩ := react_gr hs
  exact react_sz h1 h2 h4
theorem span_ne {b : Bm} (hs : BmS b) : b.rgt - b.lft ≠ 0 := fun e => by
  have := hs.lr
  grind
theorem breactions_T {b : Bm} (hs : BmS b) (fa : Option Addr) (fc : Nat) (sa : Option Addr) (sc : Nat) (B : Nat) (w : World) (hB : B ≤ w.heap.size) (hT : PQ B w) (hb : BeamAt B w fa sa b) :
    Calls Tryz.prog 88 #[beamV (T b.len) (T b.lft) (T b.rgt) fa b.F.length fc sa b.S.length sc] w (Ret w (.tuple #[.string (T (leftB b)), .string (T (rightB b))])) := by
  have X0 := hide (heap2 w (beamO (T b.len) (T b.lft) (T b.rgt) fa b.F.length fc sa b.S.length sc) (.cells #[.string (T 0)] 22))
  obtain ⟨W0, hW0⟩ : ∃ W, W = (w.alloc (beamO (T b.len) (T b.lft) (T b.rgt) fa b.F.length fc sa b.S.length sc)).alloc (.cells #[.string (T 0)] 22) := ⟨_, rfl⟩
  rw [← hW0] at X0
  have HF := hide (bfold_any (h := turnAt b.lft) (m := 0) hs (small_gr hs.sl) (by omega) (gr_zero (zD 1) _) (fun p q hp => turn_into one_gq (turn_gr hp (small_gr hs.sf))) fa fc sa sc _ (each_turn (Nat.le_refl 1) one_gq (bx := w.heap.size + 1) (bb := w.heap.size) (by omega) (Nat.le_trans hB X0.out.2.2.2.size) (hT.on X0.out.2.2.2 hB) (by omega) X0.out.1 (small_gr hs.sf)) X0.out.2.1 (by omega) (hT.on X0.out.2.2.2 hB) (hb.below X0.out.2.2.2 hB))
  rw [show (0 : Rat) + foldB (turnAt b.lft) b b.len = turnB b from Rat.zero_add _] at HF
  have HT := hide hT
  have HBM := hide hb
  have HH1 := hide (fun w hB hT => bSub_T (smallB_sz hs.sr) (smallB_sz hs.sf) (by omega) B w hB hT)
  have HH2 := hide (fun w hB hT => bDiv_T (turns_sz hs) (span_sz hs) (span_ne hs) (by omega) B w hB hT)
  rw [show turnB b / (b.rgt - b.lft) = rightB b from rfl] at HH2
  have HTO := hide (fun w hB hT hb => btotal_T hs fa fc sa sc B w hB hT hb)
  have HLE := hide (fun w hB hT => bSub_T (total_sz hs) (right_sz hs) (by omega) B w hB hT)
  rw [show totalB b - rightB b = leftB b from rfl] at HLE
  have h00 := T0
  have hB0 : B ≤ W0.heap.size := Nat.le_trans hB X0.out.2.2.2.size
  delta bmV boxO at HF
  rw [h00] at X0 hW0
  clear hT hb hs h00
  generalize T (leftB b) = TA at *
  generalize T (rightB b) = TB at *
  generalize T (totalB b) = TC at *
  generalize T (turnB b) = TD at *
  generalize T (b.rgt - b.lft) = TE at *
  generalize T b.len = TL at *
  generalize T b.lft = Tl at *
  generalize T b.rgt = Tr at *
  generalize b.F.length = n1 at *
  generalize b.S.length = n2 at *
  go_enter Tryz.func88, Tryz.ntmps88
  go_wp2_with fail
  rw [← hW0]
  clear hW0
  go_wp2_with fail
  refine HF.out.mono ?_
  rintro e w1 ⟨⟨v, rfl⟩, ho, hbx⟩
  have HB1 := hide (X0.out.2.2.2.trans ((only_on ho (show w.heap.size ≤ w.heap.size + 1 by omega) X0.out.2.2.2.size)))
  have E1 := hide hbx
  have E0 := hide (only_blk ho X0.out.1 (show w.heap.size ≠ w.heap.size + 1 by omega))
  clear ho hbx HF X0
  obtain ⟨W1, hW1⟩ : ∃ W, W = w1 := ⟨_, rfl⟩
  subst hW1
  have hB1 : B ≤ W1.heap.size := Nat.le_trans hB HB1.out.size
  have hs1 := HB1.out.size
  have hTW := hide (HT.out.on HB1.out hB)
  have HN1 := hide (fun (o : Of (Below W1.heap.size W1)) => cls_callq hTW.out hB1 HH1.out o o.h.size)
  have HN2 := hide (fun (o : Of (Below W1.heap.size W1)) => cls_callq hTW.out hB1 HH2.out o o.h.size)
  have c0 := fun o => cell_blk E0.out o
  have c1 := fun o => cell_blk E1.out o
  have l0 := lt_blk E0.out
  have l1 := lt_blk E1.out
  go_wp2_with fail
  have hx0 : ∀ x : Of (Below W1.heap.size W1), ∀ o, x.w.cell? ⟨w.heap.size, o, none⟩ = W1.cell? ⟨w.heap.size, o, none⟩ := fun x o => x.h.cell (p := ⟨w.heap.size, o, none⟩) l0
  have hx1 : ∀ x : Of (Below W1.heap.size W1), ∀ o, x.w.cell? ⟨w.heap.size + 1, o, none⟩ = W1.cell? ⟨w.heap.size + 1, o, none⟩ := fun x o => x.h.cell (p := ⟨w.heap.size + 1, o, none⟩) l1
  have kn : Nonempty (Of (Below W1.heap.size W1)) := ⟨⟨_, Below.refl _ _⟩⟩
  refine region_prefix (C := Cls (Below W1.heap.size W1)) 7 (by kernel_rfl) (by decide) (by kernel_rfl) (by kernel_rfl) (by kernel_rfl) (by kernel_rfl) (Cls.mk (Below.refl _ _).drew) ?_
  simp only [List.take_succ_cons, List.take_zero, List.drop_succ_cons, List.drop_zero]
  repeat (go_big_quiet_step (first | rfl | with_reducible exact HN1.out _ | with_reducible exact HN2.out _))
  refine wpQuiet_nil ?_
  intro w2 hcl
  have hb2 := hcl.out
  have E2 := hide (below_blk hb2 E0.out l0)
  have HB2 := hide (HB1.out.trans (hb2.mono hs1))
  clear hcl hb2 hx0 hx1 c0 c1 HN1 HN2 kn l0 l1 E0 E1 hB1 hs1 hTW
  have r0 := cell_blk E2.out 0
  have r1 := cell_blk E2.out 1
  have r2 := cell_blk E2.out 2
  have r3 := cell_blk E2.out 3
  have r4 := cell_blk E2.out 4
  have rl := lt_blk E2.out
  go_wp2_with fail
  refine (HTO.out _ (Nat.le_trans hB HB2.out.size) (HT.out.on HB2.out hB) (HBM.out.below HB2.out hB)).mono ?_
  rintro e w3 ⟨rfl, hb3⟩
  have HB3 := hide (HB2.out.trans (hb3.mono HB2.out.size))
  clear hb3 r0 r1 r2 r3 r4 rl
  go_wp2_with fail
  refine (HLE.out _ (Nat.le_trans hB HB3.out.size) (HT.out.on HB3.out hB)).mono ?_
  rintro e w4 ⟨rfl, hb4⟩
  have HB4 := hide (HB3.out.trans (hb4.mono HB3.out.size))
  clear hb4
  go_wp2_with fail
  refine bodyPost_ret (results_tmp2 rfl _ _ _) rfl ?_
  exact ⟨rfl, HB4.out⟩
theorem bReactions_T {b : Bm} (hs : BmS b) (fa : Option Addr) (fc : Nat) (sa : Option Addr) (sc : Nat) (B : Nat) (w : World) (hB : B ≤ w.heap.size) (hT : PQ B w) (hb : BeamAt B w fa sa b) :
    Calls Tryz.prog 17 #[beamV (T b.len) (T b.lft) (T b.rgt) fa b.F.length fc sa b.S.length sc] w (Ret w (.tuple #[.string (T (leftB b)), .string (T (rightB b)), .int .i64 0])) := by
  have HT := hide hT
  have HBM := hide hb
  have X0 := hide (heap1 w (beamO (T b.len) (T b.lft) (T b.rgt) fa b.F.length fc sa b.S.length sc))
  have H1 := hide (fun w hB hT hb => bCheck_ok hs fa fc sa sc B w hB hT hb)
  have H2 := hide (fun w hB hT hb => breactions_T hs fa fc sa sc B w hB hT hb)
  clear hT hb hs
  generalize T (leftB b) = TA at *
  generalize T (rightB b) = TB at *
  generalize T b.len = TL at *
  generalize T b.lft = Tl at *
  generalize T b.rgt = Tr at *
  generalize b.F.length = n1 at *
  generalize b.S.length = n2 at *
  go_enter Tryz.func17, Tryz.ntmps17
  go_wp2_with fail
  refine (H1.out _ (Nat.le_trans hB X0.out.2.2.size) (HT.out.on X0.out.2.2 hB) (HBM.out.below X0.out.2.2 hB)).mono ?_
  rintro e w1 ⟨rfl, hb1⟩
  have G1 := hide (below_blk hb1 X0.out.1 (lt_blk X0.out.1))
  have HB1 := hide (X0.out.2.2.trans (hb1.mono X0.out.2.2.size))
  clear hb1 X0
  have r0 := cell_blk G1.out 0
  have r1 := cell_blk G1.out 1
  have r2 := cell_blk G1.out 2
  have r3 := cell_blk G1.out 3
  have r4 := cell_blk G1.out 4
  have rl := lt_blk G1.out
  go_wp2_with fail
  refine (H2.out _ (Nat.le_trans hB HB1.out.size) (HT.out.on HB1.out hB) (HBM.out.below HB1.out hB)).mono ?_
  rintro e w2 ⟨rfl, hb2⟩
  have HB2 := hide (HB1.out.trans (hb2.mono HB1.out.size))
  clear hb2 r0 r1 r2 r3 r4 rl
  go_wp2_with fail
  go_ret3
  exact ⟨rfl, HB2.out⟩
def SupAt (w w' : World) (e : Ending) (b : Bm) : Prop := ∃ g, e = .returned (.slice (some ⟨g, 0, none⟩) 2 2) ∧ Below w.heap.size w w' ∧ w.heap.size ≤ g ∧ w'.heap[g]? = some (.cells #[.string (T b.lft), .string (T (leftB b)), .string (T b.rgt), .string (T (rightB b))] 249)
theorem bsupports_T {b : Bm} (hs : BmS b) (fa : Option Addr) (fc : Nat) (sa : Option Addr) (sc : Nat) (B : Nat) (w : World) (hB : B ≤ w.heap.size) (hT : PQ B w) (hb : BeamAt B w fa sa b) :
    Calls Tryz.prog 227 #[beamV (T b.len) (T b.lft) (T b.rgt) fa b.F.length fc sa b.S.length sc] w (fun e w' => SupAt w w' e b) := by
  unfold SupAt
  have HT := hide hT
  have HBM := hide hb
  have X0 := hide (heap1 w (beamO (T b.len) (T b.lft) (T b.rgt) fa b.F.length fc sa b.S.length sc))
  have H2 := hide (fun w hB hT hb => breactions_T hs fa fc sa sc B w hB hT hb)
  clear hT hb hs
  generalize T (leftB b) = TA at *
  generalize T (rightB b) = TB at *
  generalize T b.len = TL at *
  generalize T b.lft = Tl at *
  generalize T b.rgt = Tr at *
  generalize b.F.length = n1 at *
  generalize b.S.length = n2 at *
  go_enter Tryz.func227, Tryz.ntmps227
  go_wp2_with fail
  refine (H2.out _ (Nat.le_trans hB X0.out.2.2.size) (HT.out.on X0.out.2.2 hB) (HBM.out.below X0.out.2.2 hB)).mono ?_
  rintro e w1 ⟨rfl, hb1⟩
  have G1 := hide (below_blk hb1 X0.out.1 (lt_blk X0.out.1))
  have HB1 := hide (X0.out.2.2.trans (hb1.mono X0.out.2.2.size))
  clear hb1 X0
  have r1 := cell_blk G1.out 1
  have r2 := cell_blk G1.out 2
  have rl := lt_blk G1.out
  have X1 := hide (heap1 w1 (.cells #[.string Tl, .string TA, .string Tr, .string TB] 249))
  go_wp2_with fail
  go_ret
  exact ⟨_, rfl, HB1.out.trans (X1.out.2.2.mono HB1.out.size), HB1.out.size, X1.out.1⟩
end Go.Proofs.YtpmnhipffkhcpaaGreatDoor
namespace Go.KI
open Go
def supL (b : Bm) : List (Rat × Rat) := [(b.lft, leftB b), (b.rgt, rightB b)]
theorem back_at (a w : Rat) : backAt a a w = 0 := by unfold backAt; grind
theorem sup_shear (b : Bm) (a : Rat) : (0 : Rat) + sumL (forceT wgt a) (supL b) + foldB (fun _ q => -q) b a = shearB b a := by
  have e : foldB (fun _ q => -q) b a = -(foldB wgt b a) := by
    unfold foldB
    have h1 : sumL (forceT (fun _ q => -q) a) b.F = sumL (fun f => forceT wgt a f * (-1)) b.F := sumL_congr fun f _ => by unfold forceT wgt; split <;> grind
    have h2 : sumL (spreadT (fun _ q => -q) a) b.S = sumL (fun f => spreadT wgt a f * (-1)) b.S := sumL_congr fun f _ => by unfold spreadT wgt; split <;> grind
    rw [h1, h2, sumL_mul, sumL_mul]
    grind
  rw [e]
  unfold shearB supL forceT wgt
  simp only [sumL]
  grind
theorem sup_moment (b : Bm) (a : Rat) : (0 : Rat) + sumL (forceT (backAt a) a) (supL b) + foldB (fun p q => -(backAt a p q)) b a = momentB b a := by
  have e : foldB (fun p q => -(backAt a p q)) b a = -(foldB (backAt a) b a) := by
    unfold foldB
    have h1 : sumL (forceT (fun p q => -(backAt a p q)) a) b.F = sumL (fun f => forceT (backAt a) a f * (-1)) b.F := sumL_congr fun f _ => by unfold forceT; split <;> grind
    have h2 : sumL (spreadT (fun p q => -(backAt a p q)) a) b.S = sumL (fun f => spreadT (backAt a) a f * (-1)) b.S := sumL_congr fun f _ => by unfold spreadT; split <;> grind
    rw [h1, h2, sumL_mul, sumL_mul]
    grind
  have k : ∀ p w : Rat, forceT (backAt a) a (p, w) = if p < a then w * (a - p) else 0 := by
    intro p w
    unfold forceT
    show (if p ≤ a then backAt a p w else 0) = _
    by_cases h : p < a
    · rw [if_pos h, if_pos (Rat.le_of_lt h)]
      rfl
    · rw [if_neg h]
      by_cases h2 : p ≤ a
      · rw [if_pos h2, Rat.le_antisymm h2 (Rat.not_lt.1 h)]
        exact back_at a w
      · rw [if_neg h2]
  rw [e]
  unfold momentB supL
  simp only [sumL, k]
  grind
end Go.KI
namespace Go.Proofs.YtpmnhipffkhcpaaGreatDoor
open Go.RowKit Go.KP Go.KI Go.Shelf
attribute [local go_sem] Oper.semAt_some

theorem sup_run {b : Bm} {K : Nat} {ff : Rat × Rat → Rat} (h : ∀ f ∈ supL b, Gr (zD K) zB (ff f)) {k : Nat} (hk : k ≤ 2) : Gr (zD K) (2 * zB) (0 + sumL ff ((supL b).take k)) := by
  have h1 : Gr (zD K) (((supL b).take k).length * zB) (sumL ff ((supL b).take k)) := gr_sumL fun f hf => h f (List.mem_of_mem_take hf)
  rw [Rat.zero_add]
  refine gr_mono h1 (Nat.mul_le_mul_right _ ?_)
  rw [List.length_take]
  omega
theorem supL_cells {w : World} {g : Nat} {b : Bm} (h : w.heap[g]? = some (.cells #[.string (T b.lft), .string (T (leftB b)), .string (T b.rgt), .string (T (rightB b))] 249 (0, 0))) {k : Nat} (hk : k < 2) :
    w.cell? ⟨g, k * 2, none⟩ = some (.string (T (fAt (supL b) k).1)) ∧ w.cell? ⟨g, k * 2 + 1, none⟩ = some (.string (T (fAt (supL b) k).2)) := by
  have : k = 0 ∨ k = 1 := by omega
  rcases this with rfl | rfl
  · exact ⟨cell_blk h 0, cell_blk h 1⟩
  · exact ⟨cell_blk h 2, cell_blk h 3⟩
theorem bshear_T {b : Bm} (hs : BmS b) {a : Rat} (ha : Gr gp gq a) (fa : Option Addr) (fc : Nat) (sa : Option Addr) (sc : Nat) (B : Nat) (w : World) (hB : B ≤ w.heap.size) (hT : PQ B w) (hb : BeamAt B w fa sa b) :
    Calls Tryz.prog 134 #[beamV (T b.len) (T b.lft) (T b.rgt) fa b.F.length fc sa b.S.length sc, .string (T a)] w (Ret w (.string (T (shearB b a)))) := by
  obtain ⟨K, k1, k2, gl, gr, _⟩ := shear_gr hs ha
  have hterm : ∀ f ∈ supL b, Gr (zD K) zB (forceT wgt a f) := fun f hf => by
    unfold supL at hf
    simp only [List.mem_cons, List.not_mem_nil, or_false] at hf
    unfold forceT wgt
    rcases hf with rfl | rfl
    · split
      · exact gl
      · exact gr_zero _ _
    · split
      · exact gr
      · exact gr_zero _ _
  have hsup : ∀ f ∈ supL b, Gr gp gq f.1 ∧ sz 140 f.2 := fun f hf => by
    unfold supL at hf
    simp only [List.mem_cons, List.not_mem_nil, or_false] at hf
    rcases hf with rfl | rfl
    · exact ⟨small_gr hs.sf, run_sz (n := 1) k1 k2 (by omega) (by rw [Nat.one_mul]; exact gl)⟩
    · exact ⟨small_gr hs.sr, run_sz (n := 1) k1 k2 (by omega) (by rw [Nat.one_mul]; exact gr)⟩
  have HTERM := hide hterm
  have HSUP := hide hsup
  have X0 := hide (heap2 w (beamO (T b.len) (T b.lft) (T b.rgt) fa b.F.length fc sa b.S.length sc) (.cells #[.string ⟨#[48]⟩] 22))
  have HT := hide hT
  have HBM := hide hb
  have HS := hide hs
  have HA := hide ha
  have HSU := hide (fun w hB hT hb => bsupports_T hs fa fc sa sc B w hB hT hb)
  have hlen : (supL b).length = 2 := rfl
  have HFO := hide (fun (W0 : World) (x0 : Rat) (hx0 : Gr (zD K) (2 * zB) x0) (hbx : W0.heap[w.heap.size + 1]? = some (boxO x0)) (hB0 : Below w.heap.size w W0) =>
    bfold_any (h := fun _ q => -q) (m := 2) (B := B) hs ha (by omega) hx0 (fun p q hp => gr_neg (weight_into k2 hp.wt)) fa fc sa sc W0 (each_shear k1 k2 (bx := w.heap.size + 1) (by omega) (Nat.le_trans hB hB0.size) (hT.on hB0 hB)) hbx (by omega) (hT.on hB0 hB) (hb.below hB0 hB))
  unfold bmV at HFO
  have hfin := sup_shear b a
  have HFIN := hide hfin
  have h00 := T0
  have K1 := hide k1
  have K2 := hide k2
  clear hT hb hs ha gl gr hterm hsup k1 k2 hfin
  obtain ⟨R, hR⟩ : ∃ R, R = shearB b a := ⟨_, rfl⟩
  rw [← hR] at HFIN ⊢
  clear hR
  obtain ⟨TR, hTR⟩ : ∃ U, U = T R := ⟨_, rfl⟩
  have HTR := hide hTR
  rw [← hTR]
  clear hTR
  obtain ⟨TL, hTL⟩ : ∃ U, U = T b.len := ⟨_, rfl⟩
  obtain ⟨Tl, hTl⟩ : ∃ U, U = T b.lft := ⟨_, rfl⟩
  obtain ⟨Tr, hTr⟩ : ∃ U, U = T b.rgt := ⟨_, rfl⟩
  obtain ⟨n1, hn1⟩ : ∃ U, U = b.F.length := ⟨_, rfl⟩
  obtain ⟨n2, hn2⟩ : ∃ U, U = b.S.length := ⟨_, rfl⟩
  rw [← hTL, ← hTl, ← hTr, ← hn1, ← hn2] at X0 HSU HFO ⊢
  clear hTL hTl hTr hn1 hn2
  obtain ⟨TA, hTA⟩ : ∃ U, U = T a := ⟨_, rfl⟩
  have HTA := hide hTA
  rw [← hTA] at HFO ⊢
  clear hTA
  go_enter Tryz.func134, Tryz.ntmps134
  go_wp2_with fail
  refine (HSU.out _ (Nat.le_trans hB X0.out.2.2.2.size) (HT.out.on X0.out.2.2.2 hB) (HBM.out.below X0.out.2.2.2 hB)).mono ?_
  rintro e w1 ⟨g, rfl, hb1, hg, hgc⟩
  have HB1 := hide (Below.trans (X0.out.2.2.2) (hb1.mono (X0.out.2.2.2).size))
  have E0 := hide (below_blk hb1 (X0.out.1) (lt_blk (X0.out.1)))
  have E2 := hide (below_blk hb1 (X0.out.2.1) (lt_blk (X0.out.2.1)))
  have G0 := hide hgc
  have hgn : w.heap.size + 1 < g := by
    have := X0.out.2.2.1
    omega
  clear hb1 hg hgc X0 HSU
  go_wp2_with fail
  go_loopw [11] (fun i wr => ∃ k : Nat, k ≤ 2 ∧ i = .int .i64 k ∧ Hid (Below w.heap.size w wr ∧ wr.heap[w.heap.size]? = some (beamO TL Tl Tr fa n1 fc sa n2 sc) ∧ wr.heap[w.heap.size + 1]? = some (boxO (0 + sumL (forceT wgt a) ((supL b).take k))) ∧ wr.heap[g]? = some (.cells #[.string (T b.lft), .string (T (leftB b)), .string (T b.rgt), .string (T (rightB b))] 249))) (fun i _ => 2 - (intOf i).toNat)
  case atStart =>
    refine ⟨0, Nat.zero_le _, rfl, HB1.out, E0.out, ?_, ?_⟩
    · rw [show (0 : Rat) + sumL (forceT wgt a) ((supL b).take 0) = 0 by show (0 : Rat) + 0 = 0; exact Rat.add_zero _]
      show _ = some (Obj.cells #[.string (T 0)] _)
      rw [h00]
      exact E2.out
    · exact G0.out
  clear HB1 E0 E2 G0
  case round =>
    obtain ⟨k, hk, rfl, hin⟩ := hrel
    obtain ⟨wo, hwo⟩ : ∃ wo, wo = wr := ⟨_, rfl⟩
    subst hwo
    have HI := hide hin.out
    clear hin
    by_cases hlt : k < 2
    · have hki : (k : Int) < 2 := by omega
      have hk0 : (0 : Int) ≤ (k : Int) := by omega
      obtain ⟨c1, c2⟩ := supL_cells HI.out.2.2.2 hlt
      have hkl : k < (supL b).length := hlt
      have hfm := fAt_mem hkl
      obtain ⟨gp1, sq⟩ := HSUP.out _ hfm
      have hstep := fsum_step (forceT wgt a) hkl
      have hrun := sup_run HTERM.out (k := k) (by omega)
      obtain ⟨P, hP⟩ : ∃ P, P = (fAt (supL b) k).1 := ⟨_, rfl⟩
      obtain ⟨Q, hQ⟩ : ∃ P, P = (fAt (supL b) k).2 := ⟨_, rfl⟩
      have hft : forceT wgt a (fAt (supL b) k) = if P ≤ a then wgt P Q else 0 := by unfold forceT; rw [hP, hQ]
      rw [← hP] at gp1 c1
      rw [← hQ] at sq c2
      rw [hft] at hstep
      obtain ⟨x, hx⟩ : ∃ x, x = (0 : Rat) + sumL (forceT wgt a) ((supL b).take k) := ⟨_, rfl⟩
      have HX := hide (show ∀ y, sumL (forceT wgt a) ((supL b).take k) + y = sumL (forceT wgt a) ((supL b).take (k + 1)) → (0 : Rat) + sumL (forceT wgt a) ((supL b).take (k + 1)) = x + y from fun y hy => by rw [hx, ← hy, Rat.add_assoc])
      rw [← hx] at HI hrun
      have hsx := run_sz K1.out K2.out (by omega) hrun
      have HSTEP := hide hstep
      have hBw : B ≤ wo.heap.size := Nat.le_trans hB HI.out.1.size
      have HTw := hide (HT.out.on HI.out.1 hB)
      have H1 := hide (fun w hB hT => bCmp_T (place_sz gp1) (place_sz HA.out) (by omega) B w hB hT)
      rw [← HTA.out] at H1
      have XF := hide (heap1 wo (pntO (T P) (T Q)))
      have hgw : g < wo.heap.size := lt_blk HI.out.2.2.2
      by_cases hle : P ≤ a
      · have hcc := cmp_le0 hle
        rw [if_pos hle] at hstep
        have HST := hide hstep
        generalize cmpR P a = C at *
        have H2 := hide (fun w hB hT => bAdd_T hsx sq (by omega) B w hB hT)
        obtain ⟨Y, hY⟩ : ∃ Y, Y = T (x + Q) := ⟨_, rfl⟩
        have HY := hide hY
        rw [← hY] at H2
        clear hY
        obtain ⟨X, hXX⟩ : ∃ X, X = T x := ⟨_, rfl⟩
        obtain ⟨TP, hTP⟩ : ∃ U, U = T P := ⟨_, rfl⟩
        obtain ⟨TQ, hTQ⟩ : ∃ U, U = T Q := ⟨_, rfl⟩
        rw [← hTP, ← hTQ] at *
        have HXX := hide hXX
        rw [← hXX] at H2
        clear hstep hft hfm hP hQ hle hTP hTQ hlt hx hsx hrun gp1 sq hXX
        go_wp2_with fail
        refine (H1.out _ (Nat.le_trans hBw XF.out.2.2.size) (HTw.out.on XF.out.2.2 hBw)).mono ?_
        rintro e w1 ⟨rfl, hb1⟩
        have HB1 := hide (XF.out.2.2.trans (hb1.mono XF.out.2.2.size))
        have G1 := hide (below_blk hb1 XF.out.1 (lt_blk XF.out.1))
        have F0 := hide (below_blk HB1.out HI.out.2.1 (lt_blk HI.out.2.1))
        have F2 := hide (below_blk HB1.out HI.out.2.2.1 (lt_blk HI.out.2.2.1))
        have F3 := hide (below_blk HB1.out HI.out.2.2.2 (lt_blk HI.out.2.2.2))
        clear hb1 c1 c2 hgw XF
        have F2b := hide (show w1.heap[w.heap.size + 1]? = some (.cells #[.string X] 22) by rw [HXX.out]; exact F2.out)
        have q0 := cell_blk G1.out 0
        have q1 := cell_blk G1.out 1
        have ql := lt_blk G1.out
        have s0 := cell_blk F2b.out 0
        have sl := lt_blk F2b.out
        go_wp2_with fail
        refine (H2.out _ (Nat.le_trans hBw HB1.out.size) (HTw.out.on HB1.out hBw)).mono ?_
        rintro e w2 ⟨rfl, hb2⟩
        have HB2 := hide (HB1.out.trans (hb2.mono HB1.out.size))
        have A0 := hide (below_blk hb2 F0.out (lt_blk F0.out))
        have A2 := hide (below_blk hb2 F2.out (lt_blk F2.out))
        have A3 := hide (below_blk hb2 F3.out (lt_blk F3.out))
        clear hb2 q0 q1 ql s0 sl
        have s0 := cell_blk A2.out 0
        have f0 := froz_blk A2.out 0
        have sl := lt_blk A2.out
        go_wp2_with fail
        go_roundw
        case rel =>
          refine ⟨k + 1, by omega, by simp, (HI.out.1.trans (HB2.out.mono HI.out.1.size)).setCell (p := ⟨w.heap.size + 1, 0, none⟩) (show w.heap.size ≤ w.heap.size + 1 by omega) _, ?_, ?_, ?_⟩
          · exact (setCell_other (show w.heap.size + 1 ≠ w.heap.size by omega)).trans A0.out
          · rw [HX.out _ HST.out.symm, HY.out]
            exact box_put A2.out _
          · exact (setCell_other (show w.heap.size + 1 ≠ g by omega)).trans A3.out
        case measure => simp [intOf]; omega
      · have hcc := cmp_npos (Rat.not_le.1 hle)
        have hz : (if P ≤ a then wgt P Q else 0) = (0 : Rat) := by
          rw [if_neg hle]
        rw [hz] at hstep
        have HST := hide hstep
        generalize cmpR P a = C at *
        obtain ⟨TP, hTP⟩ : ∃ U, U = T P := ⟨_, rfl⟩
        obtain ⟨TQ, hTQ⟩ : ∃ U, U = T Q := ⟨_, rfl⟩
        rw [← hTP, ← hTQ] at *
        clear hstep hft hfm hP hQ hle hTP hTQ hlt hx hsx hrun gp1 sq hz
        go_wp2_with fail
        refine (H1.out _ (Nat.le_trans hBw XF.out.2.2.size) (HTw.out.on XF.out.2.2 hBw)).mono ?_
        rintro e w1 ⟨rfl, hb1⟩
        have HB1 := hide (XF.out.2.2.trans (hb1.mono XF.out.2.2.size))
        have G1 := hide (below_blk hb1 XF.out.1 (lt_blk XF.out.1))
        have F0 := hide (below_blk HB1.out HI.out.2.1 (lt_blk HI.out.2.1))
        have F2 := hide (below_blk HB1.out HI.out.2.2.1 (lt_blk HI.out.2.2.1))
        have F3 := hide (below_blk HB1.out HI.out.2.2.2 (lt_blk HI.out.2.2.2))
        clear hb1 c1 c2 hgw XF
        go_wp2_with fail
        go_roundw
        case rel =>
          refine ⟨k + 1, by omega, by simp, HI.out.1.trans (HB1.out.mono HI.out.1.size), F0.out, ?_, F3.out⟩
          rw [HX.out _ HST.out.symm, Rat.add_zero]
          exact F2.out
        case measure => simp [intOf]; omega
    · obtain rfl : k = 2 := by omega
      have hrun := sup_run HTERM.out (k := 2) (by omega)
      have hal : (supL b).take 2 = supL b := rfl
      rw [hal] at HI hrun
      have HRUN := hide hrun
      have r0 := cell_blk HI.out.2.1 0
      have r1 := cell_blk HI.out.2.1 1
      have r2 := cell_blk HI.out.2.1 2
      have r3 := cell_blk HI.out.2.1 3
      have r4 := cell_blk HI.out.2.1 4
      have rl := lt_blk HI.out.2.1
      have HF := hide (HFO.out _ _ hrun HI.out.2.2.1 HI.out.1)
      rw [HFIN.out] at HF
      clear hlt hrun hal
      go_wp2_with fail
      refine HF.out.mono ?_
      rintro e w1 ⟨⟨v, rfl⟩, ho, hbx⟩
      have HB1 := hide (HI.out.1.trans (only_on ho (show w.heap.size ≤ w.heap.size + 1 by omega) HI.out.1.size))
      delta boxO at hbx
      rw [← HTR.out] at hbx
      have G1 := hide hbx
      have k0 := cell_blk G1.out 0
      have l0 := lt_blk G1.out
      clear ho hbx HF r0 r1 r2 r3 r4 rl
      go_wp2_with fail
      go_ret
      exact ⟨rfl, HB1.out⟩
theorem bmoment_T {b : Bm} (hs : BmS b) {a : Rat} (ha : Gr gp gq a) (fa : Option Addr) (fc : Nat) (sa : Option Addr) (sc : Nat) (B : Nat) (w : World) (hB : B ≤ w.heap.size) (hT : PQ B w) (hb : BeamAt B w fa sa b) :
    Calls Tryz.prog 91 #[beamV (T b.len) (T b.lft) (T b.rgt) fa b.F.length fc sa b.S.length sc, .string (T a)] w (Ret w (.string (T (momentB b a)))) := by
  obtain ⟨K, k1, k2, g1, g2, _⟩ := moment_gr hs ha
  have gl := react_into g1
  have gr := react_into g2
  have hterm : ∀ f ∈ supL b, Gr (zD K) zB (forceT (backAt a) a f) := fun f hf => by
    unfold supL at hf
    simp only [List.mem_cons, List.not_mem_nil, or_false] at hf
    unfold forceT backAt
    rcases hf with rfl | rfl
    · split
      · exact react_arm g1 ha (small_gr hs.sf)
      · exact gr_zero _ _
    · split
      · exact react_arm g2 ha (small_gr hs.sr)
      · exact gr_zero _ _
  have hsup : ∀ f ∈ supL b, Gr gp gq f.1 ∧ sz 140 f.2 := fun f hf => by
    unfold supL at hf
    simp only [List.mem_cons, List.not_mem_nil, or_false] at hf
    rcases hf with rfl | rfl
    · exact ⟨small_gr hs.sf, run_sz (n := 1) k1 k2 (by omega) (by rw [Nat.one_mul]; exact gl)⟩
    · exact ⟨small_gr hs.sr, run_sz (n := 1) k1 k2 (by omega) (by rw [Nat.one_mul]; exact gr)⟩
  have HTERM := hide hterm
  have HSUP := hide hsup
  have X0 := hide (heap3 w (beamO (T b.len) (T b.lft) (T b.rgt) fa b.F.length fc sa b.S.length sc) (.cells #[.string (T a)] 22) (.cells #[.string ⟨#[48]⟩] 22))
  have HT := hide hT
  have HBM := hide hb
  have HS := hide hs
  have HA := hide ha
  have HSU := hide (fun w hB hT hb => bsupports_T hs fa fc sa sc B w hB hT hb)
  have hlen : (supL b).length = 2 := rfl
  have HFO := hide (fun (W0 : World) (x0 : Rat) (hx0 : Gr (zD K) (2 * zB) x0) (hbx : W0.heap[w.heap.size + 2]? = some (boxO x0)) (hB0 : Below w.heap.size w W0) (hba : W0.heap[w.heap.size + 1]? = some (boxO a)) =>
    bfold_any (h := fun p q => -(backAt a p q)) (m := 2) (B := B) hs ha (by omega) hx0 (fun p q hp => gr_neg (turn_into k2 (back_gr hp ha))) fa fc sa sc W0 (each_back k1 k2 (bx := w.heap.size + 2) (bb := w.heap.size + 1) (by omega) (Nat.le_trans hB hB0.size) (hT.on hB0 hB) (by omega) hba ha) hbx (by omega) (hT.on hB0 hB) (hb.below hB0 hB))
  unfold bmV at HFO
  have hfin := sup_moment b a
  have HFIN := hide hfin
  have h00 := T0
  have K1 := hide k1
  have K2 := hide k2
  clear hT hb hs ha gl gr g1 g2 hterm hsup k1 k2 hfin
  obtain ⟨R, hR⟩ : ∃ R, R = momentB b a := ⟨_, rfl⟩
  rw [← hR] at HFIN ⊢
  clear hR
  obtain ⟨TR, hTR⟩ : ∃ U, U = T R := ⟨_, rfl⟩
  have HTR := hide hTR
  rw [← hTR]
  clear hTR
  obtain ⟨TL, hTL⟩ : ∃ U, U = T b.len := ⟨_, rfl⟩
  obtain ⟨Tl, hTl⟩ : ∃ U, U = T b.lft := ⟨_, rfl⟩
  obtain ⟨Tr, hTr⟩ : ∃ U, U = T b.rgt := ⟨_, rfl⟩
  obtain ⟨n1, hn1⟩ : ∃ U, U = b.F.length := ⟨_, rfl⟩
  obtain ⟨n2, hn2⟩ : ∃ U, U = b.S.length := ⟨_, rfl⟩
  rw [← hTL, ← hTl, ← hTr, ← hn1, ← hn2] at X0 HSU HFO ⊢
  clear hTL hTl hTr hn1 hn2
  obtain ⟨TA, hTA⟩ : ∃ U, U = T a := ⟨_, rfl⟩
  have HTA := hide hTA
  have X1 := hide (show w.heap.size = w.heap.size from rfl)
  rw [← hTA] at X0 HFO ⊢
  clear hTA X1
  go_enter Tryz.func91, Tryz.ntmps91
  go_wp2_with fail
  refine (HSU.out _ (Nat.le_trans hB X0.out.2.2.2.2.size) (HT.out.on X0.out.2.2.2.2 hB) (HBM.out.below X0.out.2.2.2.2 hB)).mono ?_
  rintro e w1 ⟨g, rfl, hb1, hg, hgc⟩
  have HB1 := hide (Below.trans (X0.out.2.2.2.2) (hb1.mono (X0.out.2.2.2.2).size))
  have E0 := hide (below_blk hb1 (X0.out.1) (lt_blk (X0.out.1)))
  have E1 := hide (below_blk hb1 (X0.out.2.1) (lt_blk (X0.out.2.1)))
  have E2 := hide (below_blk hb1 (X0.out.2.2.1) (lt_blk (X0.out.2.2.1)))
  have G0 := hide hgc
  have hgn : w.heap.size + 2 < g := by
    have := X0.out.2.2.2.1
    omega
  clear hb1 hg hgc X0 HSU
  go_wp2_with fail
  go_loopw [11] (fun i wr => ∃ k : Nat, k ≤ 2 ∧ i = .int .i64 k ∧ Hid (Below w.heap.size w wr ∧ wr.heap[w.heap.size]? = some (beamO TL Tl Tr fa n1 fc sa n2 sc) ∧ wr.heap[w.heap.size + 1]? = some (.cells #[.string TA] 22) ∧ wr.heap[w.heap.size + 2]? = some (boxO (0 + sumL (forceT (backAt a) a) ((supL b).take k))) ∧ wr.heap[g]? = some (.cells #[.string (T b.lft), .string (T (leftB b)), .string (T b.rgt), .string (T (rightB b))] 249))) (fun i _ => 2 - (intOf i).toNat)
  case atStart =>
    refine ⟨0, Nat.zero_le _, rfl, HB1.out, E0.out, E1.out, ?_, ?_⟩
    · rw [show (0 : Rat) + sumL (forceT (backAt a) a) ((supL b).take 0) = 0 by show (0 : Rat) + 0 = 0; exact Rat.add_zero _]
      show _ = some (Obj.cells #[.string (T 0)] _)
      rw [h00]
      exact E2.out
    · exact G0.out
  clear HB1 E0 E1 E2 G0
  case round =>
    obtain ⟨k, hk, rfl, hin⟩ := hrel
    obtain ⟨wo, hwo⟩ : ∃ wo, wo = wr := ⟨_, rfl⟩
    subst hwo
    have HI := hide hin.out
    clear hin
    by_cases hlt : k < 2
    · have hki : (k : Int) < 2 := by omega
      have hk0 : (0 : Int) ≤ (k : Int) := by omega
      obtain ⟨c1, c2⟩ := supL_cells HI.out.2.2.2.2 hlt
      have hkl : k < (supL b).length := hlt
      have hfm := fAt_mem hkl
      obtain ⟨gp1, sq⟩ := HSUP.out _ hfm
      have hstep := fsum_step (forceT (backAt a) a) hkl
      have hrun := sup_run HTERM.out (k := k) (by omega)
      obtain ⟨P, hP⟩ : ∃ P, P = (fAt (supL b) k).1 := ⟨_, rfl⟩
      obtain ⟨Q, hQ⟩ : ∃ P, P = (fAt (supL b) k).2 := ⟨_, rfl⟩
      have hft : forceT (backAt a) a (fAt (supL b) k) = if P ≤ a then backAt a P Q else 0 := by unfold forceT; rw [hP, hQ]
      rw [← hP] at gp1 c1
      rw [← hQ] at sq c2
      rw [hft] at hstep
      obtain ⟨x, hx⟩ : ∃ x, x = (0 : Rat) + sumL (forceT (backAt a) a) ((supL b).take k) := ⟨_, rfl⟩
      have HX := hide (show ∀ y, sumL (forceT (backAt a) a) ((supL b).take k) + y = sumL (forceT (backAt a) a) ((supL b).take (k + 1)) → (0 : Rat) + sumL (forceT (backAt a) a) ((supL b).take (k + 1)) = x + y from fun y hy => by rw [hx, ← hy, Rat.add_assoc])
      rw [← hx] at HI hrun
      have hsx := run_sz K1.out K2.out (by omega) hrun
      have HSTEP := hide hstep
      have hBw : B ≤ wo.heap.size := Nat.le_trans hB HI.out.1.size
      have HTw := hide (HT.out.on HI.out.1 hB)
      have H1 := hide (fun w hB hT => bCmp_T (place_sz gp1) (place_sz HA.out) (by omega) B w hB hT)
      rw [← HTA.out] at H1
      have XF := hide (heap1 wo (pntO (T P) (T Q)))
      have hgw : g < wo.heap.size := lt_blk HI.out.2.2.2.2
      by_cases hle : P < a
      · have hcc := cmp_lt0 hle
        rw [if_pos (Rat.le_of_lt hle)] at hstep
        have HST := hide hstep
        generalize cmpR P a = C at *
        have HP1 := hide (fun w hB hT => bSub_T (place_sz HA.out) (place_sz gp1) (by omega) B w hB hT)
        have HP2 := hide (fun w hB hT => bMul_T sq (sz_sub (place_sz HA.out) (place_sz gp1)) (by omega) B w hB hT)
        have hg2 : sz 140 (Q * (a - P)) := by
          have := HTERM.out _ hfm
          rw [hft, if_pos (Rat.le_of_lt hle)] at this
          exact run_sz (n := 1) K1.out K2.out (by omega) (by rw [Nat.one_mul]; exact this)
        have HP3 := hide (fun w hB hT => bAdd_T hsx hg2 (by omega) B w hB hT)
        obtain ⟨Y, hY⟩ : ∃ Y, Y = T (x + Q * (a - P)) := ⟨_, rfl⟩
        have HY := hide hY
        rw [← hY] at HP3
        clear hY hg2
        generalize T (Q * (a - P)) = Z1 at *
        generalize T (a - P) = Z2 at *
        rw [← HTA.out] at HP1
        obtain ⟨X, hXX⟩ : ∃ X, X = T x := ⟨_, rfl⟩
        obtain ⟨TP, hTP⟩ : ∃ U, U = T P := ⟨_, rfl⟩
        obtain ⟨TQ, hTQ⟩ : ∃ U, U = T Q := ⟨_, rfl⟩
        rw [← hTP, ← hTQ] at *
        have HXX := hide hXX
        rw [← hXX] at HP3
        clear hstep hft hfm hP hQ hle hTP hTQ hlt hx hsx hrun gp1 sq hXX
        have sa1 := cell_blk HI.out.2.2.1 0
        have sa2 := lt_blk HI.out.2.2.1
        go_wp2_with fail
        refine (H1.out _ (Nat.le_trans hBw XF.out.2.2.size) (HTw.out.on XF.out.2.2 hBw)).mono ?_
        rintro e w1 ⟨rfl, hb1⟩
        have HB1 := hide (XF.out.2.2.trans (hb1.mono XF.out.2.2.size))
        have G1 := hide (below_blk hb1 XF.out.1 (lt_blk XF.out.1))
        have F0 := hide (below_blk HB1.out HI.out.2.1 (lt_blk HI.out.2.1))
        have F1 := hide (below_blk HB1.out HI.out.2.2.1 (lt_blk HI.out.2.2.1))
        have F2 := hide (below_blk HB1.out HI.out.2.2.2.1 (lt_blk HI.out.2.2.2.1))
        have F3 := hide (below_blk HB1.out HI.out.2.2.2.2 (lt_blk HI.out.2.2.2.2))
        clear hb1 c1 c2 hgw XF sa1 sa2
        have F2b := hide (show w1.heap[w.heap.size + 2]? = some (.cells #[.string X] 22) by rw [HXX.out]; exact F2.out)
        have q0 := cell_blk G1.out 0
        have q1 := cell_blk G1.out 1
        have ql := lt_blk G1.out
        have s0 := cell_blk F2b.out 0
        have sl := lt_blk F2b.out
        have s1 := cell_blk F1.out 0
        have sl1 := lt_blk F1.out
        obtain ⟨W1, hW1⟩ : ∃ W, W = w1 := ⟨_, rfl⟩
        subst hW1
        have hB1 : B ≤ W1.heap.size := Nat.le_trans hBw HB1.out.size
        have hTW := hide (HTw.out.on HB1.out hBw)
        have HN1 := hide (fun (o : Of (Below W1.heap.size W1)) => cls_callq hTW.out hB1 HP1.out o o.h.size)
        have HN2 := hide (fun (o : Of (Below W1.heap.size W1)) => cls_callq hTW.out hB1 HP2.out o o.h.size)
        have HN3 := hide (fun (o : Of (Below W1.heap.size W1)) => cls_callq hTW.out hB1 HP3.out o o.h.size)
        go_wp2_with fail
        have hx0 : ∀ x : Of (Below W1.heap.size W1), ∀ o, x.w.cell? ⟨w.heap.size + 2, o, none⟩ = W1.cell? ⟨w.heap.size + 2, o, none⟩ := fun x o => x.h.cell (p := ⟨w.heap.size + 2, o, none⟩) sl
        have hx1 : ∀ x : Of (Below W1.heap.size W1), ∀ o, x.w.cell? ⟨w.heap.size + 1, o, none⟩ = W1.cell? ⟨w.heap.size + 1, o, none⟩ := fun x o => x.h.cell (p := ⟨w.heap.size + 1, o, none⟩) sl1
        have hx2 : ∀ x : Of (Below W1.heap.size W1), ∀ o, x.w.cell? ⟨wo.heap.size, o, none⟩ = W1.cell? ⟨wo.heap.size, o, none⟩ := fun x o => x.h.cell (p := ⟨wo.heap.size, o, none⟩) ql
        have kn : Nonempty (Of (Below W1.heap.size W1)) := ⟨⟨_, Below.refl _ _⟩⟩
        refine region_prefix (C := Cls (Below W1.heap.size W1)) 9 (by kernel_rfl) (by decide) (by kernel_rfl) (by kernel_rfl) (by kernel_rfl) (by kernel_rfl) (Cls.mk (Below.refl _ _).drew) ?_
        simp only [List.take_succ_cons, List.take_zero, List.drop_succ_cons, List.drop_zero]
        repeat (go_big_quiet_step (first | rfl | with_reducible exact HN1.out _ | with_reducible exact HN2.out _ | with_reducible exact HN3.out _))
        refine wpQuiet_nil ?_
        intro w2 hcl
        have hb2 := hcl.out
        have HB2 := hide (HB1.out.trans (hb2.mono HB1.out.size))
        have A0 := hide (below_blk hb2 F0.out (lt_blk F0.out))
        have A1 := hide (below_blk hb2 F1.out (lt_blk F1.out))
        have A2 := hide (below_blk hb2 F2.out (lt_blk F2.out))
        have A3 := hide (below_blk hb2 F3.out (lt_blk F3.out))
        clear hcl hb2 hx0 hx1 hx2 kn HN1 HN2 HN3 q0 q1 ql s0 sl s1 sl1
        have s0 := cell_blk A2.out 0
        have f0 := froz_blk A2.out 0
        have sl := lt_blk A2.out
        go_wp2_with fail
        go_roundw
        case rel =>
          refine ⟨k + 1, by omega, by simp, (HI.out.1.trans (HB2.out.mono HI.out.1.size)).setCell (p := ⟨w.heap.size + 2, 0, none⟩) (show w.heap.size ≤ w.heap.size + 2 by omega) _, ?_, ?_, ?_, ?_⟩
          · exact (setCell_other (show w.heap.size + 2 ≠ w.heap.size by omega)).trans A0.out
          · exact (setCell_other (show w.heap.size + 2 ≠ w.heap.size + 1 by omega)).trans A1.out
          · rw [HX.out _ HST.out.symm, HY.out]
            exact box_put A2.out _
          · exact (setCell_other (show w.heap.size + 2 ≠ g by omega)).trans A3.out
        case measure => simp [intOf]; omega
      · have hcc := cmp_nneg (Rat.not_lt.1 hle)
        have hz : (if P ≤ a then backAt a P Q else 0) = (0 : Rat) := by
          by_cases h2 : P ≤ a
          · rw [if_pos h2, Rat.le_antisymm h2 (Rat.not_lt.1 hle)]
            exact back_at a Q
          · rw [if_neg h2]
        rw [hz] at hstep
        have HST := hide hstep
        generalize cmpR P a = C at *
        obtain ⟨TP, hTP⟩ : ∃ U, U = T P := ⟨_, rfl⟩
        obtain ⟨TQ, hTQ⟩ : ∃ U, U = T Q := ⟨_, rfl⟩
        rw [← hTP, ← hTQ] at *
        clear hstep hft hfm hP hQ hle hTP hTQ hlt hx hsx hrun gp1 sq hz
        have sa1 := cell_blk HI.out.2.2.1 0
        have sa2 := lt_blk HI.out.2.2.1
        go_wp2_with fail
        refine (H1.out _ (Nat.le_trans hBw XF.out.2.2.size) (HTw.out.on XF.out.2.2 hBw)).mono ?_
        rintro e w1 ⟨rfl, hb1⟩
        have HB1 := hide (XF.out.2.2.trans (hb1.mono XF.out.2.2.size))
        have G1 := hide (below_blk hb1 XF.out.1 (lt_blk XF.out.1))
        have F0 := hide (below_blk HB1.out HI.out.2.1 (lt_blk HI.out.2.1))
        have F1 := hide (below_blk HB1.out HI.out.2.2.1 (lt_blk HI.out.2.2.1))
        have F2 := hide (below_blk HB1.out HI.out.2.2.2.1 (lt_blk HI.out.2.2.2.1))
        have F3 := hide (below_blk HB1.out HI.out.2.2.2.2 (lt_blk HI.out.2.2.2.2))
        clear hb1 c1 c2 hgw XF sa1 sa2
        go_wp2_with fail
        go_roundw
        case rel =>
          refine ⟨k + 1, by omega, by simp, HI.out.1.trans (HB1.out.mono HI.out.1.size), F0.out, F1.out, ?_, F3.out⟩
          rw [HX.out _ HST.out.symm, Rat.add_zero]
          exact F2.out
        case measure => simp [intOf]; omega
    · obtain rfl : k = 2 := by omega
      have hrun := sup_run HTERM.out (k := 2) (by omega)
      have hal : (supL b).take 2 = supL b := rfl
      rw [hal] at HI hrun
      have HRUN := hide hrun
      have r0 := cell_blk HI.out.2.1 0
      have r1 := cell_blk HI.out.2.1 1
      have r2 := cell_blk HI.out.2.1 2
      have r3 := cell_blk HI.out.2.1 3
      have r4 := cell_blk HI.out.2.1 4
      have rl := lt_blk HI.out.2.1
      have s1 := cell_blk HI.out.2.2.1 0
      have sl1 := lt_blk HI.out.2.2.1
      have HF := hide (HFO.out _ _ hrun HI.out.2.2.2.1 HI.out.1 (by rw [HI.out.2.2.1, HTA.out]))
      rw [HFIN.out] at HF
      clear hlt hrun hal
      go_wp2_with fail
      refine HF.out.mono ?_
      rintro e w1 ⟨⟨v, rfl⟩, ho, hbx⟩
      have HB1 := hide (HI.out.1.trans (only_on ho (show w.heap.size ≤ w.heap.size + 2 by omega) HI.out.1.size))
      delta boxO at hbx
      rw [← HTR.out] at hbx
      have G1 := hide hbx
      have k0 := cell_blk G1.out 0
      have l0 := lt_blk G1.out
      clear ho hbx HF r0 r1 r2 r3 r4 rl s1 sl1
      go_wp2_with fail
      go_ret
      exact ⟨rfl, HB1.out⟩
open Go.RowKit Go.KP Go.KI Go.Shelf
attribute [local go_sem] Oper.semAt_some

theorem bplace_ok {b : Bm} (hs : BmS b) {a : Rat} (ha : Gr gp gq a) (h0 : 0 ≤ a) (h1 : a ≤ b.len) (fa : Option Addr) (fc : Nat) (sa : Option Addr) (sc : Nat) (B : Nat) (w : World) (hB : B ≤ w.heap.size) (hT : PQ B w) (hb : BeamAt B w fa sa b) :
    Calls Tryz.prog 90 #[beamV (T b.len) (T b.lft) (T b.rgt) fa b.F.length fc sa b.S.length sc, .string (T a)] w (Ret w (.int .i64 0)) := by
  have HT := hide hT
  have HBM := hide hb
  have X0 := hide (heap1 w (beamO (T b.len) (T b.lft) (T b.rgt) fa b.F.length fc sa b.S.length sc))
  have sA := place_sz ha
  have hf : fitsQ a := sz_fits sA (by rw [most_eq]; omega)
  have H1 := hide (fun w hB hT hb => bCheck_ok hs fa fc sa sc B w hB hT hb)
  have HC := hide (fun w hB hT => qchk_T hf B w hB hT)
  have HP := hide (fun w hB hT => qParts_any (T a) (T_good hf).1 B w hB hT)
  rw [show partsR (T a).data.toList = .tuple #[.string (iB a.num), .string (iB (a.den : Int)), .int .i64 0] by unfold partsR; rw [if_pos (T_good hf).2.1, (T_good hf).2.2]; rfl] at HP
  have HD1 := hide (fun w => bdigits_I (z := a.num) w)
  have HD2 := hide (fun w => bdigits_I (z := (a.den : Int)) w)
  rw [Int.natAbs_natCast] at HD2
  have d1 : (Lib.decDigits a.num.natAbs).length ≤ 20 := (dec_len_le (by omega)).2 sA.1
  have d2 : (Lib.decDigits a.den).length ≤ 20 := (dec_len_le (by omega)).2 sA.2
  have HO := hide (fun w hB hT => boutside_in (smallB_sz hs.sl) sA (by omega) h0 h1 (T b.lft) (T b.rgt) fa b.F.length fc sa b.S.length sc B w hB hT)
  generalize (Lib.decDigits a.num.natAbs).length = d at *
  generalize (Lib.decDigits a.den).length = e at *
  have hm : ((56 : Int) < max (d : Int) (e : Int)) = False := eq_false (by omega)
  generalize iB a.num = N at *
  generalize iB (a.den : Int) = D at *
  generalize T a = TA at *
  generalize T b.len = TL at *
  generalize T b.lft = Tl at *
  generalize T b.rgt = Tr at *
  generalize b.F.length = n1 at *
  generalize b.S.length = n2 at *
  clear hT hb hs ha h0 h1 sA hf d1 d2
  go_enter Tryz.func90, Tryz.ntmps90
  go_wp2_with fail
  refine (H1.out _ (Nat.le_trans hB X0.out.2.2.size) (HT.out.on X0.out.2.2 hB) (HBM.out.below X0.out.2.2 hB)).mono ?_
  rintro e w1 ⟨rfl, hb1⟩
  have G1 := hide (below_blk hb1 X0.out.1 (lt_blk X0.out.1))
  have HB1 := hide (X0.out.2.2.trans (hb1.mono X0.out.2.2.size))
  clear hb1 X0
  go_wp2_with fail
  refine (HC.out _ (Nat.le_trans hB HB1.out.size) (HT.out.on HB1.out hB)).mono ?_
  rintro e w2 ⟨rfl, hb2⟩
  have G2 := hide (below_blk hb2 G1.out (lt_blk G1.out))
  have HB2 := hide (HB1.out.trans (hb2.mono HB1.out.size))
  clear hb2
  go_wp2_with fail
  refine (HP.out _ (Nat.le_trans hB HB2.out.size) (HT.out.on HB2.out hB)).mono ?_
  rintro e w3 ⟨rfl, hb3⟩
  have G3 := hide (below_blk hb3 G2.out (lt_blk G2.out))
  have HB3 := hide (HB2.out.trans (hb3.mono HB2.out.size))
  clear hb3
  go_wp2_with fail
  refine (HD1.out _).mono ?_
  rintro e w0 ⟨rfl, rfl⟩
  go_wp2_with fail
  refine (HD2.out _).mono ?_
  rintro e w0 ⟨rfl, rfl⟩
  have r0 := cell_blk G3.out 0
  have r1 := cell_blk G3.out 1
  have r2 := cell_blk G3.out 2
  have r3 := cell_blk G3.out 3
  have r4 := cell_blk G3.out 4
  have rl := lt_blk G3.out
  go_wp2_with fail
  refine (HO.out _ (Nat.le_trans hB HB3.out.size) (HT.out.on HB3.out hB)).mono ?_
  rintro e w4 ⟨rfl, hb4⟩
  have HB4 := hide (HB3.out.trans (hb4.mono HB3.out.size))
  clear hb4 r0 r1 r2 r3 r4 rl
  go_wp2_with fail
  go_ret
  exact ⟨rfl, HB4.out⟩
theorem bShear_T {b : Bm} (hs : BmS b) {a : Rat} (ha : Gr gp gq a) (h0 : 0 ≤ a) (h1 : a ≤ b.len) (fa : Option Addr) (fc : Nat) (sa : Option Addr) (sc : Nat) (B : Nat) (w : World) (hB : B ≤ w.heap.size) (hT : PQ B w) (hb : BeamAt B w fa sa b) :
    Calls Tryz.prog 44 #[beamV (T b.len) (T b.lft) (T b.rgt) fa b.F.length fc sa b.S.length sc, .string (T a)] w (Ret w (.tuple #[.string (T (shearB b a)), .int .i64 0])) := by
  have HT := hide hT
  have HBM := hide hb
  have X0 := hide (heap1 w (beamO (T b.len) (T b.lft) (T b.rgt) fa b.F.length fc sa b.S.length sc))
  have H1 := hide (fun w hB hT hb => bplace_ok hs ha h0 h1 fa fc sa sc B w hB hT hb)
  have H2 := hide (fun w hB hT hb => bshear_T hs ha fa fc sa sc B w hB hT hb)
  generalize T (shearB b a) = TR at *
  generalize T a = TA at *
  generalize T b.len = TL at *
  generalize T b.lft = Tl at *
  generalize T b.rgt = Tr at *
  generalize b.F.length = n1 at *
  generalize b.S.length = n2 at *
  clear hT hb hs ha h0 h1
  go_enter Tryz.func44, Tryz.ntmps44
  go_wp2_with fail
  refine (H1.out _ (Nat.le_trans hB X0.out.2.2.size) (HT.out.on X0.out.2.2 hB) (HBM.out.below X0.out.2.2 hB)).mono ?_
  rintro e w1 ⟨rfl, hb1⟩
  have G1 := hide (below_blk hb1 X0.out.1 (lt_blk X0.out.1))
  have HB1 := hide (X0.out.2.2.trans (hb1.mono X0.out.2.2.size))
  clear hb1 X0
  have r0 := cell_blk G1.out 0
  have r1 := cell_blk G1.out 1
  have r2 := cell_blk G1.out 2
  have r3 := cell_blk G1.out 3
  have r4 := cell_blk G1.out 4
  have rl := lt_blk G1.out
  go_wp2_with fail
  refine (H2.out _ (Nat.le_trans hB HB1.out.size) (HT.out.on HB1.out hB) (HBM.out.below HB1.out hB)).mono ?_
  rintro e w2 ⟨rfl, hb2⟩
  have HB2 := hide (HB1.out.trans (hb2.mono HB1.out.size))
  clear hb2 r0 r1 r2 r3 r4 rl
  go_wp2_with fail
  refine bodyPost_ret (results_tmp2 rfl _ _ _) rfl ?_
  exact ⟨rfl, HB2.out⟩
theorem bMoment_T {b : Bm} (hs : BmS b) {a : Rat} (ha : Gr gp gq a) (h0 : 0 ≤ a) (h1 : a ≤ b.len) (fa : Option Addr) (fc : Nat) (sa : Option Addr) (sc : Nat) (B : Nat) (w : World) (hB : B ≤ w.heap.size) (hT : PQ B w) (hb : BeamAt B w fa sa b) :
    Calls Tryz.prog 21 #[beamV (T b.len) (T b.lft) (T b.rgt) fa b.F.length fc sa b.S.length sc, .string (T a)] w (Ret w (.tuple #[.string (T (momentB b a)), .int .i64 0])) := by
  have HT := hide hT
  have HBM := hide hb
  have X0 := hide (heap1 w (beamO (T b.len) (T b.lft) (T b.rgt) fa b.F.length fc sa b.S.length sc))
  have H1 := hide (fun w hB hT hb => bplace_ok hs ha h0 h1 fa fc sa sc B w hB hT hb)
  have H2 := hide (fun w hB hT hb => bmoment_T hs ha fa fc sa sc B w hB hT hb)
  generalize T (momentB b a) = TR at *
  generalize T a = TA at *
  generalize T b.len = TL at *
  generalize T b.lft = Tl at *
  generalize T b.rgt = Tr at *
  generalize b.F.length = n1 at *
  generalize b.S.length = n2 at *
  clear hT hb hs ha h0 h1
  go_enter Tryz.func21, Tryz.ntmps21
  go_wp2_with fail
  refine (H1.out _ (Nat.le_trans hB X0.out.2.2.size) (HT.out.on X0.out.2.2 hB) (HBM.out.below X0.out.2.2 hB)).mono ?_
  rintro e w1 ⟨rfl, hb1⟩
  have G1 := hide (below_blk hb1 X0.out.1 (lt_blk X0.out.1))
  have HB1 := hide (X0.out.2.2.trans (hb1.mono X0.out.2.2.size))
  clear hb1 X0
  have r0 := cell_blk G1.out 0
  have r1 := cell_blk G1.out 1
  have r2 := cell_blk G1.out 2
  have r3 := cell_blk G1.out 3
  have r4 := cell_blk G1.out 4
  have rl := lt_blk G1.out
  go_wp2_with fail
  refine (H2.out _ (Nat.le_trans hB HB1.out.size) (HT.out.on HB1.out hB) (HBM.out.below HB1.out hB)).mono ?_
  rintro e w2 ⟨rfl, hb2⟩
  have HB2 := hide (HB1.out.trans (hb2.mono HB1.out.size))
  clear hb2 r0 r1 r2 r3 r4 rl
  go_wp2_with fail
  refine bodyPost_ret (results_tmp2 rfl _ _ _) rfl ?_
  exact ⟨rfl, HB2.out⟩
open Go.RowKit Go.KP Go.KI Go.Shelf
attribute [local go_sem] Oper.semAt_some

theorem txq {x : Rat} {n d : Nat} {a b : List UInt8} (h1 : x.num = (n : Int)) (h2 : x.den = d) (h3 : d ≠ 1) (ha : Lib.decDigits n = a) (hb : Lib.decDigits d = b) : T x = strB (a ++ 47 :: b) := by
  unfold T ratS
  rw [if_neg (by omega), h1, Lib.itoa_nonneg, h2, ha, hb]
theorem txn {x : Rat} {n : Nat} {a : List UInt8} (h : x = ((n : Nat) : Rat)) (ha : Lib.decDigits n = a) : T x = strB a := by
  rw [h, show T ((n : Nat) : Rat) = iB (n : Int) from (iB_T _).symm, iB_lit n a ha]
open Go.RowKit Go.KP Go.KI Go.Shelf
attribute [local go_sem] Oper.semAt_some

theorem mxe2 (w : World) : (Builtin.max_ #[31, 31] 31 #[.int .i64 0, .int .i64 0]).run Tryz.prog w = .ok (.int .i64 0) w := by kernel_rfl
open Go.RowKit Go.KP Go.KI Go.Shelf
attribute [local go_sem] Oper.semAt_some

abbrev sumO (x : Rat) : Obj := .cells #[.string (T x), .int .i64 0] 35
theorem half_lit : T (1 / 2) = ⟨#[49, 47, 50]⟩ := txq (n := 1) (d := 2) (by decide +kernel) (by decide +kernel) (by decide) (a := [49]) (b := [50]) (by decide +kernel) (by decide +kernel)
theorem mxe3 (w : World) : (Builtin.max_ #[31, 31, 31] 31 #[.int .i64 0, .int .i64 0, .int .i64 0]).run Tryz.prog w = .ok (.int .i64 0) w := by kernel_rfl
theorem below_same {W w : World} {n b : Nat} {x : ByteArray} {t : TypeId} (h : Below n W w) (hb : w.heap[b]? = some (.cells #[.string x, .int .i64 0] t (0, 0))) : Below n W (w.setCell ⟨b, 1, none⟩ (.int .i64 0)) := by
  have hs : (w.setCell ⟨b, 1, none⟩ (.int .i64 0)).heap[b]? = w.heap[b]? := by
    simp only [World.setCell, Array.getElem?_modify, hb]
    simp
  refine ⟨h.os, h.tape, h.output, by rw [setCell_size]; exact h.size, fun i hi => ?_⟩
  by_cases e : b = i
  · subst e
    exact hs.trans (h.block b hi)
  · exact (setCell_other e).trans (h.block i hi)
theorem t52gap_T {x y s : Rat} {p q : Nat} (sx : sz p x) (sy : sz q y) (h : p + q + 1 ≤ 300) (bs : Nat) (B : Nat) (w : World) (hb : w.heap[bs]? = some (sumO s)) (hB : B ≤ w.heap.size) (hT : PQ B w) :
    Calls Tryz.prog 19 #[.pointer (some ⟨bs, 0, none⟩), .string (T x), .string (T y)] w (Ret w (.string (T (x - y)))) := by
  have HT := hide hT
  have G0 := hide hb
  have H1 := hide (fun w hB hT => qsub_to (T_list x) (T_list y) (sz_fits sx (by rw [most_eq]; omega)) (sz_fits sy (by rw [most_eq]; omega)) (subC_of sx sy (by rw [most_eq]; omega)) B w hB hT)
  rw [show strB (ratS (x - y)) = T (x - y) from rfl] at H1
  generalize T (x - y) = Z at *
  generalize T x = X at *
  generalize T y = Y at *
  generalize T s = S at *
  have hmx := mxe2
  clear sx sy h hb hT
  go_enter Tryz.func19, Tryz.ntmps19
  go_wp2_with fail
  refine (H1.out _ hB HT.out).mono ?_
  rintro e w1 ⟨rfl, hb1⟩
  have G1 := hide (below_blk hb1 G0.out (lt_blk G0.out))
  have HB1 := hide hb1
  clear hb1
  have k1 := cell_blk G1.out 1
  have f1 := froz_blk G1.out 1
  have l1 := lt_blk G1.out
  go_wp2_with fail
  go_ret
  exact ⟨rfl, below_same HB1.out G1.out⟩
theorem t52mean_T {x y s : Rat} {p q : Nat} (sx : sz p x) (sy : sz q y) (h : p + q + 3 ≤ 300) (bs : Nat) (B : Nat) (w : World) (hb : w.heap[bs]? = some (sumO s)) (hB : B ≤ w.heap.size) (hT : PQ B w) :
    Calls Tryz.prog 20 #[.pointer (some ⟨bs, 0, none⟩), .string (T x), .string (T y)] w (Ret w (.string (T ((x + y) * (1 / 2))))) := by
  have HT := hide hT
  have G0 := hide hb
  have H1 := hide (fun w hB hT => qadd_to (T_list x) (T_list y) (sz_fits sx (by rw [most_eq]; omega)) (sz_fits sy (by rw [most_eq]; omega)) (addC_of sx sy (by rw [most_eq]; omega)) B w hB hT)
  rw [show strB (ratS (x + y)) = T (x + y) from rfl] at H1
  have s2 : sz 1 (1 / 2 : Rat) := ⟨by decide +kernel, by decide +kernel⟩
  have H2 := hide (fun w hB hT => qmul_to (T_list (x + y)) (T_list (1 / 2)) (sz_fits (sz_add sx sy) (by rw [most_eq]; omega)) (sz_fits s2 (by rw [most_eq]; omega)) (mulC_of (sz_add sx sy) s2 (by rw [most_eq]; omega)) B w hB hT)
  rw [show strB (ratS ((x + y) * (1 / 2))) = T ((x + y) * (1 / 2)) from rfl, show T (1 / 2) = ⟨#[49, 47, 50]⟩ from half_lit] at H2
  generalize T ((x + y) * (1 / 2)) = Z at *
  generalize T (x + y) = V at *
  generalize T x = X at *
  generalize T y = Y at *
  generalize T s = S at *
  have hmx := mxe3
  clear sx sy h hb hT s2
  go_enter Tryz.func20, Tryz.ntmps20
  go_wp2_with fail
  refine (H1.out _ hB HT.out).mono ?_
  rintro e w1 ⟨rfl, hb1⟩
  have G1 := hide (below_blk hb1 G0.out (lt_blk G0.out))
  have HB1 := hide hb1
  clear hb1
  go_wp2_with fail
  refine (H2.out _ (Nat.le_trans hB HB1.out.size) (HT.out.on HB1.out hB)).mono ?_
  rintro e w2 ⟨rfl, hb2⟩
  have G2 := hide (below_blk hb2 G1.out (lt_blk G1.out))
  have HB2 := hide (HB1.out.trans (hb2.mono HB1.out.size))
  clear hb2
  have k1 := cell_blk G2.out 1
  have f1 := froz_blk G2.out 1
  have l1 := lt_blk G2.out
  go_wp2_with fail
  go_ret
  exact ⟨rfl, below_same HB2.out G2.out⟩
theorem sum_put {W : World} {b : Nat} {x : Rat} (h : W.heap[b]? = some (sumO x)) (y : Rat) : ((W.setCell ⟨b, 0, none⟩ (.string (T y))).setCell ⟨b, 1, none⟩ (.int .i64 0)).heap[b]? = some (sumO y) := by
  simp only [World.setCell, Array.getElem?_modify, h]
  simp
theorem t52add_T {s : Rat} (l : List Rat) (hl : l.length ≤ 1000) (hok : okT 1 l) (ss : sz 140 s) (sp : sz 140 (prodL 1 l)) (bs b : Nat) (B : Nat) (w : World) (hb : w.heap[bs]? = some (sumO s)) (hc : NumsAt w b l) (hB : B ≤ w.heap.size) (hT : PQ B w) :
    Calls Tryz.prog 18 #[.pointer (some ⟨bs, 0, none⟩), .bool false, .slice (some ⟨b, 0, none⟩) l.length l.length] w (fun e w' => (∃ v, e = .returned v) ∧ Only bs w w' ∧ w'.heap[bs]? = some (sumO (s + prodL 1 l))) := by
  have HT := hide hT
  have HC := hide hc
  have HG := hide hb
  obtain ⟨n, hn⟩ : ∃ n, n = l.length := ⟨_, rfl⟩
  rw [← hn] at hl ⊢
  have HN := hide hn
  have HOK := hide hok
  have HFI := hide (fun w hB hT => qadd_to (T_list s) (T_list (prodL 1 l)) (sz_fits ss (by rw [most_eq]; omega)) (sz_fits sp (by rw [most_eq]; omega)) (addC_of ss sp (by rw [most_eq]; omega)) B w hB hT)
  rw [show strB (ratS (s + prodL 1 l)) = T (s + prodL 1 l) from rfl] at HFI
  obtain ⟨R, hR⟩ : ∃ R, R = s + prodL 1 l := ⟨_, rfl⟩
  rw [← hR] at HFI ⊢
  obtain ⟨TR, hTR⟩ : ∃ U, U = T R := ⟨_, rfl⟩
  rw [← hTR] at HFI
  have HTR := hide hTR
  have hmx := mxe2
  clear hc hn hT hok hb ss sp hR hTR
  go_enter Tryz.func18, Tryz.ntmps18
  go_wp2_with fail
  go_loopw [6, 17] (fun o i wr => ∃ k : Nat, k ≤ n ∧ o = .string (T (prodL 1 (l.take k))) ∧ i = .int .i64 k ∧ Hid (fitsQ (prodL 1 (l.take k)) ∧ okT (prodL 1 (l.take k)) (l.drop k) ∧ Below w.heap.size w wr)) (fun _ i _ => n - (intOf i).toNat)
  case atStart => exact ⟨0, Nat.zero_le _, by rw [show prodL 1 (l.take 0) = 1 from rfl, T1], rfl, ⟨fitsQ_one, HOK.out, Below.refl _ _⟩⟩
  case round =>
    obtain ⟨k, hk, rfl, rfl, hin⟩ := hrel
    obtain ⟨wo, hwo⟩ : ∃ wo, wo = wr := ⟨_, rfl⟩
    subst hwo
    by_cases hlt : k < n
    · have hki : (k : Int) < (n : Int) := by omega
      have hk0 : (0 : Int) ≤ (k : Int) := by omega
      obtain ⟨a, hs⟩ : ∃ s, l[k]? = some s := ⟨_, List.getElem?_eq_getElem (by rw [← HN.out]; exact hlt)⟩
      have hcell := (HC.out.below hin.out.2.2 HC.out.1).2 k a hs
      obtain ⟨fa, hm, he, hok⟩ := okT_drop hs hin.out.2.1
      have H1 := hide (qmul_to (T_list _) (T_list a) hin.out.1 fa hm B wo (Nat.le_trans hB hin.out.2.2.size) (HT.out.on hin.out.2.2 hB))
      rw [← he] at H1
      have hfit : fitsQ (prodL 1 (l.take (k + 1))) := by rw [he]; exact mulC_fits hm
      have HNX := hide (And.intro hfit hok)
      have HB0 := hide hin.out.2.2
      rw [show strB (ratS (prodL 1 (l.take (k + 1)))) = T (prodL 1 (l.take (k + 1))) from rfl] at H1
      obtain ⟨Z, hZ⟩ : ∃ Z, Z = T (prodL 1 (l.take (k + 1))) := ⟨_, rfl⟩
      rw [← hZ] at H1
      have HZ := hide hZ
      generalize T (prodL 1 (l.take k)) = Y at H1 ⊢
      generalize T a = X at H1 hcell
      clear hs hlt hin fa hm he hok hfit hZ
      go_wp2_with fail
      refine H1.out.mono ?_
      rintro e w1 ⟨rfl, hb1⟩
      have HB1 := hide (HB0.out.trans (hb1.mono HB0.out.size))
      have G1 := hide (below_blk HB1.out HG.out (lt_blk HG.out))
      clear hb1 hcell
      have k1 := cell_blk G1.out 1
      have f1 := froz_blk G1.out 1
      have l1 := lt_blk G1.out
      obtain ⟨W1, hW1⟩ : ∃ W, W = w1 := ⟨_, rfl⟩
      subst hW1
      go_wp2_with fail
      have hx0 : ∀ x : Of (Below W1.heap.size W1), ∀ o, x.w.cell? ⟨bs, o, none⟩ = W1.cell? ⟨bs, o, none⟩ := fun x o => x.h.cell (p := ⟨bs, o, none⟩) l1
      have kn : Nonempty (Of (Below W1.heap.size W1)) := ⟨⟨_, Below.refl _ _⟩⟩
      refine region_prefix (C := Cls (Below W1.heap.size W1)) 11 (by kernel_rfl) (by decide) (by kernel_rfl) (by kernel_rfl) (by kernel_rfl) (by kernel_rfl) (Cls.mk (Below.refl _ _).drew) ?_
      simp only [List.take_succ_cons, List.take_zero, List.drop_succ_cons, List.drop_zero]
      repeat (go_big_quiet_step (rfl))
      refine wpQuiet_nil ?_
      intro w2 hcl
      have hb2 := hcl.out
      have HB2 := hide (HB1.out.trans (hb2.mono HB1.out.size))
      have G2 := hide (below_blk hb2 G1.out l1)
      clear hcl hb2 hx0 kn k1 f1 l1
      have k1 := cell_blk G2.out 1
      have f1 := froz_blk G2.out 1
      have l1 := lt_blk G2.out
      have HB3 := hide (below_same HB2.out G2.out)
      go_wp2_with fail
      go_roundw
      case rel => exact ⟨k + 1, by omega, by rw [HZ.out], by simp, ⟨HNX.out.1, HNX.out.2, HB3.out⟩⟩
      case measure => simp [intOf]; omega
    · obtain rfl : k = n := by omega
      have hki : ((k : Int) < (k : Int)) = False := eq_false (by omega)
      have HB0 := hide hin.out.2.2
      rw [show l.take k = l from List.take_of_length_le (by rw [← HN.out]; omega)]
      generalize T (prodL 1 l) = Z at *
      have G1 := hide (below_blk HB0.out HG.out (lt_blk HG.out))
      obtain ⟨TSS, hTS⟩ : ∃ U, U = T s := ⟨_, rfl⟩
      have k0 := cell_blk G1.out 0
      have k1 := cell_blk G1.out 1
      rw [← hTS] at HFI k0
      have f1 := froz_blk G1.out 1
      have f0 := froz_blk G1.out 0
      have l1 := lt_blk G1.out
      clear hlt hin hTS
      go_wp2_with fail
      refine (HFI.out _ (Nat.le_trans hB HB0.out.size) (HT.out.on HB0.out hB)).mono ?_
      rintro e w1 ⟨rfl, hb1⟩
      have HB1 := hide (HB0.out.trans (hb1.mono HB0.out.size))
      have G2 := hide (below_blk hb1 G1.out l1)
      clear hb1 k0 k1 f0 f1 l1
      have k0 := cell_blk G2.out 0
      have k1 := cell_blk G2.out 1
      have f1 := froz_blk G2.out 1
      have f0 := froz_blk G2.out 0
      have l1 := lt_blk G2.out
      go_wp2_with fail
      refine bodyPost_end (results_none rfl _ _ _) rfl ?_
      refine ⟨⟨_, rfl⟩, ((only_of HB1.out).set 0 _).set 1 _, ?_⟩
      rw [HTR.out]
      exact sum_put G2.out _
theorem t52sub_T {s : Rat} (l : List Rat) (hl : l.length ≤ 1000) (hok : okT 1 l) (ss : sz 140 s) (sp : sz 140 (prodL 1 l)) (bs b : Nat) (B : Nat) (w : World) (hb : w.heap[bs]? = some (sumO s)) (hc : NumsAt w b l) (hB : B ≤ w.heap.size) (hT : PQ B w) :
    Calls Tryz.prog 18 #[.pointer (some ⟨bs, 0, none⟩), .bool true, .slice (some ⟨b, 0, none⟩) l.length l.length] w (fun e w' => (∃ v, e = .returned v) ∧ Only bs w w' ∧ w'.heap[bs]? = some (sumO (s - prodL 1 l))) := by
  have HT := hide hT
  have HC := hide hc
  have HG := hide hb
  obtain ⟨n, hn⟩ : ∃ n, n = l.length := ⟨_, rfl⟩
  rw [← hn] at hl ⊢
  have HN := hide hn
  have HOK := hide hok
  have HFI := hide (fun w hB hT => qsub_to (T_list s) (T_list (prodL 1 l)) (sz_fits ss (by rw [most_eq]; omega)) (sz_fits sp (by rw [most_eq]; omega)) (subC_of ss sp (by rw [most_eq]; omega)) B w hB hT)
  rw [show strB (ratS (s - prodL 1 l)) = T (s - prodL 1 l) from rfl] at HFI
  obtain ⟨R, hR⟩ : ∃ R, R = s - prodL 1 l := ⟨_, rfl⟩
  rw [← hR] at HFI ⊢
  obtain ⟨TR, hTR⟩ : ∃ U, U = T R := ⟨_, rfl⟩
  rw [← hTR] at HFI
  have HTR := hide hTR
  have hmx := mxe2
  clear hc hn hT hok hb ss sp hR hTR
  go_enter Tryz.func18, Tryz.ntmps18
  go_wp2_with fail
  go_loopw [6, 17] (fun o i wr => ∃ k : Nat, k ≤ n ∧ o = .string (T (prodL 1 (l.take k))) ∧ i = .int .i64 k ∧ Hid (fitsQ (prodL 1 (l.take k)) ∧ okT (prodL 1 (l.take k)) (l.drop k) ∧ Below w.heap.size w wr)) (fun _ i _ => n - (intOf i).toNat)
  case atStart => exact ⟨0, Nat.zero_le _, by rw [show prodL 1 (l.take 0) = 1 from rfl, T1], rfl, ⟨fitsQ_one, HOK.out, Below.refl _ _⟩⟩
  case round =>
    obtain ⟨k, hk, rfl, rfl, hin⟩ := hrel
    obtain ⟨wo, hwo⟩ : ∃ wo, wo = wr := ⟨_, rfl⟩
    subst hwo
    by_cases hlt : k < n
    · have hki : (k : Int) < (n : Int) := by omega
      have hk0 : (0 : Int) ≤ (k : Int) := by omega
      obtain ⟨a, hs⟩ : ∃ s, l[k]? = some s := ⟨_, List.getElem?_eq_getElem (by rw [← HN.out]; exact hlt)⟩
      have hcell := (HC.out.below hin.out.2.2 HC.out.1).2 k a hs
      obtain ⟨fa, hm, he, hok⟩ := okT_drop hs hin.out.2.1
      have H1 := hide (qmul_to (T_list _) (T_list a) hin.out.1 fa hm B wo (Nat.le_trans hB hin.out.2.2.size) (HT.out.on hin.out.2.2 hB))
      rw [← he] at H1
      have hfit : fitsQ (prodL 1 (l.take (k + 1))) := by rw [he]; exact mulC_fits hm
      have HNX := hide (And.intro hfit hok)
      have HB0 := hide hin.out.2.2
      rw [show strB (ratS (prodL 1 (l.take (k + 1)))) = T (prodL 1 (l.take (k + 1))) from rfl] at H1
      obtain ⟨Z, hZ⟩ : ∃ Z, Z = T (prodL 1 (l.take (k + 1))) := ⟨_, rfl⟩
      rw [← hZ] at H1
      have HZ := hide hZ
      generalize T (prodL 1 (l.take k)) = Y at H1 ⊢
      generalize T a = X at H1 hcell
      clear hs hlt hin fa hm he hok hfit hZ
      go_wp2_with fail
      refine H1.out.mono ?_
      rintro e w1 ⟨rfl, hb1⟩
      have HB1 := hide (HB0.out.trans (hb1.mono HB0.out.size))
      have G1 := hide (below_blk HB1.out HG.out (lt_blk HG.out))
      clear hb1 hcell
      have k1 := cell_blk G1.out 1
      have f1 := froz_blk G1.out 1
      have l1 := lt_blk G1.out
      obtain ⟨W1, hW1⟩ : ∃ W, W = w1 := ⟨_, rfl⟩
      subst hW1
      go_wp2_with fail
      have hx0 : ∀ x : Of (Below W1.heap.size W1), ∀ o, x.w.cell? ⟨bs, o, none⟩ = W1.cell? ⟨bs, o, none⟩ := fun x o => x.h.cell (p := ⟨bs, o, none⟩) l1
      have kn : Nonempty (Of (Below W1.heap.size W1)) := ⟨⟨_, Below.refl _ _⟩⟩
      refine region_prefix (C := Cls (Below W1.heap.size W1)) 11 (by kernel_rfl) (by decide) (by kernel_rfl) (by kernel_rfl) (by kernel_rfl) (by kernel_rfl) (Cls.mk (Below.refl _ _).drew) ?_
      simp only [List.take_succ_cons, List.take_zero, List.drop_succ_cons, List.drop_zero]
      repeat (go_big_quiet_step (rfl))
      refine wpQuiet_nil ?_
      intro w2 hcl
      have hb2 := hcl.out
      have HB2 := hide (HB1.out.trans (hb2.mono HB1.out.size))
      have G2 := hide (below_blk hb2 G1.out l1)
      clear hcl hb2 hx0 kn k1 f1 l1
      have k1 := cell_blk G2.out 1
      have f1 := froz_blk G2.out 1
      have l1 := lt_blk G2.out
      have HB3 := hide (below_same HB2.out G2.out)
      go_wp2_with fail
      go_roundw
      case rel => exact ⟨k + 1, by omega, by rw [HZ.out], by simp, ⟨HNX.out.1, HNX.out.2, HB3.out⟩⟩
      case measure => simp [intOf]; omega
    · obtain rfl : k = n := by omega
      have hki : ((k : Int) < (k : Int)) = False := eq_false (by omega)
      have HB0 := hide hin.out.2.2
      rw [show l.take k = l from List.take_of_length_le (by rw [← HN.out]; omega)]
      generalize T (prodL 1 l) = Z at *
      have G1 := hide (below_blk HB0.out HG.out (lt_blk HG.out))
      obtain ⟨TSS, hTS⟩ : ∃ U, U = T s := ⟨_, rfl⟩
      have k0 := cell_blk G1.out 0
      have k1 := cell_blk G1.out 1
      rw [← hTS] at HFI k0
      have f1 := froz_blk G1.out 1
      have f0 := froz_blk G1.out 0
      have l1 := lt_blk G1.out
      clear hlt hin hTS
      go_wp2_with fail
      refine (HFI.out _ (Nat.le_trans hB HB0.out.size) (HT.out.on HB0.out hB)).mono ?_
      rintro e w1 ⟨rfl, hb1⟩
      have HB1 := hide (HB0.out.trans (hb1.mono HB0.out.size))
      have G2 := hide (below_blk hb1 G1.out l1)
      clear hb1 k0 k1 f0 f1 l1
      have k0 := cell_blk G2.out 0
      have k1 := cell_blk G2.out 1
      have f1 := froz_blk G2.out 1
      have f0 := froz_blk G2.out 0
      have l1 := lt_blk G2.out
      go_wp2_with fail
      refine bodyPost_ret (results_none rfl _ _ _) rfl ?_
      refine ⟨⟨_, rfl⟩, ((only_of HB1.out).set 0 _).set 1 _, ?_⟩
      rw [HTR.out]
      exact sum_put G2.out _
end Go.Proofs.YtpmnhipffkhcpaaGreatDoor
namespace Go.KI
open Go
theorem numeral_lead (l : List UInt8) : numeral l ↔ l ≠ [] ∧ l.length ≤ (lead l).length ∧ ¬ (1 < l.length ∧ l.head? = some 48) := by
  constructor
  · rintro ⟨h1, h2, h3⟩
    refine ⟨h1, by rw [lead_all (List.all_eq_true.1 h2)]; exact Nat.le_refl _, fun h => ?_⟩
    rw [h3 h.2] at h
    exact absurd h.1 (by decide)
  · rintro ⟨h1, h2, h3⟩
    refine ⟨h1, List.all_eq_true.2 (lead_full h2), fun hh => ?_⟩
    have h4 : ¬ 1 < l.length := fun e => h3 ⟨e, hh⟩
    cases l with
    | nil => exact absurd rfl h1
    | cons a b =>
      simp only [List.length_cons] at h4
      have : b = [] := List.eq_nil_of_length_eq_zero (by omega)
      rw [this]
      injection hh with hh
      rw [hh]
end Go.KI
namespace Go.Proofs.YtpmnhipffkhcpaaGreatDoor
open Go.RowKit Go.KP Go.KI Go.Shelf
attribute [local go_sem] Oper.semAt_some

theorem r2gcd_any (a b : Nat) (ha : a < 5000000000000000000) (hb : b < 5000000000000000000) (w : World) :
    Calls Tryz.prog 337 #[.int .i64 a, .int .i64 b] w (Ret w (.int .i64 (Nat.gcd a b : Nat))) := by
  obtain ⟨G, hG⟩ : ∃ G, G = Nat.gcd a b := ⟨_, rfl⟩
  rw [← hG]
  have HG := hide hG
  clear hG
  go_enter Tryz.func337, Tryz.ntmps337
  go_wp2_with fail
  go_loopw [0, 1] (fun x y wr => ∃ p q : Nat, x = .int .i64 p ∧ y = .int .i64 q ∧ p < 5000000000000000000 ∧ q < 5000000000000000000 ∧ Hid (Nat.gcd p q = G ∧ Below w.heap.size w wr)) (fun _ y _ => (intOf y).toNat)
  case atStart => exact ⟨a, b, rfl, rfl, ha, hb, HG.out.symm, Below.refl _ _⟩
  case round =>
    obtain ⟨p, q, rfl, rfl, hp, hq, hin⟩ := hrel
    have IN := hide hin.out
    clear hin
    by_cases hq0 : q = 0
    · subst hq0
      have hqq : (((0 : Nat) : Int) != 0) = false := rfl
      have hG : p = G := by have := IN.out.1; simpa using this
      have GG := hide hG
      clear hq hG
      go_wp2_with fail
      go_ret
      rw [← GG.out]
      exact ⟨rfl, IN.out.2⟩
    · have hqq : ((q : Int) != 0) = true := by
        have : (q : Int) ≠ 0 := by omega
        simpa using this
      have hqz : ((q : Int) == 0) = false := by
        have : (q : Int) ≠ 0 := by omega
        simpa using this
      obtain ⟨r, hr⟩ : ∃ r, r = p % q := ⟨_, rfl⟩
      have hri : (p : Int) % (q : Int) = (r : Int) := by rw [hr, Int.natCast_emod]
      have hrl : r < q := by rw [hr]; exact Nat.mod_lt _ (by omega)
      have HR := hide hr; have HRI := hide hri
      clear hq0 hr
      go_wp2_with fail
      go_quiet (fail)
      have HB := hide (below_drewN IN.out.2 nq)
      clear hqq hqz
      go_wp2_with fail
      go_roundw
      case rel =>
        refine ⟨q, r, rfl, by first | rfl | rw [HRI.out], by omega, by omega, ?_, HB.out⟩
        rw [HR.out, ← IN.out.1, Nat.gcd_comm q, ← Nat.gcd_rec, Nat.gcd_comm]
      case measure => simp [intOf]; omega
theorem r2digits_any (s : ByteArray) (hs : s.size ≤ 9223372036854775807) (b : Bool) (hb : b = decide (numeral s.data.toList)) (w : World) :
    Calls Tryz.prog 336 #[.string s] w (Ret w (.bool b)) := by
  have hnl := numeral_lead s.data.toList
  rw [bytes_len] at hnl
  by_cases h0 : s.size = 0
  · have z : ((s.size : Int) == 0) = true := by rw [h0]; rfl
    have hbf : b = false := by
      rw [hb, decide_eq_false_iff_not, hnl]
      exact fun h => h.1 (List.eq_nil_of_length_eq_zero (by rw [bytes_len]; exact h0))
    subst hbf
    clear hb hnl h0
    go_enter Tryz.func336, Tryz.ntmps336
    go_wp2_with fail
    go_ret
    exact ⟨rfl, Below.refl _ _⟩
  have z : ((s.size : Int) == 0) = false := by
    simp only [beq_eq_false_iff_ne, ne_eq]
    omega
  have hp : 0 < s.size := by omega
  have hne : s.data.toList ≠ [] := fun e => h0 (by rw [← bytes_len, e]; rfl)
  have hh : s.data.toList.head? = some (s[0]'hp) := by
    have h3 : s.data.toList[0]? = some s.data[0] := by simp
    rw [List.head?_eq_getElem?]
    exact h3
  by_cases hbad : 1 < s.size ∧ s.data.toList.head? = some 48
  · have y1 : (1 : Int) < (s.size : Int) := by omega
    have y2 : (((s[0]'hp).toNat : Int) == 48) = true := by
      have := hbad.2
      rw [hh] at this
      injection this with this
      rw [this]
      rfl
    have hbf : b = false := by rw [hb, decide_eq_false_iff_not, hnl]; exact fun h => h.2.2 hbad
    subst hbf
    clear hb hnl h0 hne hh hbad
    go_enter Tryz.func336, Tryz.ntmps336
    go_wp2_with fail
    go_ret
    exact ⟨rfl, Below.refl _ _⟩
  have hway : ((1 : Int) < (s.size : Int)) = False ∨ ((1 : Int) < (s.size : Int) ∧ (((s[0]'hp).toNat : Int) == 48) = false) := by
    by_cases h1 : 1 < s.size
    · refine .inr ⟨by omega, ?_⟩
      have h48 : s[0]'hp ≠ 48 := fun e => hbad ⟨h1, by rw [hh, e]⟩
      have : (s[0]'hp).toNat ≠ 48 := fun e => h48 (UInt8.toNat_inj.1 e)
      simp only [beq_eq_false_iff_ne, ne_eq]
      omega
    · exact .inl (eq_false (by omega))
  obtain ⟨L, hL⟩ : ∃ L, L = (lead s.data.toList).length := ⟨_, rfl⟩
  have hLs : L ≤ s.size := by rw [hL, ← bytes_len]; exact lead_le _
  have HB := hide (show b = decide (s.size ≤ L) by
    rw [hb]
    refine decide_eq_decide.2 ?_
    rw [hnl, ← hL]
    exact ⟨fun h => h.2.1, fun h => ⟨hne, h, hbad⟩⟩)
  have HLE := hide hL
  clear hL hb hnl h0 hne hh hbad
  rcases hway with y1 | ⟨y1, y2⟩
  all_goals
    go_enter Tryz.func336, Tryz.ntmps336
    go_wp2_with fail
    clear y1
    go_loopw [3] (fun i wr => ∃ k : Nat, k ≤ L ∧ i = .int .i64 k ∧ wr = w) (fun i _ => s.size - (intOf i).toNat)
    case atStart => exact ⟨0, by omega, rfl, rfl⟩
    case round =>
      obtain ⟨k, hkL, rfl, rfl⟩ := hrel
      by_cases hkl : k < L
      · have hlt : k < s.size := by omega
        have hki : (k : Int) < (s.size : Int) := by omega
        have hk0 : (0 : Int) ≤ (k : Int) := by omega
        obtain ⟨c, hc, hcd⟩ := lead_at (l := s.data.toList) (k := k) (by rw [← HLE.out]; exact hkl)
        have hat : s.data.toList[k]? = some (s[k]'hlt) := by
          have h1 : s.data.toList[k]? = some s.data[k] := by simp
          exact h1
        obtain ⟨y, hyv⟩ : ∃ y : Nat, y = (s[k]'hlt).toNat := ⟨_, rfl⟩
        have hyv2 : (s[k]'hlt).toNat = y := hyv.symm
        have hdg : 48 ≤ y ∧ y ≤ 57 := by
          rw [hat] at hc
          injection hc with hc
          rw [hyv, hc]
          exact isDg_iff.1 hcd
        have v0 : ((y : Int) < 48) = False := eq_false (by omega)
        have v1 : ((57 : Int) < (y : Int)) = False := eq_false (by omega)
        clear hat hyv hdg hc hcd
        go_wp2_with fail
        go_roundw
        case rel => exact ⟨k + 1, by omega, by go_num, trivial⟩
        case measure => simp [intOf]; omega
      · have hkL2 : k = L := by omega
        have hk0 : (0 : Int) ≤ (k : Int) := by omega
        by_cases hfin : k < s.size
        · have hki : (k : Int) < (s.size : Int) := by omega
          obtain ⟨c, hc⟩ : ∃ c, s[k]'hfin = c := ⟨_, rfl⟩
          have hat : s.data.toList[k]? = some c := by
            have h3 : s.data.toList[k]? = some s.data[k] := by simp
            rw [h3]
            exact congrArg some hc
          have hat2 : s.data.toList[(lead s.data.toList).length]? = some c := by rw [← HLE.out, ← hkL2]; exact hat
          have h4 := lead_end hat2
          have h5 : ¬ (48 ≤ c.toNat ∧ c.toNat ≤ 57) := fun h => by
            have h6 := isDg_iff.2 h
            rw [h4] at h6
            cases h6
          obtain ⟨y, hyv⟩ : ∃ y : Nat, y = c.toNat := ⟨_, rfl⟩
          have hyv2 : (s[k]'hfin).toNat = y := by rw [hc, hyv]
          have HBF := hide (show b = false by rw [HB.out, decide_eq_false_iff_not]; omega)
          rw [← hyv] at h5
          clear hyv hc hat hat2 h4 hkL2
          rcases (show y < 48 ∨ (¬ y < 48 ∧ 57 < y) by omega) with v0 | ⟨v0, v1⟩
          · have v0i : (y : Int) < 48 := by omega
            clear v0
            go_wp2_with fail
            go_ret
            rw [HBF.out]
            exact ⟨rfl, Below.refl _ _⟩
          · have v0i : ((y : Int) < 48) = False := eq_false (by omega)
            have v1i : (57 : Int) < (y : Int) := by omega
            clear v0 v1
            go_wp2_with fail
            go_ret
            rw [HBF.out]
            exact ⟨rfl, Below.refl _ _⟩
        · have hki : ((k : Int) < (s.size : Int)) = False := eq_false (by omega)
          have HBF := hide (show b = true by rw [HB.out, decide_eq_true_iff]; omega)
          clear hkL2
          go_wp2_with fail
          go_ret
          rw [HBF.out]
          exact ⟨rfl, Below.refl _ _⟩
end Go.Proofs.YtpmnhipffkhcpaaGreatDoor
