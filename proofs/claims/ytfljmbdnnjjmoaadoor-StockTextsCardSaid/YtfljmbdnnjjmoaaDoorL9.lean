/-
  The law StockTakes: the walk.
-/
import Derived.Test.YtfljmbdnnjjmoaaDoorR6
import Derived.Test.YtfljmbdnnjjmoaaDoorS14
import Derived.Test.YtfljmbdnnjjmoaaDoorCall
namespace Go.Proofs.YtfljmbdnnjjmoaaDoor
open Go.RowKit Go.KP Go.Shelf

def badSec (l : List Br) (a b x : Int) : Bool := decide (x < 0) || (decide ((l.length : Int) ≤ x) || !ofSec l a b x.toNat)
set_option maxRecDepth 100000 in
set_option maxHeartbeats 1000000 in
theorem sec1_any (x : Int) (l : List Br) (ga : Option Addr) (gc i : Nat) (Bl Bi B : Nat) (w : World) (hbl : w.heap[Bl]? = some (.cells #[.slice ga l.length gc] 47 (0, 0))) (hbi : w.heap[Bi]? = some (.cells #[.int .i64 i] 3 (0, 0)))
    (hg : BarsAt B w (.slice ga l.length gc) l) (hB : B ≤ w.heap.size) (hi : i < l.length) :
    Calls Tryd.prog 38 #[.int .i64 x, .pointer (some ⟨Bl, 0, none⟩), .pointer (some ⟨Bi, 0, none⟩)] w (Ret w (.bool (badSec l (bAt l i).wd (bAt l i).dp x))) := by
  have c1 := cell_blk hbl 0
  have c2 := cell_blk hbi 0
  have l1 := lt_blk hbl
  have l2 := lt_blk hbi
  simp at c1 c2
  clear hbl hbi
  by_cases hneg : x < 0
  · have hfin : badSec l (bAt l i).wd (bAt l i).dp x = true := by simp [badSec, hneg]
    have HF := hide hfin
    clear hfin
    go_enter Tryd.func38, Tryd.ntmps38
    go_wp2_with fail
    go_quiet (fail)
    go_wp2
    go_ret
    exact ⟨by rw [HF.out]; rfl, below_drewN (Below.refl _ _) _⟩
  · have hnd : decide (x < 0) = false := by simpa using hneg
    by_cases hge : (l.length : Int) ≤ x
    · have hfin : badSec l (bAt l i).wd (bAt l i).dp x = true := by simp [badSec, hge]
      have HF := hide hfin
      clear hfin
      go_enter Tryd.func38, Tryd.ntmps38
      go_wp2_with fail
      go_quiet (fail)
      go_wp2
      go_ret
      exact ⟨by rw [HF.out]; rfl, below_drewN (Below.refl _ _) _⟩
    · have hgd : decide ((l.length : Int) ≤ x) = false := by simpa using hge
      obtain ⟨j, rfl⟩ : ∃ j : Nat, (j : Int) = x := ⟨x.toNat, Int.toNat_of_nonneg (by omega)⟩
      have hj : j < l.length := by omega
      rcases hg.rows with ⟨_, _, _, h0⟩ | ⟨b, o, cap, hv, hb, hc⟩
      · rw [h0] at hj
        simp at hj
      · cases hv
        obtain ⟨x1, x2, _, _, _, _⟩ := hc j hj
        obtain ⟨y1, y2, _, _, _, _⟩ := hc i hi
        have hbb : b < w.heap.size := by omega
        have e3 : (j : Int) < (l.length : Int) := by omega
        have e4 : (i : Int) < (l.length : Int) := by omega
        have hbs : badSec l (bAt l i).wd (bAt l i).dp j = (!(decide ((bAt l j).wd = (bAt l i).wd) && decide ((bAt l j).dp = (bAt l i).dp))) := by
          unfold badSec ofSec
          rw [hnd, hgd, Int.toNat_natCast]
          rfl
        obtain ⟨f1, hf1⟩ : ∃ f, f = (bAt l j).wd := ⟨_, rfl⟩
        obtain ⟨f2, hf2⟩ : ∃ f, f = (bAt l j).dp := ⟨_, rfl⟩
        obtain ⟨g1, hg1⟩ : ∃ f, f = (bAt l i).wd := ⟨_, rfl⟩
        obtain ⟨g2, hg2⟩ : ∃ f, f = (bAt l i).dp := ⟨_, rfl⟩
        rw [← hf1, ← hf2, ← hg1, ← hg2] at hbs
        rw [← hf1] at x1
        rw [← hf2] at x2
        rw [← hg1] at y1
        rw [← hg2] at y2
        rw [← hg1, ← hg2]
        have HBS := hide hbs
        have hjn : decide (l.length ≤ j) = false := by simp; omega
        clear hf1 hf2 hg1 hg2 hbs hg hc
        by_cases h1 : f1 = g1
        · have h1b : (f1 != g1) = false := by simpa using h1
          by_cases h2 : f2 = g2
          · have h2b : (f2 != g2) = false := by simpa using h2
            have HF := hide (show badSec l g1 g2 j = false by rw [HBS.out]; simp [h1, h2])
            clear h1 h2
            go_enter Tryd.func38, Tryd.ntmps38
            go_wp2_with fail
            go_quiet (fail)
            go_wp2
            go_ret
            exact ⟨by rw [HF.out]; rfl, below_drewN (Below.refl _ _) _⟩
          · have h2b : (f2 != g2) = true := by simpa using h2
            have HF := hide (show badSec l g1 g2 j = true by rw [HBS.out]; simp [h2])
            clear h1 h2
            go_enter Tryd.func38, Tryd.ntmps38
            go_wp2_with fail
            go_quiet (fail)
            go_wp2
            go_ret
            exact ⟨by rw [HF.out]; rfl, below_drewN (Below.refl _ _) _⟩
        · have h1b : (f1 != g1) = true := by simpa using h1
          have HF := hide (show badSec l g1 g2 j = true by rw [HBS.out]; simp [h1])
          clear h1
          go_enter Tryd.func38, Tryd.ntmps38
          go_wp2_with fail
          go_quiet (fail)
          go_wp2
          go_ret
          exact ⟨by rw [HF.out]; rfl, below_drewN (Below.refl _ _) _⟩

theorem sec1_answers (l : List Br) (ga : Option Addr) (gc i : Nat) (Bl Bi B : Nat) (w : World) (hbl : w.heap[Bl]? = some (.cells #[.slice ga l.length gc] 47 (0, 0))) (hbi : w.heap[Bi]? = some (.cells #[.int .i64 i] 3 (0, 0)))
    (hg : BarsAt B w (.slice ga l.length gc) l) (hB : B ≤ w.heap.size) (hi : i < l.length) :
    Answers 38 #[.pointer (some ⟨Bl, 0, none⟩), .pointer (some ⟨Bi, 0, none⟩)] (Value.int .i64) (badSec l (bAt l i).wd (bAt l i).dp) w :=
  ⟨enters_of Tryd.func38 (by kernel_rfl) rfl, fun x W hW => sec1_any x l ga gc i Bl Bi B W (below_blk hW hbl (lt_blk hbl)) (below_blk hW hbi (lt_blk hbi)) (hg.below hW hB) (by have := hW.size; omega) hi⟩

set_option maxRecDepth 100000 in
set_option maxHeartbeats 2000000 in
theorem law9_any (v : Value) (l : List Br) (wh : Int) (B : Nat) (w : World) (hg : BarsAt B w v l) (hB : B ≤ w.heap.size) (hT : P10 B w) (hl : l.length ≤ 9223372036854775807) (hw0 : 0 ≤ wh) (hw1 : wh ≤ 255) :
    Calls Tryd.prog 9 #[v, .int .u8 wh] w (Ret w (.bool true)) := by
  obtain ⟨ga, gc, hgv⟩ := SlAt.form hg.1
  subst hgv
  have HG := hide hg; have HT := hide hT
  clear hg hT
  have hconv : IntKind.i64.wrap wh = wh := IntWalk.i64_in _ (by omega)
  go_enter Tryd.func9, Tryd.ntmps9
  go_wp2_with fail
  obtain ⟨m1, m2, m3⟩ := heap1 w (.cells #[.slice ga l.length gc] 47)
  obtain ⟨w0, hw0⟩ : ∃ w0, w.alloc (.cells #[.slice ga l.length gc] 47) = w0 := ⟨_, rfl⟩
  rw [hw0] at m1 m2 m3 ⊢
  clear hw0
  have HB0 := hide m3; have M0 := hide m1
  have c0 := cell_blk m1 0
  have l0 := lt_blk m1
  simp at c0
  clear m1 m3
  have hsz0 : w.heap.size ≤ w0.heap.size := by omega
  refine (great_any (.slice ga l.length gc) l B w0 (HG.out.below HB0.out hB) (by omega)).mono ?_
  rintro e w1 ⟨rfl, rfl⟩
  have HA := hide (awake_any B w0 (HT.out.on (HB0.out.mono hB)) (by omega))
  cases hgr : greatB l with
  | true =>
    clear hgr
    go_wp2_with fail
    refine HA.out.mono ?_
    rintro e w2 ⟨rfl, hb2⟩
    have HB2 := hide (HB0.out.trans (hb2.mono hsz0))
    clear hb2 HA
    go_wp2
    go_ret
    exact ⟨rfl, HB2.out⟩
  | false =>
    have hgf := great_false hgr
    have hl66 : l.length ≤ 66 := by have := hgf.1; omega
    have HGF := hide hgf.2
    clear hgr hgf
    obtain ⟨n, hn⟩ : ∃ n, n = l.length := ⟨_, rfl⟩
    by_cases hn0 : l.length = 0
    · have hbe : ((l.length : Int) == 0) = true := beq_iff_eq.2 (by omega)
      clear hn0 hn
      go_wp2_with fail
      refine HA.out.mono ?_
      rintro e w2 ⟨rfl, hb2⟩
      have HB2 := hide (HB0.out.trans (hb2.mono hsz0))
      clear hb2 HA
      go_wp2
      go_ret
      exact ⟨rfl, HB2.out⟩
    · have hbe : ((l.length : Int) == 0) = false := beq_eq_false_iff_ne.2 (by omega)
      have hnp : 1 ≤ (l.length : Int) := by omega
      clear hn hn0 HA
      go_wp2_with fail
      have HC := hide (checks_any (.slice ga l.length gc) l B w0 (HG.out.below HB0.out hB) (by omega))
      refine HC.out.mono ?_
      rintro e w1 ⟨rfl, hb1⟩
      have hs1 := hb1.size
      have HB1 := hide (HB0.out.trans (hb1.mono hsz0))
      have M1 := hide (below_blk hb1 M0.out l0)
      have c1 := cell_blk M1.out 0
      have l1 := lt_blk M1.out
      simp at c1
      clear hb1 HC c0 M0
      by_cases hz : chks l = 0
      · rw [hz]
        have HZ := hide hz
        clear hz
        go_wp2_with fail
        obtain ⟨i, hi⟩ : ∃ i : Nat, (i : Int) = wh % (l.length : Int) := ⟨(wh % (l.length : Int)).toNat, Int.toNat_of_nonneg (Int.emod_nonneg _ (by omega))⟩
        have hin : i < l.length := by have := Int.emod_lt_of_pos wh (show (0 : Int) < l.length by omega); omega
        rw [← hi]
        obtain ⟨g1, g2, g3⟩ := heap1 w1 (.cells #[.int .i64 i] 3)
        obtain ⟨w2, hw2⟩ : ∃ w2, w1.alloc (.cells #[.int .i64 i] 3) = w2 := ⟨_, rfl⟩
        rw [hw2] at g1 g2 g3 ⊢
        have hsz1 : w.heap.size ≤ w1.heap.size := by omega
        have HB2 := hide (HB1.out.trans (g3.mono hsz1))
        have M2 := hide (below_blk g3 M1.out l1); have G1 := hide g1
        have hsz2 : w.heap.size ≤ w2.heap.size := by omega
        have HTK := hide (take_any (.slice ga l.length gc) l i B w2 (HG.out.below HB2.out hB) (by omega) (by omega))
        clear hi hw2 g1 g3 c1 M1 hconv
        refine HTK.out.mono ?_
        rintro e w3 ⟨r, rfl, hb3, m, rfl, hm3⟩
        have hs3 := hb3.size
        have HB3 := hide (HB2.out.trans (hb3.mono hsz2))
        have hsz3 : w.heap.size ≤ w3.heap.size := by omega
        have M3 := hide (below_blk hb3 M2.out (by omega)); have G3 := hide (below_blk hb3 G1.out (by omega))
        have c3 := cell_blk M3.out 0
        have c4 := cell_blk G3.out 0
        have l3 := lt_blk M3.out
        have l4 := lt_blk G3.out
        simp at c3 c4
        have HM3 := hide hm3
        have HGL := hide (HG.out.below HB3.out hB)
        have hte : takeErr l i = if (bAt l i).ct = 0 then 22 else 0 := by
          unfold takeErr
          rw [if_pos HZ.out, if_neg (by omega), Int.toNat_natCast]
        have HTE := hide hte
        clear hb3 hm3 HTK M2 G1 hte
        rcases HGL.out.rows with ⟨_, _, _, h0⟩ | ⟨b, o, cap, hv, hb, hc⟩
        · rw [h0] at hin
          simp at hin
        cases hv
        obtain ⟨x1, x2, x3, x4, x5, x6⟩ := hc i hin
        have hcb := (chk_head (b := bAt l i) ((chks_zero.1 HZ.out).2 i hin)).2.2.2.1
        obtain ⟨ct, hct⟩ : ∃ ct, ct = (bAt l i).ct := ⟨_, rfl⟩
        rw [← hct] at x4 hcb
        have e3 : (i : Int) < (l.length : Int) := by omega
        have hbb : b < w3.heap.size := by omega
        obtain ⟨hcb1, hcb2⟩ := hcb
        have HCT := hide hct
        by_cases hcz : ct = 0
        · have hcz2 : (ct == 0) = true := by simpa using hcz
          have h22 : takeErr l i = 22 := by rw [HTE.out, ← HCT.out, if_pos hcz]
          have hnil : takeL l i = [] := by unfold takeL; rw [h22]; rfl
          rw [h22]
          have hm := HM3.out
          rw [hnil] at hm
          obtain ⟨ma, mc, hmv⟩ := SlAt.form hm.1
          subst hmv
          have HA := hide (awake_any B w3 (HT.out.on (HB3.out.mono hB)) (by omega))
          clear hcz h22 hnil hm hct hc x1 x2 x3 x5 x6
          go_wp2_with fail
          refine HA.out.mono ?_
          rintro e w4 ⟨rfl, hb4⟩
          have HB4 := hide (HB3.out.trans (hb4.mono hsz3))
          clear hb4 HA
          go_wp2
          go_ret
          exact ⟨rfl, HB4.out⟩
        · have hcz2 : (ct == 0) = false := by simpa using hcz
          have h0 : takeErr l i = 0 := by rw [HTE.out, ← HCT.out, if_neg hcz]
          have hL : takeL l i = l.set i ((bAt l i).count (ct - 1)) := by unfold takeL; rw [if_pos h0, Int.toNat_natCast, ← HCT.out]
          rw [h0]
          have hm := HM3.out
          rw [hL] at hm
          obtain ⟨L2, hL2⟩ : ∃ L2, L2 = l.set i ((bAt l i).count (ct - 1)) := ⟨_, rfl⟩
          rw [← hL2] at hm
          have hlen2 : L2.length = l.length := by rw [hL2]; simp
          have hat2 : bAt L2 i = (bAt l i).count (ct - 1) := by rw [hL2, bAt_set l i i _ hin, if_pos rfl]
          obtain ⟨ma, mc, hmv⟩ := SlAt.form hm.1
          subst hmv
          rw [hlen2] at hm ⊢
          rcases hm.rows with ⟨_, _, _, h0⟩ | ⟨b2, o2, cap2, hv, hb2, hc2⟩
          · rw [h0] at hlen2
            simp at hlen2
            omega
          simp only [Value.slice.injEq] at hv
          obtain ⟨rfl, t1, rfl⟩ := hv
          obtain ⟨_, _, _, y4, _, _⟩ := hc2 i (by omega)
          rw [hat2] at y4
          have hsub : IntKind.i64.wrap (ct - 1) = ct - 1 := IntWalk.i64_in _ (by omega)
          have hln : ((l.length : Int) != (l.length : Int)) = false := by simp
          have hcc : ((ct - 1) != (ct - 1)) = false := by simp
          have y4' : w3.cell? ⟨b2, o2 + i * 6 + 3, none⟩ = some (.int .i64 (ct - 1)) := y4
          have HL2 := hide hL2; have HLEN := hide hlen2; have HM := hide hm
          clear hcz h0 hL hm hct hc hc2 x1 x2 x3 x5 x6 y4 t1 hL2 hlen2 hat2 HM3
          go_wp2_with fail
          go_quiet (fail)
          go_wp2_with fail
          have hCB := cloneBars_any (.slice (some ⟨b2, o2, none⟩) l.length mc) L2 w3.heap.size (w3.drewN nq) (HM.out.below (below_drewN (Below.refl w3.heap.size w3) nq) (Nat.le_refl _)) (Nat.le_refl _) (by rw [HLEN.out]; omega)
          have HCB := hide hCB
          clear hCB hsub hcc hcz2 y4'
          refine HCB.out.mono ?_
          rintro e w4 ⟨v4, rfl, hown4, hb4⟩
          have hs4 : w3.heap.size ≤ w4.heap.size := hb4.size
          have hb34 := (below_drewN (Below.refl w3.heap.size w3) nq).trans hb4
          have HB4 := hide (HB3.out.trans (hb34.mono hsz3))
          have M4 := hide (below_blk hb34 M3.out l3); have G4 := hide (below_blk hb34 G3.out l4)
          have c5 := cell_blk M4.out 0
          have c6 := cell_blk G4.out 0
          have l5 := lt_blk M4.out
          have l6 := lt_blk G4.out
          simp at c5 c6
          obtain ⟨g, c7, hv7, hg, hlg, hall⟩ := bars_own hown4 (by rw [HLEN.out]; omega)
          rw [HLEN.out] at hv7
          subst hv7
          obtain ⟨hcell, hfz⟩ := hall i (by rw [HLEN.out]; exact hin)
          have hct2 : (bAt L2 i).ct = ct - 1 := by rw [HL2.out, bAt_set l i i _ hin, if_pos rfl]; rfl
          rw [hct2] at hcell
          have HO4 := hide hown4; have HB34 := hide hb34
          clear hb4 hb34 hown4 hall hct2 HCB c3 c4
          have hg' : w3.heap.size ≤ g := hg
          go_wp2_with fail
          have h2 := HO4.out
          rw [← HLEN.out] at h2
          have hset := bars_set (B := w3.heap.size) h2 (HM.out.below HB34.out (Nat.le_refl _)) (show w3.heap.size ≤ (w3.drewN nq).heap.size from Nat.le_refl _) (by rw [HLEN.out]; exact hin) ct
          rw [HLEN.out] at hset
          have hb45 : Below w3.heap.size w4 (w4.setCell ⟨g, i * 6 + 3, none⟩ (.int .i64 ct)) := (Below.refl _ _).setCell (p := ⟨g, i * 6 + 3, none⟩) hg' _
          have hs5 : (w4.setCell ⟨g, i * 6 + 3, none⟩ (.int .i64 ct)).heap.size = w4.heap.size := by simp [World.setCell]
          obtain ⟨w5, hw5⟩ : ∃ w5, w4.setCell ⟨g, i * 6 + 3, none⟩ (.int .i64 ct) = w5 := ⟨_, rfl⟩
          rw [hw5] at hset hb45 hs5 ⊢
          have HB5 := hide (HB4.out.trans (hb45.mono hsz3))
          have M5 := hide (below_blk hb45 M4.out l3); have G5 := hide (below_blk hb45 G4.out l4)
          have d5 := cell_blk M5.out 0
          have d6 := cell_blk G5.out 0
          have l7 := lt_blk M5.out
          have l8 := lt_blk G5.out
          simp at d5 d6
          obtain ⟨L3, hL3⟩ : ∃ L3, L3 = L2.set i ((bAt L2 i).count ct) := ⟨_, rfl⟩
          rw [← hL3] at hset
          have HL3 := hide hL3; have HSET := hide hset
          have HG5 := hide (HG.out.below HB5.out hB)
          rcases HG5.out.rows with ⟨_, _, _, h0⟩ | ⟨b', o', cap', hv, hb', hc5⟩
          · rw [h0] at hin
            simp at hin
          simp only [Value.slice.injEq] at hv
          obtain ⟨e0, t1, rfl⟩ := hv
          cases e0
          obtain ⟨x1, x2, _, _, _, _⟩ := hc5 i hin
          obtain ⟨sa, hsa⟩ : ∃ f, f = (bAt l i).wd := ⟨_, rfl⟩
          obtain ⟨sb, hsb⟩ : ∃ f, f = (bAt l i).dp := ⟨_, rfl⟩
          rw [← hsa] at x1
          rw [← hsb] at x2
          have HSA := hide hsa; have HSB := hide hsb
          have hbb5 : b < w5.heap.size := by omega
          clear hset hb45 hw5 hL3 h2 hc5 t1 hsa hsb c5 c6 M4 G4 hcell hfz
          refine region_call 11 _ (by kernel_rfl) (by decide) rfl (by kernel_rfl) (by kernel_rfl) (by kernel_rfl) (by kernel_rfl) (by kernel_rfl) (by kernel_rfl) (C := fun w' => ∃ m, w' = w5.drewN m) ⟨1, rfl⟩ ?_
          simp only [List.take_succ_cons, List.take_zero, List.drop_succ_cons, List.drop_zero]
          repeat (quiet_step (fail))
          refine wpQuiet_nil ?_
          intro _ hw'
          obtain ⟨nq2, rfl⟩ := hw'
          go_wp2_with fail
          have hB5' : B ≤ w5.heap.size := by omega
          have HSC := hide (sec_any (.slice (some ⟨b, o, none⟩) l.length gc) l sa sb B (w5.drewN nq2) (HG.out.below (below_drewN HB5.out nq2) hB) hB5' (by omega))
          refine HSC.out.mono ?_
          rintro e w6 ⟨r6, rfl, hb6, ho6⟩
          have hs6 : w5.heap.size ≤ w6.heap.size := hb6.size
          have hb56 := (below_drewN (Below.refl w5.heap.size w5) nq2).trans hb6
          obtain ⟨S, hS⟩ : ∃ S, S = secTo l sa sb l.length := ⟨_, rfl⟩
          rw [← hS] at ho6
          have hSi : (i : Int) ∈ S := by
            rw [hS]
            exact mem_secTo.2 ⟨i, hin, by rw [HSA.out, HSB.out]; simp [ofSec], rfl⟩
          have hSl : S.length ≤ l.length := by rw [hS]; exact secTo_len _ _ _ _
          have hSpos : 0 < S.length := List.length_pos_of_mem hSi
          obtain ⟨gs, scap, hr6, hNew⟩ := NewInts.of_owns ho6 hSpos
          subst hr6
          have HS := hide hS; have HSI := hide hSi; have HNew := hide hNew; have HB56 := hide hb56
          clear HSC hb6 ho6 hS hSi hNew hb56 d5 d6 x1 x2
          go_wp2_with fail
          refine ⟨fun w'' => ∃ m, w'' = w6.drewN m, ⟨0, rfl⟩, ?_⟩
          repeat (quiet_step (fail))
          refine wpQuiet_nil ?_
          intro _ hw'
          obtain ⟨nq3, rfl⟩ := hw'
          obtain ⟨w7, hw7⟩ : ∃ w7, w7 = w6.drewN nq3 := ⟨_, rfl⟩
          have hs7 : w7.heap.size = w6.heap.size := by rw [hw7]; rfl
          have hb67 : Below w6.heap.size w6 w7 := by rw [hw7]; exact below_drewN (Below.refl _ _) nq3
          have hb57 := HB56.out.trans (hb67.mono hs6)
          rw [← hw7]
          have hsz5 : w.heap.size ≤ w5.heap.size := by omega
          have HB7 := hide (HB5.out.trans (hb57.mono hsz5))
          have M7 := hide (below_blk hb57 M5.out l7); have G7 := hide (below_blk hb57 G5.out l8)
          have d7 := cell_blk M7.out 0
          have d8 := cell_blk G7.out 0
          have l9 := lt_blk M7.out
          have l10 := lt_blk G7.out
          simp at d7 d8
          have hset7 := (HSET.out.mono (show w4.heap.size ≤ w5.heap.size by omega)).below hb57 (Nat.le_refl _)
          have hl3 : L3.length = l.length := by rw [HL3.out, List.length_set, HLEN.out]
          have hal : ∀ j, j < l.length → Alike (bAt L3 j) (bAt l j) := fun j hj => by
            have hi2 : i < L2.length := by rw [HLEN.out]; exact hin
            rw [HL3.out, bAt_set L2 i j _ hi2]
            by_cases hji : i = j
            · subst hji
              rw [if_pos rfl, HL2.out, bAt_set l i i _ hin, if_pos rfl]
              exact ⟨rfl, rfl, rfl, HCT.out, rfl, rfl⟩
            · rw [if_neg hji, HL2.out, bAt_set l i j _ hin, if_neg hji]
              exact ⟨rfl, rfl, rfl, rfl, rfl, rfl⟩
          have hSame := same_true (.slice (some ⟨g, 0, none⟩) l.length c7) (.slice (some ⟨b, o, none⟩) l.length gc) L3 l w7.heap.size w7 (hset7.mono (by omega)) ((HG.out.below HB7.out hB).mono (by omega)) (Nat.le_refl _) hl3 (by omega) hal (fun j hj => by have := HGF.out j hj; omega)
          have HSame := hide hSame
          have HB67 := hide hb67
          clear hb57 hset7 hl3 hal hSame hw7 hb67 HSET HL3 HL2 HLEN HM M5 G5
          go_wp2_with fail
          refine HSame.out.mono ?_
          rintro e w8 ⟨rfl, q8, rfl⟩
          obtain ⟨w8, hw8⟩ : ∃ w8, w8 = w7.drewN q8 := ⟨_, rfl⟩
          have hs8 : w8.heap.size = w7.heap.size := by rw [hw8]; rfl
          have hb78 : Below w7.heap.size w7 w8 := by rw [hw8]; exact below_drewN (Below.refl _ _) q8
          have hb68 := HB67.out.trans (hb78.mono (by omega))
          rw [← hw8]
          have hsz7 : w.heap.size ≤ w7.heap.size := by omega
          have HB8 := hide (HB7.out.trans (hb78.mono hsz7))
          have M8 := hide (below_blk hb78 M7.out l9); have G8 := hide (below_blk hb78 G7.out l10)
          have d9 := cell_blk M8.out 0
          have d10 := cell_blk G8.out 0
          have l11 := lt_blk M8.out
          have l12 := lt_blk G8.out
          simp at d9 d10
          have hcS : ∀ j, j < S.length → w8.cell? ⟨gs, 0 + j, none⟩ = some (.int .i64 (S[j]?.getD 0)) := fun j hj => (hb68.cell (p := ⟨gs, 0 + j, none⟩) HNew.out.hi).trans (HNew.out.cell j hj)
          have hco := Tryd.slices_Contains_int gs 0 S.length scap S (i : Int) w8 (Nat.le_refl _) (by omega) (fun j hj => by rw [hcS j hj]; simp [List.getD])
          rw [List.take_of_length_le (Nat.le_refl _), show S.contains (i : Int) = true by simpa using HSI.out] at hco
          have HCO := hide hco
          have hgs8 : gs < w8.heap.size := by have := HNew.out.hi; omega
          have hany : S.any (badSec l sa sb) = false := by
            rw [List.any_eq_false]
            intro x hx
            rw [HS.out] at hx
            obtain ⟨j, hj, hof, rfl⟩ := mem_secTo.1 hx
            unfold badSec
            rw [Int.toNat_natCast, hof]
            simp
            omega
          have hcn := containsInt_any 38 #[.pointer (some ⟨w.heap.size, 0, none⟩), .pointer (some ⟨w1.heap.size, 0, none⟩)] (badSec l sa sb) (some ⟨gs, 0, none⟩) S.length scap S w8 rfl (by omega) (fun j hj => ⟨gs, 0, rfl, hgs8, hcS j hj⟩) (by
            rw [HSA.out, HSB.out]
            exact sec1_answers l (some ⟨b, o, none⟩) gc i w.heap.size w1.heap.size B w8 M8.out G8.out (HG.out.below HB8.out hB) (by omega) hin)
          rw [hany] at hcn
          have HCN := hide hcn
          clear hb78 hb68 hcS hco hany hcn hw8 d7 d8 HSame M7 G7
          go_wp2_with fail
          refine HCO.out.mono ?_
          rintro e w9 ⟨rfl, hw9⟩
          have hw9 := hw9.symm
          subst hw9
          clear HCO
          go_wp2_with fail
          refine HCN.out.mono ?_
          rintro e w9 ⟨rfl, hb9⟩
          have hs9 := hb9.size
          have hsz8 : w.heap.size ≤ w8.heap.size := by omega
          have HB9 := hide (HB8.out.trans (hb9.mono hsz8))
          clear hb9 HCN d9 d10 M8 G8
          have HA := hide (awake_any B w9 (HT.out.on (HB9.out.mono hB)) (by omega))
          go_wp2_with fail
          refine HA.out.mono ?_
          rintro e w10 ⟨rfl, hb10⟩
          have HB10 := hide (HB9.out.trans (hb10.mono (show w.heap.size ≤ w9.heap.size by omega)))
          clear hb10 HA
          go_wp2
          go_ret
          exact ⟨rfl, HB10.out⟩
      · have hzz : (chks l != 0) = true := by simpa using hz
        clear hz
        have HA := hide (awake_any B w1 (HT.out.on (HB1.out.mono hB)) (by omega))
        go_wp2_with fail
        refine HA.out.mono ?_
        rintro e w2 ⟨rfl, hb2⟩
        have HB2 := hide (HB1.out.trans (hb2.mono (by omega)))
        clear hb2 HA
        go_wp2
        go_ret
        exact ⟨rfl, HB2.out⟩
end Go.Proofs.YtfljmbdnnjjmoaaDoor
