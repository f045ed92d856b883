/-
  The law StockFree: the walk.
-/
import Derived.Test.YtfljmbdnnjjmoaaDoorS12
import Derived.Test.YtfljmbdnnjjmoaaDoorSR
import Derived.Test.YtfljmbdnnjjmoaaDoorL6
import Derived.Test.YtfljmbdnnjjmoaaDoorS13
namespace Go.Proofs.YtfljmbdnnjjmoaaDoor
open Go.RowKit Go.KP Go.Shelf

/-- The closure over a part: does a gap meet it? -/
theorem meets1_any (f t a b : Int) (B : Nat) (w : World) (hb : w.heap[B]? = some (.cells #[.int .i64 f, .int .i64 t] 31 (0, 0))) :
    Calls Tryd.prog 15 #[.agg #[.int .i64 a, .int .i64 b], .pointer (some ⟨B, 0, none⟩)] w (Ret w (.bool (meets (f, t) (a, b)))) := by
  unfold meets
  have c0 := fun o => cell_blk hb o
  have hlt := lt_blk hb
  have H := hide hb
  clear hb
  go_enter Tryd.func15, Tryd.ntmps15
  go_wp2
  all_goals (go_ret; refine ⟨?_, (Below.refl _ _).alloc (Nat.le_refl _) _⟩)
  · refine ret_bool ?_
    simp [show f < b by assumption]
  · refine ret_bool ?_
    simp
    omega
theorem meets1_answers (f t : Int) (B : Nat) (w : World) (hb : w.heap[B]? = some (.cells #[.int .i64 f, .int .i64 t] 31 (0, 0))) :
    Answers 15 #[.pointer (some ⟨B, 0, none⟩)] (fun x : Int × Int => .agg #[.int .i64 x.1, .int .i64 x.2]) (fun g => meets (f, t) g) w :=
  ⟨enters_of Tryd.func15 (by kernel_rfl) rfl, fun x W hW => meets1_any f t x.1 x.2 B W (below_blk hW hb (lt_blk hb))⟩
theorem SlAt.gapsIn {B : Nat} {w : World} {a : Option Addr} {n c : Nat} {zs : List (Int × Int)} (h : SlAt B w 2 (.slice a n c) n (pcells zs)) : zs.length = n ∧ GapsIn B w a n zs := by
  obtain ⟨A, c2, e, h1, h2⟩ := SlAt.gaps h
  cases e
  exact ⟨h1, h2⟩
theorem SlAt.intsIn {B : Nat} {w : World} {a : Option Addr} {n c : Nat} {zs : List Int} (h : SlAt B w 1 (.slice a n c) n (zs.map (Value.int .i64))) : zs.length = n ∧ IntsIn B w a n zs := by
  obtain ⟨A, c2, e, h1, h2⟩ := SlAt.ints h
  cases e
  exact ⟨h1, h2⟩

set_option maxRecDepth 100000 in
set_option maxHeartbeats 2000000 in
theorem law3_any (wd dp ln ct cs : Int) (gv : Value) (gs : List (Int × Int)) (B : Nat) (w : World) (hg : SlAt B w 2 gv gs.length (pcells gs)) (hB : B ≤ w.heap.size) (hT : P10 B w) :
    Calls Tryd.prog 3 #[barV wd dp ln ct cs gv] w (Ret w (.bool true)) := by
  obtain ⟨ga, gc, hgv⟩ := SlAt.form hg
  subst hgv
  have HG := hide hg; have HT := hide hT
  clear hg hT
  go_enter Tryd.func3, Tryd.ntmps3
  go_wp2_with fail
  obtain ⟨m1, m2, m3⟩ := heap1 w (.cells #[.int .i64 wd, .int .i64 dp, .int .i64 ln, .int .i64 ct, .int .i64 cs, .slice ga gs.length gc] 24)
  obtain ⟨w0, hw0⟩ : ∃ w0, w.alloc (.cells #[.int .i64 wd, .int .i64 dp, .int .i64 ln, .int .i64 ct, .int .i64 cs, .slice ga gs.length gc] 24) = w0 := ⟨_, rfl⟩
  rw [hw0] at m1 m2 m3 ⊢
  clear hw0
  have HF := hide (fine_any wd dp ln ct cs (.slice ga gs.length gc) gs B w0 (HG.out.below m3 hB) (by omega))
  refine HF.out.mono ?_
  rintro e w1 ⟨rfl, hb1⟩
  have hs1 := hb1.size
  have m4 := below_blk hb1 m1 (by omega)
  have HB1 := hide (below_left m3 hb1 (by omega))
  clear hb1 HF m1 m3
  by_cases hc : chk wd dp ln ct cs gs = 0
  · rw [show decide (chk wd dp ln ct cs gs = 0) = true by simp [hc]]
    have hln := chk_ln hc
    have hl16 := freeFn_ok hc
    have hok := (chk_zero.1 hc).2.2
    have hpo := chk_parts hc
    have hpl := parts_len ln gs
    have hff := freeFn_any wd dp ln ct cs (.slice ga gs.length gc) gs B w1 (HG.out.below HB1.out hB) (by omega)
    rw [hc] at hff
    simp only [if_true] at hff
    have HFF := hide hff
    have hsum := parts_sum (ln := ln) (gs := gs) (by omega) hok
    have HSUM := hide hsum; have HOK := hide hok; have HPO := hide hpo
    have c4 := fun o => cell_blk m4 o
    have M4 := hide m4
    have hlt1 : w.heap.size < w1.heap.size := by omega
    clear hff hsum hok hpo hc m4
    go_wp2_with fail
    refine HFF.out.mono ?_
    rintro e w2 ⟨r, rfl, hb2, v2, rfl, ho2⟩
    have hs2 := hb2.size
    have m5 := below_blk hb2 M4.out (by omega)
    have HB2 := hide (below_left HB1.out hb2 (by omega))
    have c5 := fun o => cell_blk m5 o
    have M5 := hide m5
    have hlt2 : w.heap.size < w2.heap.size := by omega
    obtain ⟨va, vc, hv2⟩ := owns_form ho2
    subst hv2
    have HO := hide (SlAt.gapsIn (SlAt.of_owns ho2)).2
    have HG2 := hide (SlAt.gapsIn (HG.out.below HB2.out hB)).2
    have HAP := hide (parts_apart HOK.out)
    have HGA := hide (okFrom_at2 gs ln 0 HOK.out (Int.le_refl _))
    obtain ⟨P, hP⟩ : ∃ P, P = parts ln gs := ⟨_, rfl⟩
    rw [← hP] at HO HAP HPO HSUM hpl ⊢
    clear hb2 HFF M4 c4 m5 ho2 hP HOK
    obtain ⟨hln1, hln2⟩ := hln
    have hP17 : P.length ≤ 17 := by omega
    go_wp2_with fail
    go_loopw [5, 23] (fun s i wr => ∃ j : Nat, j ≤ P.length ∧ i = .int .i64 j ∧ s = .int .i64 (sumP (P.take j)) ∧ Below w2.heap.size w2 wr) (fun _ i _ => P.length - (intOf i).toNat)
    case atStart => exact ⟨0, Nat.zero_le _, rfl, by simp [sumP], Below.refl _ _⟩
    case round =>
      obtain ⟨j, hj, rfl, rfl, hb⟩ := hrel
      have hsz := hb.size
      have HB := hide hb
      clear hb
      by_cases hlt : j < P.length
      · obtain ⟨b, o, rfl, hbl, q1, q2⟩ := HO.out.below HB.out (Nat.le_refl _) j hlt
        obtain ⟨p1, p2, p3⟩ := partsOk_at P ln 0 HPO.out j hlt
        have hbo := sumP_bound P ln (fun i hi => partsOk_at P ln 0 HPO.out i hi) hln2 j hj
        have hst := sumP_take P j hlt
        have hap := HAP.out j hlt
        obtain ⟨f, hf⟩ : ∃ f, f = gF P j := ⟨_, rfl⟩
        obtain ⟨t, ht⟩ : ∃ t, t = gT P j := ⟨_, rfl⟩
        rw [← hf] at q1 p1 p2 hst hap
        rw [← ht] at q2 p2 p3 hst hap
        obtain ⟨S, hS⟩ : ∃ S, S = sumP (P.take j) := ⟨_, rfl⟩
        rw [← hS] at hbo hst ⊢
        have HF := hide hf; have HT2 := hide ht; have HST := hide hst; have HAP2 := hide hap
        have d1 : decide (f < 0) = false := by simp; omega
        have d2 : decide (t ≤ f) = false := by simp; omega
        have d3 : decide (ln < t) = false := by simp; omega
        have e3 : (j : Int) < (P.length : Int) := by omega
        have hbl2 : b < wr.heap.size := by omega
        have hsb : 0 ≤ S ∧ S ≤ 2000000 := by omega
        obtain ⟨hsb1, hsb2⟩ := hsb
        have M5w := below_blk HB.out M5.out hlt2
        have c6 := fun o => cell_blk M5w o
        have M6 := hide M5w
        have l6 : w.heap.size < wr.heap.size := by omega
        clear hf ht hst hap hS hbo c5 M5w
        have hreg : ∀ i, j = i + 1 → gT P i < f := fun i hi => by
          have := partsOk_next P ln 0 HPO.out i (by omega)
          rw [HF.out, hi]
          exact this
        have HREG := hide hreg
        clear hreg
        clear c6
        have c6 := cell_blk M6.out 2
        have c7 := cell_blk M6.out 5
        simp at c6 c7
        go_wp2_with fail
        obtain ⟨g1, g2, g3⟩ := heap1 wr (.cells #[.int .i64 f, .int .i64 t] 31)
        obtain ⟨w3, hw3⟩ : ∃ w3, wr.alloc (.cells #[.int .i64 f, .int .i64 t] 31) = w3 := ⟨_, rfl⟩
        rw [hw3] at g1 g2 g3 ⊢
        have k1 := cell_blk g1 0
        have k2 := cell_blk g1 1
        have k3 := (g3.cell (p := ⟨w.heap.size, 2, none⟩) l6).trans c6
        have k4 := (g3.cell (p := ⟨b, o + j * 2, none⟩) hbl2).trans q1
        have k5 := (g3.cell (p := ⟨w.heap.size, 5, none⟩) l6).trans c7
        have l3 := lt_blk g1
        have l7 : w.heap.size < w3.heap.size := by omega
        simp at k1 k2
        have G1 := hide g1; have G3 := hide g3; have HB3 := hide (HB.out.trans (g3.mono hsz)); have M7 := hide (below_blk g3 M6.out l6)
        clear g1 g3 hw3 c6 c7 q1 q2
        by_cases hj0 : j = 0
        · have hjd : decide ((0 : Int) < (j : Int)) = false := by simp [hj0]
          have hjd2 : decide (0 < j) = false := by simp [hj0]
          clear hj0
          go_quiet (fail)
          go_wp2_with fail
          refine (containsGap_any 15 _ (fun g => meets (f, t) g) ga gs.length gc gs (w3.drewN nq) rfl (by omega) (fun k hk => by
            obtain ⟨b, o, q1, q2, q3⟩ := HG2.out.below (below_drewN HB3.out nq) (by omega) k hk
            exact ⟨b, o, q1, by simp; omega, q3⟩) (meets1_answers f t wr.heap.size (w3.drewN nq) G1.out)).mono ?_
          rintro e w4 ⟨rfl, hb4⟩
          rw [HAP2.out]
          have hs4 : w3.heap.size ≤ w4.heap.size := hb4.size
          have g4 := below_blk hb4 (show (w3.drewN nq).heap[wr.heap.size]? = _ from G1.out) l3
          have HB4 := hide ((below_drewN HB3.out nq).trans (hb4.mono (show w2.heap.size ≤ w3.heap.size by omega)))
          have z1 := cell_blk g4 0
          have z2 := cell_blk g4 1
          have l4 := lt_blk g4
          simp at z1 z2
          clear hb4 g4
          have e5 : IntKind.i64.wrap (t - f) = t - f := IntWalk.i64_in _ (by omega)
          have e6 : IntKind.i64.wrap (S + (t - f)) = S + (t - f) := IntWalk.i64_in _ (by omega)
          go_wp2
          go_roundw
          case rel => exact ⟨j + 1, by omega, by go_num, by rw [HST.out], HB4.out⟩
          case measure => simp [intOf]; omega
        · obtain ⟨i, rfl⟩ : ∃ i, j = i + 1 := ⟨j - 1, by omega⟩
          obtain ⟨b', o', q1, q2, q3, q4⟩ := HO.out.below HB3.out (Nat.le_refl _) i (by omega)
          cases q1
          have hpr := HREG.out i rfl
          obtain ⟨pt, hpt⟩ : ∃ pt, pt = gT P i := ⟨_, rfl⟩
          rw [← hpt] at q4 hpr
          have d4 : decide (f ≤ pt) = false := by simp; omega
          have e2 : IntKind.i64.wrap (i : Int) = i := IntWalk.i64_in _ (by omega)
          have e4 : (0 : Int) < (i : Int) + 1 := by omega
          have e7 : (i : Int) < (P.length : Int) := by omega
          have hbl3 : b < w3.heap.size := by omega
          clear hpt q3 k4
          go_quiet (fail)
          go_wp2_with fail
          refine (containsGap_any 15 _ (fun g => meets (f, t) g) ga gs.length gc gs (w3.drewN nq) rfl (by omega) (fun k hk => by
            obtain ⟨b, o, q1, q2, q3⟩ := HG2.out.below (below_drewN HB3.out nq) (by omega) k hk
            exact ⟨b, o, q1, by simp; omega, q3⟩) (meets1_answers f t wr.heap.size (w3.drewN nq) G1.out)).mono ?_
          rintro e w4 ⟨rfl, hb4⟩
          rw [HAP2.out]
          have hs4 : w3.heap.size ≤ w4.heap.size := hb4.size
          have g4 := below_blk hb4 (show (w3.drewN nq).heap[wr.heap.size]? = _ from G1.out) l3
          have HB4 := hide ((below_drewN HB3.out nq).trans (hb4.mono (show w2.heap.size ≤ w3.heap.size by omega)))
          have z1 := cell_blk g4 0
          have z2 := cell_blk g4 1
          have l4 := lt_blk g4
          simp at z1 z2
          clear hb4 g4
          have e5 : IntKind.i64.wrap (t - f) = t - f := IntWalk.i64_in _ (by omega)
          have e6 : IntKind.i64.wrap (S + (t - f)) = S + (t - f) := IntWalk.i64_in _ (by omega)
          go_wp2
          go_roundw
          case rel => exact ⟨i + 1 + 1, by omega, by go_num, by rw [HST.out], HB4.out⟩
          case measure => simp [intOf]; omega
      · obtain rfl : j = P.length := by omega
        have hbo := sumP_bound P ln (fun i hi => partsOk_at P ln 0 HPO.out i hi) hln2 P.length (Nat.le_refl _)
        rw [List.take_length] at hbo ⊢
        obtain ⟨hbo1, hbo2⟩ := hbo
        have M5w := below_blk HB.out M5.out hlt2
        have c6 := fun o => cell_blk M5w o
        have M6 := hide M5w
        have l6 : w.heap.size < wr.heap.size := by omega
        clear c5 M5w
        obtain ⟨wo, hwo⟩ : ∃ wo, wo = wr := ⟨_, rfl⟩
        subst hwo
        go_wp2_with fail
        go_loopw [5, 75] (fun s i wr => ∃ j : Nat, j ≤ gs.length ∧ i = .int .i64 j ∧ s = .int .i64 (sumP P + sumP (gs.take j)) ∧ Below wo.heap.size wo wr) (fun _ i _ => gs.length - (intOf i).toNat)
        case atStart => exact ⟨0, Nat.zero_le _, rfl, by simp [sumP], Below.refl _ _⟩
        case round =>
          obtain ⟨j, hj, rfl, rfl, hb⟩ := hrel
          have hsz2 := hb.size
          have HBB := hide (HB.out.trans (hb.mono hsz))
          have HB5 := hide hb
          clear hb
          by_cases hlt : j < gs.length
          · obtain ⟨b, o, rfl, hbl, q1, q2⟩ := HG2.out.below HBB.out (by omega) j hlt
            obtain ⟨p1, p2, p3⟩ := HGA.out j hlt
            have hbo := sumP_bound gs ln HGA.out hln2 j hj
            have hst := sumP_take gs j hlt
            obtain ⟨f, hf⟩ : ∃ f, f = gF gs j := ⟨_, rfl⟩
            obtain ⟨t, ht⟩ : ∃ t, t = gT gs j := ⟨_, rfl⟩
            rw [← hf] at q1 p1 p2 hst
            rw [← ht] at q2 p2 p3 hst
            obtain ⟨S, hS⟩ : ∃ S, S = sumP (gs.take j) := ⟨_, rfl⟩
            rw [← hS] at hbo hst ⊢
            have HST := hide hst
            have e3 : (j : Int) < (gs.length : Int) := by omega
            have hbl2 : b < wr.heap.size := by omega
            have hsb : 0 ≤ S ∧ S ≤ 2000000 := by omega
            obtain ⟨hsb1, hsb2⟩ := hsb
            clear hf ht hst hS hbo c6
            have e5 : IntKind.i64.wrap (t - f) = t - f := IntWalk.i64_in _ (by omega)
            have e6 : IntKind.i64.wrap (sumP P + S + (t - f)) = sumP P + S + (t - f) := IntWalk.i64_in _ (by omega)
            go_wp2
            go_roundw
            case rel => exact ⟨j + 1, by omega, by go_num, by rw [HST.out]; exact congrArg _ (by omega), HB5.out.alloc hsz2 _⟩
            case measure => simp [intOf]; omega
          · obtain rfl : j = gs.length := by omega
            rw [List.take_length]
            have hE : sumP P + sumP gs = ln := HSUM.out
            rw [hE]
            have hbe : (ln == ln) = true := by simp
            have c7 := cell_blk (below_blk HB5.out M6.out l6) 2
            have l7 : w.heap.size < wr.heap.size := by omega
            simp at c7
            have HA := hide (awake_any B wr (HT.out.on ((HB2.out.trans (HBB.out.mono (by omega))).mono hB)) (by omega))
            have HF := hide (HB2.out.trans (HBB.out.mono (by omega)))
            clear hE c6
            go_wp2_with fail
            refine HA.out.mono ?_
            rintro e w3 ⟨rfl, hb3⟩
            have HB3 := hide (HF.out.trans (hb3.mono (by omega)))
            clear hb3 HA
            go_wp2
            go_ret
            exact ⟨rfl, HB3.out⟩
  · rw [show decide (chk wd dp ln ct cs gs = 0) = false by simp [hc]]
    clear hc m4
    go_wp2_with fail
    have HA := hide (awake_any B w1 (HT.out.on (HB1.out.mono hB)) (by omega))
    refine HA.out.mono ?_
    rintro e w3 ⟨rfl, hb3⟩
    have HB3 := hide (below_left HB1.out hb3 (by omega))
    clear hb3 HA
    go_wp2
    go_ret
    exact ⟨rfl, HB3.out⟩
end Go.Proofs.YtfljmbdnnjjmoaaDoor
