/-
  The reference's Capacity, Capacity's errors, the reference's Great: the walks.
-/
import Derived.Test.YtfljmbdnnjjmoaaDoorR2
import Derived.Test.YtfljmbdnnjjmoaaDoorS14
import Derived.Test.YtfljmbdnnjjmoaaDoorL3
namespace Go.Proofs.YtfljmbdnnjjmoaaDoor
open Go.RowKit Go.KP Go.Shelf

/-- What Capacity returns. -/
def capRes (c kerf ln : Int) (gs : List (Int × Int)) : Int := if kerfErr c kerf = 0 then capOf kerf (parts ln gs) else 0
set_option maxRecDepth 100000 in
set_option maxHeartbeats 1000000 in
theorem rcap_any (wd dp ln ct cs kerf : Int) (gv : Value) (gs : List (Int × Int)) (B : Nat) (w : World) (hg : SlAt B w 2 gv gs.length (pcells gs)) (hB : B ≤ w.heap.size) :
    Calls Tryd.prog 25 #[barV wd dp ln ct cs gv, .int .i64 kerf] w (Ret w (.tuple #[.int .i64 (capRes (chk wd dp ln ct cs gs) kerf ln gs), .int .i64 (kerfErr (chk wd dp ln ct cs gs) kerf)])) := by
  obtain ⟨ga, gc, hgv⟩ := SlAt.form hg
  subst hgv
  have HG := hide hg
  clear hg
  have HF := hide (rfree_any wd dp ln ct cs (.slice ga gs.length gc) gs B (w.alloc (.cells #[.int .i64 wd, .int .i64 dp, .int .i64 ln, .int .i64 ct, .int .i64 cs, .slice ga gs.length gc] 24)) (HG.out.below (n0 := w.heap.size) ((Below.refl _ _).alloc (Nat.le_refl _) _) hB) (by simp; omega))
  go_enter Tryd.func25, Tryd.ntmps25
  go_wp2_with fail
  refine HF.out.mono ?_
  rintro e w1 ⟨r, rfl, hb1, v1, rfl, hv1⟩
  have HB1 := hide (below_one hb1)
  clear hb1 HF
  by_cases hc : chk wd dp ln ct cs gs = 0
  · rw [if_pos hc] at hv1 ⊢
    cases hk : btw kerf 0 100 with
    | false =>
      have hke : kerfErr (chk wd dp ln ct cs gs) kerf = 2 := by simp [kerfErr, hk, hc]
      have hcr : capRes (chk wd dp ln ct cs gs) kerf ln gs = 0 := by simp [capRes, hke]
      have HKE := hide hke; have HCR := hide hcr
      clear hv1 hc hke hcr
      go_wp2_with (first | (go_at_call 55; refine (outside_any _ _ _ _).mono ?_; rintro e w' ⟨rfl, rfl⟩; rw [hk]) | fail)
      go_ret2
      exact ⟨by rw [HKE.out, HCR.out]; rfl, HB1.out⟩
    | true =>
      have hke : kerfErr (chk wd dp ln ct cs gs) kerf = 0 := by simp [kerfErr, hk, hc]
      have hcr : capRes (chk wd dp ln ct cs gs) kerf ln gs = capOf kerf (parts ln gs) := by simp [capRes, hke]
      obtain ⟨hk0, hk1⟩ := btw_iff.1 hk
      have hpo := chk_parts hc
      have hln := chk_ln hc
      have hpl := parts_len ln gs
      have hl16 := freeFn_ok hc
      have hbd := fun k hk => capOf_bound (parts ln gs) ln 0 kerf hpo (Int.le_refl _) hk0 hk1 k hk
      have hat := partsOk_at (parts ln gs) ln 0 hpo
      obtain ⟨va, vc, hv⟩ := owns_form hv1
      subst hv
      have HPA := hide (SlAt.gapsIn (SlAt.of_owns hv1)).2
      obtain ⟨P, hP⟩ : ∃ P, P = parts ln gs := ⟨_, rfl⟩
      rw [← hP] at hbd hat HPA hpl hcr ⊢
      have HKE := hide hke; have HCR := hide hcr
      have HBD := hide hbd; have HAT := hide hat
      clear hv1 hc hke hcr hbd hat hpo hP
      go_wp2_with (first | (go_at_call 55; refine (outside_any _ _ _ _).mono ?_; rintro e w' ⟨rfl, rfl⟩; rw [hk]) | fail)
      go_loopw [8, 9] (fun s i wr => ∃ j : Nat, j ≤ P.length ∧ i = .int .i64 j ∧ s = .int .i64 (capOf kerf (P.take j)) ∧ Below w1.heap.size w1 wr) (fun _ i _ => P.length - (intOf i).toNat)
      case atStart => exact ⟨0, Nat.zero_le _, rfl, by simp [capOf], Below.refl _ _⟩
      case round =>
        obtain ⟨j, hj, rfl, rfl, hb⟩ := hrel
        have HB := hide hb
        have hsz := hb.size
        clear hb
        by_cases hlt : j < P.length
        · obtain ⟨b, o, rfl, hbl, q1, q2⟩ := HPA.out.below HB.out (Nat.le_refl _) j hlt
          obtain ⟨p1, p2, p3⟩ := HAT.out j hlt
          obtain ⟨g1, g2⟩ := HBD.out j hj
          have g6 : capOf kerf (P.take j) ≤ 65636 * 17 := by
            have : (ln + 100) * (j : Int) ≤ 65636 * 17 := Int.mul_le_mul (by omega) (by omega) (by omega) (by omega)
            omega
          have hst := capOf_take kerf P j hlt
          obtain ⟨f, hf⟩ : ∃ f, f = gF P j := ⟨_, rfl⟩
          obtain ⟨t, ht⟩ : ∃ t, t = gT P j := ⟨_, rfl⟩
          rw [← hf] at q1 p1 p2 hst
          rw [← ht] at q2 p2 p3 hst
          obtain ⟨S, hS⟩ : ∃ S, S = capOf kerf (P.take j) := ⟨_, rfl⟩
          rw [← hS] at g1 g6 hst ⊢
          have HST := hide hst
          have e3 : (j : Int) < (P.length : Int) := by omega
          have hbl2 : b < wr.heap.size := by omega
          have e5 : IntKind.i64.wrap (S + t) = S + t := IntWalk.i64_in _ (by omega)
          have e6 : IntKind.i64.wrap (S + t - f) = S + t - f := IntWalk.i64_in _ (by omega)
          have e7 : IntKind.i64.wrap (S + t - f + kerf) = S + t - f + kerf := IntWalk.i64_in _ (by omega)
          clear g2 hf ht hS hst
          go_wp2_with fail
          go_quiet (fail)
          clear e5 e6 e7
          go_wp2_with fail
          go_roundw
          case rel => exact ⟨j + 1, by omega, by go_num, by rw [HST.out]; exact congrArg _ (by omega), below_drewN HB.out _⟩
          case measure => simp [intOf]; omega
        · obtain rfl : j = P.length := by omega
          rw [List.take_length]
          go_wp2_with fail
          go_ret2
          exact ⟨by rw [HKE.out, HCR.out]; rfl, HB1.out.trans (HB.out.mono HB1.out.size)⟩
  · have hke : kerfErr (chk wd dp ln ct cs gs) kerf = 1 := by simp [kerfErr, hc]
    have hcr : capRes (chk wd dp ln ct cs gs) kerf ln gs = 0 := by simp [capRes, hke]
    have HKE := hide hke; have HCR := hide hcr
    rw [if_neg hc]
    clear hv1 hc hke hcr
    go_wp2_with fail
    go_ret2
    exact ⟨by rw [HKE.out, HCR.out]; rfl, HB1.out⟩

set_option maxRecDepth 100000 in
set_option maxHeartbeats 1000000 in
theorem capacity_err (wd dp ln ct cs kerf : Int) (gv : Value) (gs : List (Int × Int)) (B : Nat) (w : World) (hg : SlAt B w 2 gv gs.length (pcells gs)) (hB : B ≤ w.heap.size) (he : kerfErr (chk wd dp ln ct cs gs) kerf ≠ 0) :
    Calls Tryd.prog 21 #[barV wd dp ln ct cs gv, .int .i64 kerf] w (Ret w (.tuple #[.int .i64 0, .int .i64 (kerfErr (chk wd dp ln ct cs gs) kerf)])) := by
  have HG := hide hg; have HE := hide he
  clear hg he
  refine (callsIn_wide (n := 0)).1 ?_
  refine callsIn_of_wp_marks Tryd.func21 rfl trivial ?_ rfl
  simp only [Tryd.ntmps21, List.size_toArray, List.length_cons, List.length_nil, Nat.reduceAdd, Nat.reduceSub, Array.replicate_succ, Array.replicate_zero, List.push_toArray, List.append_toArray, List.nil_append, List.cons_append]
  gi_wp2_with fail
  obtain ⟨b0, b1, hs0, hB0⟩ := heap2 w (.cells #[.int .i64 wd, .int .i64 dp, .int .i64 ln, .int .i64 ct, .int .i64 cs, gv] 24) (.cells #[.int .i64 kerf] 3)
  obtain ⟨w0, hw0⟩ : ∃ w0, (w.alloc (.cells #[.int .i64 wd, .int .i64 dp, .int .i64 ln, .int .i64 ct, .int .i64 cs, gv] 24)).alloc (.cells #[.int .i64 kerf] 3) = w0 := ⟨_, rfl⟩
  rw [hw0] at b0 b1 hs0 hB0 ⊢
  clear hw0
  refine ⟨trivial, rfl, (callsIn_wide.2 (checkKerf_any wd dp ln ct cs kerf gv gs B w0 (HG.out.below hB0 hB) (by omega))).mono ?_⟩
  rintro e w1 ⟨rfl, hb1⟩
  have hB1 := below_left hB0 hb1 (by omega)
  obtain ⟨E, hEq⟩ : ∃ E, E = kerfErr (chk wd dp ln ct cs gs) kerf := ⟨_, rfl⟩
  rw [← hEq]
  have hk1 : (E != 0) = true := by rw [hEq]; simpa using HE.out
  have HB1 := hide hB1
  have HQ := hide hEq
  clear b0 b1 hs0 hB0 hb1 hB1 hEq
  gi_wp2
  refine ⟨_, results_tmp2 rfl _ _ _, ?_, HB1.out⟩
  rw [← HQ.out]
  rfl
theorem capacity_any (wd dp ln ct cs kerf : Int) (gv : Value) (gs : List (Int × Int)) (B : Nat) (w : World) (hg : SlAt B w 2 gv gs.length (pcells gs)) (hB : B ≤ w.heap.size) :
    Calls Tryd.prog 21 #[barV wd dp ln ct cs gv, .int .i64 kerf] w (Ret w (.tuple #[.int .i64 (capRes (chk wd dp ln ct cs gs) kerf ln gs), .int .i64 (kerfErr (chk wd dp ln ct cs gs) kerf)])) := by
  by_cases he : kerfErr (chk wd dp ln ct cs gs) kerf = 0
  · have he2 := he
    unfold kerfErr at he2
    split at he2
    · rename_i hc
      split at he2
      · rename_i hk
        have h := capacity_ok wd dp ln ct cs kerf gv gs B w hg hB hc (btw_iff.1 hk).1 (btw_iff.1 hk).2
        rw [he]
        unfold capRes
        rw [if_pos he]
        exact h
      · cases he2
    · cases he2
  · have h := capacity_err wd dp ln ct cs kerf gv gs B w hg hB he
    unfold capRes
    rw [if_neg he]
    exact h

/-- Too great a list of bars. -/
def greatB (l : List Br) : Bool := (decide (6 < l.length) && decide (l.length ≤ 64)) || decide (66 < l.length) || (List.range l.length).any fun i => decide (20 < (bAt l i).gs.length)
theorem great_false {l : List Br} (h : greatB l = false) : (l.length ≤ 6 ∨ l.length = 65 ∨ l.length = 66) ∧ ∀ i, i < l.length → (bAt l i).gs.length ≤ 20 := by
  unfold greatB at h
  simp only [Bool.or_eq_false_iff, Bool.and_eq_false_iff, decide_eq_false_iff_not, List.any_eq_false, List.mem_range] at h
  exact ⟨by omega, fun i hi => by have := h.2 i hi; simp at this; omega⟩
set_option maxRecDepth 100000 in
set_option maxHeartbeats 1000000 in
theorem great_any (v : Value) (l : List Br) (B : Nat) (w : World) (hg : BarsAt B w v l) (hB : B ≤ w.heap.size) :
    Calls Tryd.prog 23 #[v] w fun e w' => e = .returned (.bool (greatB l)) ∧ w = w' := by
  obtain ⟨ga, gc, hv⟩ := SlAt.form hg.1
  subst hv
  have HG := hide hg
  clear hg
  by_cases h1 : (6 < l.length ∧ l.length ≤ 64) ∨ 66 < l.length
  · have hgr : greatB l = true := by
      unfold greatB
      simp only [Bool.or_eq_true, Bool.and_eq_true, decide_eq_true_eq]
      omega
    rw [hgr]
    clear hgr
    by_cases h66 : 66 < l.length
    · have a1 : ¬ (l.length : Int) ≤ 64 := by omega
      have a2 : (66 : Int) < (l.length : Int) := by omega
      clear h1
      go_enter Tryd.func23, Tryd.ntmps23
      go_wp2
      go_ret
      exact ⟨rfl, rfl⟩
    · have a1 : (l.length : Int) ≤ 64 := by omega
      have a2 : (6 : Int) < (l.length : Int) := by omega
      clear h1
      go_enter Tryd.func23, Tryd.ntmps23
      go_wp2
      go_ret
      exact ⟨rfl, rfl⟩
  · have hge : greatB l = (List.range l.length).any fun i => decide (20 < (bAt l i).gs.length) := by
      unfold greatB
      have e1 : (decide (6 < l.length) && decide (l.length ≤ 64)) = false := by simp; omega
      have e2 : decide (66 < l.length) = false := by simp; omega
      rw [e1, e2]
      simp
    rw [hge]
    have HGE := hide hge
    clear hge
    have a3 : (l.length : Int) ≤ 66 := by omega
    have a4 : (l.length : Int) ≤ 6 ∨ (64 : Int) < (l.length : Int) := by omega
    have hrun : ∀ w0 : World, w0 = w → True := fun _ _ => trivial
    clear hrun h1
    rcases a4 with a4 | a4
    all_goals
      go_enter Tryd.func23, Tryd.ntmps23
      go_wp2_with fail
      go_loopw [3] (fun i wr => ∃ j : Nat, j ≤ l.length ∧ i = .int .i64 j ∧ wr = w ∧ Hid ((List.range j).any (fun i => decide (20 < (bAt l i).gs.length)) = false)) (fun i _ => l.length - (intOf i).toNat)
      case atStart => exact ⟨0, Nat.zero_le _, rfl, rfl, hide rfl⟩
      case round =>
        obtain ⟨j, hj, rfl, rfl, hin⟩ := hrel
        by_cases hlt : j < l.length
        · rcases HG.out.rows with ⟨_, _, _, h0⟩ | ⟨b, o, cap, hv, hb, hc⟩
          · rw [h0] at hlt
            simp at hlt
          · cases hv
            obtain ⟨x1, x2, x3, x4, x5, x6⟩ := hc j hlt
            obtain ⟨ha, hc2, hgv⟩ := SlAt.form (HG.out.2 j hlt)
            rw [hgv] at x6
            have e3 : (j : Int) < l.length := by omega
            have hbb : b < wr.heap.size := by omega
            have hsu : (List.range (j + 1)).any (fun i => decide (20 < (bAt l i).gs.length)) = ((List.range j).any (fun i => decide (20 < (bAt l i).gs.length)) || decide (20 < (bAt l j).gs.length)) := by rw [List.range_succ, List.any_append]; simp
            have HSU := hide hsu
            clear hc x1 x2 x3 x4 x5 hgv hsu
            by_cases h20 : 20 < (bAt l j).gs.length
            · have hfin : (List.range l.length).any (fun i => decide (20 < (bAt l i).gs.length)) = true := by
                rw [List.any_eq_true]
                exact ⟨j, List.mem_range.2 hlt, by simpa using h20⟩
              have HFI := hide hfin
              have b20 : (20 : Int) < ((bAt l j).gs.length : Int) := by omega
              clear hfin
              go_wp2
              go_ret
              exact ⟨by rw [HFI.out]; rfl, rfl⟩
            · have b20 : ¬ (20 : Int) < ((bAt l j).gs.length : Int) := by omega
              have h20d := h20
              clear h20
              go_wp2_with fail
              go_roundw
              case rel => exact ⟨j + 1, by omega, by go_num, trivial, hide (by rw [HSU.out, hin.out]; simpa using h20d)⟩
              case measure => simp [intOf]; omega
        · obtain rfl : j = l.length := by omega
          go_wp2
          go_ret
          exact ⟨by rw [hin.out]; rfl, rfl⟩
end Go.Proofs.YtfljmbdnnjjmoaaDoor
