/-
  The reference's bar and Check: the walks.
-/
import Derived.Test.YtfljmbdnnjjmoaaDoorS8
namespace Go.Proofs.YtfljmbdnnjjmoaaDoor
open Go.RowKit Go.KP Go.Shelf

theorem ret_b {a b : Bool} (h : a = b) : Ending.returned (.bool a) = Ending.returned (.bool b) := by rw [h]
theorem outside_any (n a b : Int) (w : World) :
    Calls Tryd.prog 55 #[.int .i64 n, .int .i64 a, .int .i64 b] w fun e w' => e = .returned (.bool (!btw n a b)) ∧ w = w' := by
  unfold btw
  go_enter Tryd.func55, Tryd.ntmps55
  go_wp2
  all_goals (go_ret; refine ⟨?_, rfl⟩)
  all_goals refine ret_b ?_
  all_goals (rw [Bool.eq_iff_iff]; simp; try omega)

set_option maxHeartbeats 400000 in
theorem rbar_head (wd dp ln ct cs : Int) (a : Option Addr) (n c : Nat) (w : World) (h : headOk wd dp ln ct cs = false) :
    Calls Tryd.prog 54 #[.agg #[.int .i64 wd, .int .i64 dp, .int .i64 ln, .int .i64 ct, .int .i64 cs, .slice a n c]] w fun e w' => e = .returned (.int .i64 2) ∧ Below w.heap.size w w' := by
  have H := hide h
  clear h
  go_enter Tryd.func54, Tryd.ntmps54
  go_wp2_with (go_at_call 55; refine (outside_any _ _ _ _).mono ?_; rintro e w' ⟨rfl, rfl⟩)
  all_goals first
    | (exfalso; have h := H.out; simp_all [headOk]; done)
    | (go_ret; exact ⟨rfl, (Below.refl _ _).alloc (Nat.le_refl _) _⟩)

set_option maxHeartbeats 400000 in
theorem rbar_nil (wd dp ln ct cs : Int) (a0 : Option Addr) (c0 : Nat) (w : World) (h : headOk wd dp ln ct cs = true) :
    Calls Tryd.prog 54 #[.agg #[.int .i64 wd, .int .i64 dp, .int .i64 ln, .int .i64 ct, .int .i64 cs, .slice a0 0 c0]] w fun e w' => e = .returned (.int .i64 0) ∧ Below w.heap.size w w' := by
  simp only [headOk, Bool.and_eq_true] at h
  obtain ⟨⟨⟨⟨h1, h2⟩, h3⟩, h4⟩, h5⟩ := h
  go_enter Tryd.func54, Tryd.ntmps54
  go_wp2_with (go_at_call 55; refine (outside_any _ _ _ _).mono ?_; rintro e w' ⟨rfl, rfl⟩)
  obtain ⟨m1, m2, m3⟩ := heap1 w (.cells #[.int .i64 wd, .int .i64 dp, .int .i64 ln, .int .i64 ct, .int .i64 cs, .slice a0 0 c0] 24)
  obtain ⟨W0, hW0⟩ : ∃ W0 : World, w.alloc (.cells #[.int .i64 wd, .int .i64 dp, .int .i64 ln, .int .i64 ct, .int .i64 cs, .slice a0 0 c0] 24) = W0 := ⟨_, rfl⟩
  rw [hW0] at m1 m2 m3 ⊢
  have c5 := cell_blk m1 5
  have l5 := lt_blk m1
  simp at c5
  have HB := hide m3
  clear hW0 m1 m3
  go_loopw [3] (fun i wr => i = .int .i64 0 ∧ wr = W0) (fun _ _ => 0)
  case atStart => exact ⟨rfl, rfl⟩
  case round =>
    obtain ⟨rfl, rfl⟩ := hrel
    go_wp2
    go_ret
    exact ⟨rfl, HB.out⟩

set_option maxHeartbeats 400000 in
theorem rbar_body (wd dp ln ct cs : Int) (b o cap : Nat) (gs : List (Int × Int)) (w : World) (h : headOk wd dp ln ct cs = true) (hb : b < w.heap.size)
    (hc : ∀ i, i < gs.length → w.cell? ⟨b, o + i * 2, none⟩ = some (.int .i64 (gF gs i)) ∧ w.cell? ⟨b, o + i * 2 + 1, none⟩ = some (.int .i64 (gT gs i))) :
    Calls Tryd.prog 54 #[.agg #[.int .i64 wd, .int .i64 dp, .int .i64 ln, .int .i64 ct, .int .i64 cs, .slice (some ⟨b, o, none⟩) gs.length cap]] w fun e w' => e = .returned (.int .i64 (if 16 < gs.length then 4 else gapErr ln none gs)) ∧ Below w.heap.size w w' := by
  simp only [headOk, Bool.and_eq_true] at h
  obtain ⟨⟨⟨⟨h1, h2⟩, h3⟩, h4⟩, h5⟩ := h
  have HC := hide hc
  clear hc
  by_cases hl : 16 < gs.length
  · rw [if_pos hl]
    go_enter Tryd.func54, Tryd.ntmps54
    go_wp2_with (go_at_call 55; refine (outside_any _ _ _ _).mono ?_; rintro e w' ⟨rfl, rfl⟩)
    go_ret
    exact ⟨rfl, (Below.refl _ _).alloc (Nat.le_refl _) _⟩
  · rw [if_neg hl]
    go_enter Tryd.func54, Tryd.ntmps54
    go_wp2_with (go_at_call 55; refine (outside_any _ _ _ _).mono ?_; rintro e w' ⟨rfl, rfl⟩)
    obtain ⟨W0, hW0⟩ : ∃ W0 : World, w.alloc (.cells #[.int .i64 wd, .int .i64 dp, .int .i64 ln, .int .i64 ct, .int .i64 cs, .slice (some ⟨b, o, none⟩) gs.length cap] 24) = W0 := ⟨_, rfl⟩
    have s0 : W0.heap.size = w.heap.size + 1 := by rw [← hW0]; simp
    have c0 : W0.cell? ⟨w.heap.size, 2, none⟩ = some (.int .i64 ln) := by rw [← hW0]; simp [go_sem]
    have c1 : W0.cell? ⟨w.heap.size, 5, none⟩ = some (.slice (some ⟨b, o, none⟩) gs.length cap) := by rw [← hW0]; simp [go_sem]
    have hB0 : Below w.heap.size w W0 := by rw [← hW0]; exact (Below.refl _ _).alloc (Nat.le_refl _) _
    rw [hW0]
    have HW := hide hW0
    have HS := hide s0
    have HG := hide (show gapErr ln none gs = gapErr ln (gPrev gs 0) (gs.drop 0) by simp [gPrev])
    clear hW0 s0
    go_loopw [3] (fun i wr => ∃ k : Nat, k ≤ gs.length ∧ i = .int .i64 k ∧ Below W0.heap.size W0 wr ∧ Hid (gapErr ln none gs = gapErr ln (gPrev gs k) (gs.drop k))) (fun i _ => gs.length - (intOf i).toNat)
    case atStart => exact ⟨0, Nat.zero_le _, rfl, Below.refl _ _, HG⟩
    case round =>
      obtain ⟨k, hk, rfl, hbw, hg⟩ := hrel
      clear HG
      have hsz : w.heap.size < wr.heap.size := by have := hbw.size; have := HS.out; omega
      have r0 := (hbw.cell (p := ⟨w.heap.size, 2, none⟩) (by have := HS.out; simp; omega)).trans c0
      have r1 := (hbw.cell (p := ⟨w.heap.size, 5, none⟩) (by have := HS.out; simp; omega)).trans c1
      by_cases hlt : k < gs.length
      · have HC1 := HC.out k hlt
        have rb : ∀ p, wr.cell? ⟨b, p, none⟩ = w.cell? ⟨b, p, none⟩ := fun p => (hbw.cell (p := ⟨b, p, none⟩) (by have := HS.out; simp; omega)).trans (hB0.cell (p := ⟨b, p, none⟩) hb)
        have r2 := (rb _).trans HC1.1
        have r3 := (rb _).trans HC1.2
        clear rb
        go_wp2
        · go_ret
          have hfin : gapErr ln none gs = 2 := by rw [hg.out, gapErr_at _ _ _ hlt, if_pos (by simp [badGap]; omega)]
          exact ⟨by rw [hfin]; rfl, (hB0.trans (hbw.mono (by have := HS.out; omega))).alloc (by omega) _⟩
        · have hbad : badGap ln (gF gs k) (gT gs k) = false := by simp [badGap]; omega
          have hstep := gapErr_at ln gs k hlt
          rw [hbad, if_neg (by simp)] at hstep
          have hgo : prevBad (gPrev gs k) (gF gs k) = false → gapErr ln none gs = gapErr ln (gPrev gs (k + 1)) (gs.drop (k + 1)) := fun h => by rw [hg.out, hstep, h]; rfl
          have hst : prevBad (gPrev gs k) (gF gs k) = true → gapErr ln none gs = 10 := fun h => by rw [hg.out, hstep, h]; rfl
          by_cases hk0 : k = 0
          · subst hk0
            have HG := hide (hgo rfl)
            clear hgo hst hstep hbad
            go_quiet (fail)
            go_wp2
            go_roundw
            case rel => exact ⟨0 + 1, by omega, by go_num, below_drewN (hbw.alloc hbw.size _) _, HG⟩
            case measure => simp [intOf]; omega
          · obtain ⟨j, rfl⟩ : ∃ j, k = j + 1 := ⟨k - 1, by omega⟩
            have HC2 := (HC.out j (by omega)).2
            have rb : ∀ p, wr.cell? ⟨b, p, none⟩ = w.cell? ⟨b, p, none⟩ := fun p => (hbw.cell (p := ⟨b, p, none⟩) (by have := HS.out; simp; omega)).trans (hB0.cell (p := ⟨b, p, none⟩) hb)
            have r4 := (rb _).trans HC2
            have hp : gPrev gs (j + 1) = some (gT gs j) := by simp [gPrev]
            rw [hp] at hgo hst
            simp only [prevBad] at hgo hst
            clear rb hstep hbad hp HC2 hg HC1
            have e2 : IntKind.i64.wrap (j : Int) = j := IntWalk.i64_in _ (by omega)
            have e3 : (j : Int) < gs.length := by omega
            have hb2 : b < wr.heap.size := by omega
            have e4 : (0 : Int) < (j : Int) + 1 := by omega
            by_cases hle : gF gs (j + 1) ≤ gT gs j
            · have HG := hide (hst (by simpa using hle))
              clear hgo hst
              go_quiet (fail)
              go_wp2
              go_ret
              exact ⟨by rw [HG.out]; rfl, below_drewN ((hB0.trans (hbw.mono (by have := HS.out; omega))).alloc (by omega) _) _⟩
            · have HG := hide (hgo (by simpa using hle))
              clear hgo hst
              go_quiet (fail)
              go_wp2
              go_roundw
              case rel => exact ⟨j + 1 + 1, by omega, by go_num, below_drewN (hbw.alloc hbw.size _) _, HG⟩
              case measure => simp [intOf]; omega
        · go_ret
          have hfin : gapErr ln none gs = 2 := by rw [hg.out, gapErr_at _ _ _ hlt, if_pos (by simp [badGap]; omega)]
          exact ⟨by rw [hfin]; rfl, (hB0.trans (hbw.mono (by have := HS.out; omega))).alloc (by omega) _⟩
        · go_ret
          have hfin : gapErr ln none gs = 2 := by rw [hg.out, gapErr_at _ _ _ hlt, if_pos (by simp [badGap]; omega)]
          exact ⟨by rw [hfin]; rfl, (hB0.trans (hbw.mono (by have := HS.out; omega))).alloc (by omega) _⟩
      · obtain rfl : k = gs.length := by omega
        go_wp2
        go_ret
        have hfin : gapErr ln none gs = 0 := by rw [hg.out]; simp [gapErr]
        exact ⟨by rw [hfin]; rfl, hB0.trans (hbw.mono (by have := HS.out; omega))⟩

theorem rbar_any (wd dp ln ct cs : Int) (gv : Value) (gs : List (Int × Int)) (B : Nat) (w : World) (hg : SlAt B w 2 gv gs.length (pcells gs)) (hB : B ≤ w.heap.size) :
    Calls Tryd.prog 54 #[.agg #[.int .i64 wd, .int .i64 dp, .int .i64 ln, .int .i64 ct, .int .i64 cs, gv]] w fun e w' => e = .returned (.int .i64 (chk wd dp ln ct cs gs)) ∧ Below w.heap.size w w' := by
  unfold chk
  cases hh : headOk wd dp ln ct cs with
  | false =>
    rcases hg.pairs with ⟨a0, c0, rfl, rfl⟩ | ⟨b, o, cap, rfl, hb, hc⟩
    · exact rbar_head wd dp ln ct cs _ _ _ w hh
    · exact rbar_head wd dp ln ct cs _ _ _ w hh
  | true =>
    rcases hg.pairs with ⟨a0, c0, rfl, rfl⟩ | ⟨b, o, cap, rfl, hb, hc⟩
    · exact rbar_nil wd dp ln ct cs a0 c0 w hh
    · exact rbar_body wd dp ln ct cs b o cap gs w hh (by omega) hc
set_option maxHeartbeats 400000 in
theorem rchecks_nil (a0 : Option Addr) (c0 : Nat) (w : World) : Calls Tryd.prog 30 #[.slice a0 0 c0] w (Ret w (.int .i64 0)) := by
  go_enter Tryd.func30, Tryd.ntmps30
  go_wp2
  go_loopw [3] (fun i wr => i = .int .i64 0 ∧ Below w.heap.size w wr) (fun _ _ => 0)
  case atStart => exact ⟨rfl, Below.refl _ _⟩
  case round =>
    obtain ⟨rfl, hbw⟩ := hrel
    go_wp2
    go_ret
    exact ⟨rfl, hbw⟩

set_option maxRecDepth 100000 in
set_option maxHeartbeats 400000 in
theorem rchecks_any (v : Value) (l : List Br) (B : Nat) (w : World) (hg : BarsAt B w v l) (hB : B ≤ w.heap.size) :
    Calls Tryd.prog 30 #[v] w (Ret w (.int .i64 (chks l))) := by
  rcases hg.rows with ⟨a0, c0, rfl, rfl⟩ | ⟨b, o, cap, rfl, hb, hc⟩
  · exact rchecks_nil a0 c0 w
  · have HC := hide hc; have HG := hide hg
    clear hc hg
    by_cases hl : 64 < l.length
    · have hch : chks l = 4 := by simp [chks, hl]
      rw [hch]
      go_enter Tryd.func30, Tryd.ntmps30
      go_wp2
      go_ret
      exact ⟨rfl, Below.refl _ _⟩
    · have hch : chks l = firstErr (l.drop 0) := by simp [chks, hl]
      rw [hch]
      clear hch
      go_enter Tryd.func30, Tryd.ntmps30
      go_wp2
      go_loopw [3] (fun i wr => ∃ k : Nat, k ≤ l.length ∧ i = .int .i64 k ∧ Below w.heap.size w wr ∧ Hid (firstErr (l.drop 0) = firstErr (l.drop k))) (fun i _ => l.length - (intOf i).toNat)
      case atStart => exact ⟨0, Nat.zero_le _, rfl, Below.refl _ _, hide rfl⟩
      case round =>
        obtain ⟨k, hk, rfl, hbw, hf⟩ := hrel
        by_cases hlt : k < l.length
        · obtain ⟨x1, x2, x3, x4, x5, x6⟩ := HC.out k hlt
          have rb : ∀ p, wr.cell? ⟨b, p, none⟩ = w.cell? ⟨b, p, none⟩ := fun p => hbw.cell (p := ⟨b, p, none⟩) (by simp; omega)
          have r1 := (rb _).trans x1; have r2 := (rb _).trans x2; have r3 := (rb _).trans x3; have r4 := (rb _).trans x4; have r5 := (rb _).trans x5; have r6 := (rb _).trans x6
          have hs := hbw.size
          have e3 : (k : Int) < l.length := by omega
          have hst := firstErr_at l k hlt
          have hbb : b < wr.heap.size := by omega
          obtain ⟨ga, gc, hgv⟩ := SlAt.form (HG.out.2 k hlt)
          have hgk := HG.out.2 k hlt
          rw [hgv] at r6 hgk
          have HS := hide hst; have HBW := hide hbw; have HGK := hide hgk
          clear rb x1 x2 x3 x4 x5 x6 hst hbw hgv hgk
          go_wp2_with fail
          go_at_call 54
          refine (rbar_any (bAt l k).wd (bAt l k).dp (bAt l k).ln (bAt l k).ct (bAt l k).cs (.slice ga (bAt l k).gs.length gc) (bAt l k).gs B _ (HGK.out.below HBW.out hB) (by omega)).mono ?_
          rintro e w2 ⟨rfl, hb2⟩
          have hb3 := HBW.out.trans (hb2.mono hs)
          rw [show chk (bAt l k).wd (bAt l k).dp (bAt l k).ln (bAt l k).ct (bAt l k).cs (bAt l k).gs = (bAt l k).chk from rfl]
          by_cases hz : (bAt l k).chk = 0
          · have hg2 := HS.out
            rw [if_pos hz] at hg2
            have HG2 := hide (hf.out.trans hg2); have HB3 := hide hb3
            rw [hz]
            clear hg2 hb3 hb2 hz
            go_wp2
            go_roundw
            case rel => exact ⟨k + 1, by omega, by go_num, HB3.out, HG2⟩
            case measure => simp [intOf]; omega
          · have hg2 := HS.out
            rw [if_neg hz] at hg2
            have HG2 := hide (hf.out.trans hg2); have HB3 := hide hb3
            have hzz : ((bAt l k).chk != 0) = true := by simpa using hz
            clear hg2 hb3 hb2 hz
            go_wp2
            go_ret
            exact ⟨by rw [HG2.out]; rfl, HB3.out⟩
        · obtain rfl : k = l.length := by omega
          go_wp2
          go_ret
          have hfin : firstErr (l.drop 0) = 0 := by rw [hf.out]; simp [firstErr]
          exact ⟨by rw [hfin]; rfl, hbw⟩
end Go.Proofs.YtfljmbdnnjjmoaaDoor
