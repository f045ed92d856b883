/-
  The law StockFewer: the walk.
-/
import Derived.Test.YtfljmbdnnjjmoaaDoorL4
import Derived.Test.YtfljmbdnnjjmoaaDoorS14
import Derived.Test.YtfljmbdnnjjmoaaDoorCall
import Derived.Deep.RegionWith
namespace Go.Proofs.YtfljmbdnnjjmoaaDoor
open Go.RowKit Go.KP Go.Shelf

theorem max3 (w : World) : (Builtin.max_ #[27, 27, 27] 27 #[.int .i64 0, .int .i64 0, .int .i64 0]).run Tryd.prog w = .ok (.int .i64 0) w := by
  simp [Builtin.max_, Builtin.max2, go_sem]
/-- What Fits leaves, in few words: whether it fits. -/
def FitsAt (k : Int) (ps : List (Int × Int)) (ls : List Int) (r : Value) (_ : World) : Prop := ∃ v, r = .tuple #[v, .bool ((fits k ps ls).2.isEmpty), .int .i64 0]
theorem fits_at_any (wd dp ln ct cs kerf : Int) (gv : Value) (gs : List (Int × Int)) (A : Option Addr) (n c : Nat) (ls : List Int) (B : Nat) (w : World) (hg : SlAt B w 2 gv gs.length (pcells gs)) (hB : B ≤ w.heap.size)
    (hn : ls.length = n) (B2 : Nat) (hB2 : B2 ≤ w.heap.size) (hls : IntsIn B2 w A n ls) (hc : chk wd dp ln ct cs gs = 0) (hk0 : 0 ≤ kerf) (hk1 : kerf ≤ 100) (h64 : n ≤ 64) (hv : ∀ x ∈ ls, okPiece x = true) :
    Calls Tryd.prog 17 #[barV wd dp ln ct cs gv, .slice A n c, .int .i64 kerf] w (RetEx w (FitsAt kerf (parts ln gs) ls)) :=
  (fits_ok wd dp ln ct cs kerf gv gs A n c ls (max B B2) w (hg.mono (by omega)) (by omega) hn (hls.mono (by omega)) hc hk0 hk1 h64 (pieces_any_bad hv)).mono fun e w' ⟨r, he, hb, v, hr, _⟩ => ⟨r, he, hb, v, hr⟩

set_option maxRecDepth 100000 in
set_option maxHeartbeats 2000000 in
theorem law7_any (wd dp ln ct cs kf le wh : Int) (gv : Value) (gs : List (Int × Int)) (A : Option Addr) (n c : Nat) (ls : List Int) (B : Nat) (w : World) (hg : SlAt B w 2 gv gs.length (pcells gs)) (hn : ls.length = n) (hls : IntsAt B w A n ls) (hB : B ≤ w.heap.size)
    (hT : P10 B w) (hk0 : 0 ≤ kf) (hk1 : kf ≤ 255) (hl0 : 0 ≤ le) (hl1 : le ≤ 255) (hw0 : 0 ≤ wh) (hw1 : wh ≤ 255) :
    Calls Tryd.prog 7 #[barV wd dp ln ct cs gv, .slice A n c, .int .u8 kf, .int .u8 le, .int .u8 wh] w (Ret w (.bool true)) := by
  obtain ⟨ga, gc, hgv⟩ := SlAt.form hg
  subst hgv
  have HG := hide hg; have HLS := hide hls; have HN := hide hn; have HT := hide hT
  clear hg hls hn hT
  have hconv : IntKind.i64.wrap kf = kf := IntWalk.i64_in _ (by omega)
  have hconv2 : IntKind.i64.wrap le = le := IntWalk.i64_in _ (by omega)
  have hconv3 : IntKind.i64.wrap wh = wh := IntWalk.i64_in _ (by omega)
  go_enter Tryd.func7, Tryd.ntmps7
  go_wp2_with fail
  obtain ⟨k, hk⟩ : ∃ k, k = kf % 101 := ⟨_, rfl⟩
  rw [← hk]
  have hk2 : 0 ≤ k := by omega
  have hk3 : k ≤ 100 := by omega
  clear hk hconv
  obtain ⟨m1, m2, m3⟩ := heap1 w (.cells #[.int .i64 wd, .int .i64 dp, .int .i64 ln, .int .i64 ct, .int .i64 cs, .slice ga gs.length gc] 24)
  obtain ⟨w0, hw0⟩ : ∃ w0, w.alloc (.cells #[.int .i64 wd, .int .i64 dp, .int .i64 ln, .int .i64 ct, .int .i64 cs, .slice ga gs.length gc] 24) = w0 := ⟨_, rfl⟩
  rw [hw0] at m1 m2 m3 ⊢
  clear hw0
  have HF := hide (fine_any wd dp ln ct cs (.slice ga gs.length gc) gs B w0 (HG.out.below m3 hB) (by omega))
  refine HF.out.mono ?_
  rintro e w1 ⟨rfl, hb1⟩
  have hs1 := hb1.size
  have m4 := below_blk hb1 m1 (by omega)
  have HB1 := hide (below_left m3 hb1 (by omega))
  clear hb1 HF m1 m3
  by_cases hc : chk wd dp ln ct cs gs = 0
  · rw [show decide (chk wd dp ln ct cs gs = 0) = true by simp [hc]]
    have HC := hide hc; have M4 := hide m4
    clear hc m4
    go_wp2_with fail
    have HP := hide (pieces_any A n c ls w1 HN.out (fun k hk => by
      obtain ⟨b, o, h1, h2, h3⟩ := ints_below HLS.out HB1.out hB k hk
      exact ⟨b, o, h1, by omega, h3⟩))
    refine HP.out.mono ?_
    rintro e w2 ⟨rfl, hb2⟩
    have hs2 := hb2.size
    have m5 := below_blk hb2 M4.out (by omega)
    have HB2 := hide (below_left HB1.out hb2 (by omega))
    clear hb2 HP M4
    have HA := hide (awake_any B w2 (HT.out.on (HB2.out.mono hB)) (by omega))
    by_cases hp : okPieces ls = true
    · rw [hp]
      have hp2 := hp
      simp only [okPieces, Bool.and_eq_true, decide_eq_true_eq, List.all_eq_true] at hp2
      have h10 : n ≤ 10 := by have := HN.out; omega
      have HP2 := hide hp2.2; have M5 := hide m5
      have c5 := fun o => cell_blk m5 o
      have hlt2 : w.heap.size < w2.heap.size := by omega
      clear hp hp2 m5
      by_cases hn0 : n = 0
      · have hbe : ((n : Int) == 0) = true := by simp; omega
        clear hn0
        go_wp2_with fail
        refine HA.out.mono ?_
        rintro e w3 ⟨rfl, hb3⟩
        have HB3 := hide (below_left HB2.out hb3 (by omega))
        clear hb3 HA
        go_wp2
        go_ret
        exact ⟨rfl, HB3.out⟩
      · have hbe : ((n : Int) == 0) = false := by simp; omega
        have hnp : 1 ≤ (n : Int) := by omega
        clear hn0 HA
        go_wp2_with fail
        have HFT := hide (fits_at_any wd dp ln ct cs k (.slice ga gs.length gc) gs A n c ls B w2 (HG.out.below HB2.out hB) (by omega) HN.out B (by omega) (ints_below HLS.out HB2.out hB) HC.out hk2 hk3 (by omega) HP2.out)
        refine HFT.out.mono ?_
        rintro e w3 ⟨r, rfl, hb3, v3, rfl⟩
        have hs3 := hb3.size
        have m6 := below_blk hb3 M5.out (by omega)
        have HB3 := hide (below_left HB2.out hb3 (by omega))
        have c6 := fun o => cell_blk m6 o
        have M6 := hide m6
        have hlt3 : w.heap.size < w3.heap.size := by omega
        clear hb3 HFT m6 c5 M5
        go_wp2_with fail
        obtain ⟨i, hi⟩ : ∃ i : Nat, (i : Int) = wh % (n : Int) := ⟨(wh % (n : Int)).toNat, Int.toNat_of_nonneg (Int.emod_nonneg _ (by omega))⟩
        have hin : i < n := by have := Int.emod_lt_of_pos wh (show (0 : Int) < n by omega); omega
        rw [← hi]
        have e1 : IntKind.i64.wrap ((i : Int) + 1) = (i : Int) + 1 := IntWalk.i64_in _ (by omega)
        clear hi hconv3
        obtain ⟨W, hW⟩ : ∃ W, W = w3.drew := ⟨_, rfl⟩
        have hN3 : IntsIn B W A n ls := by rw [hW]; exact ints_below HLS.out HB3.out.drew hB
        have HN3 := hide hN3
        have M6d := hide (show W.heap[w.heap.size]? = some (.cells #[.int .i64 wd, .int .i64 dp, .int .i64 ln, .int .i64 ct, .int .i64 cs, .slice ga gs.length gc] 24 (0, 0)) by rw [hW]; exact M6.out)
        have HB3d := hide (show Below w.heap.size w W by rw [hW]; exact HB3.out.drew)
        have hsW : w3.heap.size ≤ W.heap.size := by rw [hW]; exact Nat.le_refl _
        have hltW : w.heap.size < W.heap.size := by omega
        clear hN3 M6
        subst hW
        go_region_with (first
          | (go_at_call 20; go_must (refine (cloneInts_any A n c ls B w3.drew HN.out (by omega) (by omega) HN3.out).mono ?_; rintro e w4 ⟨g, cap, rfl, hNew, hb4⟩; have HNew := hide hNew; have HB4 := hide hb4; have hs4 := HB4.out.size; have d6 := fun o => cell_blk (below_blk HB4.out M6d.out hltW) o; have hlt4 : w.heap.size < w4.heap.size := Nat.lt_of_lt_of_le hltW hs4; clear hNew hb4))
          | (go_at_call 22
             go_must (refine (deleteInts_any g cap n i ls w3.drew.heap.size w4 HNew.out hin ((i : Int) + 1) rfl).mono ?_; rintro e w5 ⟨rfl, hI5, hb5⟩; have HI5 := hide hI5; have HB5 := hide (HB4.out.trans hb5); have hs5 := hb5.size; have d7 := fun o => cell_blk (below_blk HB5.out M6d.out hltW) o; have hlt5 : w.heap.size < w5.heap.size := Nat.lt_of_lt_of_le hlt4 hs5; clear hI5 hb5))
          | (go_at_call 17
             go_must (refine (fits_at_any wd dp ln ct cs k (.slice ga gs.length gc) gs (some ⟨g, 0, none⟩) (n - 1) cap (ls.eraseIdx i) B w5 (HG.out.below (HB3d.out.trans (HB5.out.mono (by omega))) hB) (by omega) (by rw [List.length_eraseIdx_of_lt (by rw [HN.out]; exact hin), HN.out]) (g + 1) (Nat.lt_of_lt_of_le HNew.out.hi hs5) HI5.out HC.out hk2 hk3 (by omega) (fun x hx => HP2.out x (List.mem_of_mem_eraseIdx hx))).mono ?_; rintro e w6 ⟨r, rfl, hb6, v6, rfl⟩; have HB6 := hide (HB5.out.trans (hb6.mono (by omega))); have hs6 := hb6.size; clear hb6)))
        all_goals
          have hB6 := HB3d.out.trans (HB6.out.mono (by omega))
          have M7 := hide (below_blk HB6.out M6d.out hltW)
          have HBW6 := hide hB6
          have c7 := fun o => cell_blk M7.out o
          have e2 : IntKind.i64.wrap (k + 1) = k + 1 := IntWalk.i64_in _ (by omega)
          have e3 : le.tmod (k + 1) = le % (k + 1) := Int.tmod_eq_emod_of_nonneg hl0
          have hlt6 : w.heap.size < w6.heap.size := by omega
          have e4 : (k + 1 = 0) = False := eq_false (by omega)
          have e5 : IntKind.i64.wrap (le % (k + 1)) = le % (k + 1) := by
            have := Int.emod_nonneg le (show k + 1 ≠ 0 by omega)
            have := Int.emod_lt_of_pos le (show 0 < k + 1 by omega)
            exact IntWalk.i64_in _ (by omega)
          clear hB6 d6 d7 c6 HNew HI5 HB4 HB5 HB6 e1
          go_wp2_with fail
          refine region_call 7 _ (by kernel_rfl) (by decide) rfl (by kernel_rfl) (by kernel_rfl) (by kernel_rfl) (by kernel_rfl) (by kernel_rfl) (by kernel_rfl) (C := fun w' => ∃ m, w' = w6.drewN m) ⟨1, rfl⟩ ?_
          simp only [List.take_succ_cons, List.take_zero, List.drop_succ_cons, List.drop_zero]
          repeat (quiet_step (fail))
          refine wpQuiet_nil ?_
          intro _ hw'
          obtain ⟨nq, rfl⟩ := hw'
          have hk20 : 0 ≤ le % (k + 1) := Int.emod_nonneg le (by omega)
          have hk21 : le % (k + 1) ≤ k := by have := Int.emod_lt_of_pos le (show 0 < k + 1 by omega); omega
          obtain ⟨k2, hk2e⟩ : ∃ k2, k2 = le % (k + 1) := ⟨_, rfl⟩
          rw [← hk2e] at hk20 hk21 ⊢
          clear hk2e e2 e3 e4 e5
          have HFT := hide (fits_at_any wd dp ln ct cs k2 (.slice ga gs.length gc) gs A n c ls B (w6.drewN nq) (HG.out.below (below_drewN HBW6.out nq) hB) (show B ≤ w6.heap.size by omega) HN.out B (show B ≤ w6.heap.size by omega) (ints_below HLS.out (below_drewN HBW6.out nq) hB) HC.out hk20 (by omega) (by omega) HP2.out)
          go_wp2_with fail
          refine HFT.out.mono ?_
          rintro e w7 ⟨r, rfl, hb7, v7, rfl⟩
          have HB7 := hide ((below_drewN HBW6.out nq).trans (hb7.mono (show w.heap.size ≤ w6.heap.size by omega)))
          have hs7 : w6.heap.size ≤ w7.heap.size := hb7.size
          clear hb7 HFT c7
          go_wp2_with fail
          refine ⟨fun w'' => ∃ m, w'' = w7.drewN m, ⟨0, rfl⟩, ?_⟩
          repeat (quiet_step (fail))
          refine wpQuiet_nil ?_
          intro _ hw'
          obtain ⟨nq2, rfl⟩ := hw'
          have hmx := max3
          have HA := hide (awake_any B (w7.drewN nq2) (HT.out.on ((below_drewN HB7.out nq2).mono hB)) (show B ≤ w7.heap.size by omega))
          have HBF := hide (below_drewN HB7.out nq2)
          have hfew : (fits k (parts ln gs) ls).2.isEmpty = true → (fits k (parts ln gs) (ls.eraseIdx i)).2.isEmpty = true ∧ (fits k2 (parts ln gs) ls).2.isEmpty = true := fun h => by
            have h1 : allFit k (parts ln gs) ls := List.isEmpty_iff.1 h
            exact ⟨List.isEmpty_iff.2 (allFit_fewer hk2 (Int.le_refl _) (pieces_pos HP2.out) (List.eraseIdx_sublist _ _) h1), List.isEmpty_iff.2 (allFit_fewer hk2 hk21 (pieces_pos HP2.out) (List.Sublist.refl _) h1)⟩
          cases hX : (fits k (parts ln gs) ls).2.isEmpty with
          | false =>
            clear hfew hX
            go_wp2_with fail
            refine HA.out.mono ?_
            rintro e w8 ⟨rfl, hb8⟩
            have HB8 := hide (HBF.out.trans (hb8.mono (show w.heap.size ≤ w7.heap.size by omega)))
            clear hb8 HA
            go_wp2
            go_ret
            exact ⟨rfl, HB8.out⟩
          | true =>
            obtain ⟨f1, f2⟩ := hfew hX
            rw [f1, f2]
            clear f1 f2 hX
            go_wp2_with fail
            refine HA.out.mono ?_
            rintro e w8 ⟨rfl, hb8⟩
            have HB8 := hide (HBF.out.trans (hb8.mono (show w.heap.size ≤ w7.heap.size by omega)))
            clear hb8 HA
            go_wp2
            go_ret
            exact ⟨rfl, HB8.out⟩
    · rw [show okPieces ls = false by simpa using hp]
      clear hp
      go_wp2_with fail
      refine HA.out.mono ?_
      rintro e w3 ⟨rfl, hb3⟩
      have HB3 := hide (below_left HB2.out hb3 (by omega))
      clear hb3 HA
      go_wp2
      go_ret
      exact ⟨rfl, HB3.out⟩
  · rw [show decide (chk wd dp ln ct cs gs = 0) = false by simp [hc]]
    clear hc m4
    go_wp2_with fail
    have HA := hide (awake_any B w1 (HT.out.on (HB1.out.mono hB)) (by omega))
    refine HA.out.mono ?_
    rintro e w3 ⟨rfl, hb3⟩
    have HB3 := hide (below_left HB1.out hb3 (by omega))
    clear hb3 HA
    go_wp2
    go_ret
    exact ⟨rfl, HB3.out⟩
end Go.Proofs.YtfljmbdnnjjmoaaDoor
