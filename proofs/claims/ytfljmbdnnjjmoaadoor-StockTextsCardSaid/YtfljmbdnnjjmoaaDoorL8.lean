/-
  The law StockBars: the walk.
-/
import Derived.Test.YtfljmbdnnjjmoaaDoorL9
namespace Go.Proofs.YtfljmbdnnjjmoaaDoor
open Go.RowKit Go.KP Go.Shelf

theorem eqInts_any (v1 v2 : Value) (S : List Int) (B : Nat) (w : World) (h1 : SlAt B w 1 v1 S.length (S.map (Value.int .i64))) (h2 : SlAt B w 1 v2 S.length (S.map (Value.int .i64))) (hl : S.length ≤ 1000000) :
    Calls Tryd.prog 32 #[v1, v2] w fun e w' => e = .returned (.bool true) ∧ ∃ q, w' = w.drewN q := by
  rcases h1.cases with ⟨a1, c1, rfl, hn1, _⟩ | ⟨b1, o1, cap1, rfl, hb1, hc1⟩
  · obtain ⟨a2, c2, rfl⟩ := SlAt.form h2
    rw [hn1]
    refine (Tryd.slices_Equal_int_empty a1 a2 c1 0 c2 w (by omega)).mono ?_
    rintro e w' ⟨rfl, rfl⟩
    exact ⟨rfl, 0, rfl⟩
  · rcases h2.cases with ⟨a2, c2, rfl, hn2, _⟩ | ⟨b2, o2, cap2, rfl, hb2, hc2⟩
    · rw [hn2]
      refine (Tryd.slices_Equal_int_empty (some ⟨b1, o1, none⟩) a2 cap1 0 c2 w (by omega)).mono ?_
      rintro e w' ⟨rfl, rfl⟩
      exact ⟨rfl, 0, rfl⟩
    · refine (Tryd.slices_Equal_int b1 o1 S.length cap1 b2 o2 S.length cap2 S S w (Nat.le_refl _) (Nat.le_refl _) (by omega) (by omega) (fun j hj => hc1 j _ (by simp [List.getD, hj])) (fun j hj => hc2 j _ (by simp [List.getD, hj]))).mono ?_
      rintro e w' ⟨rfl, q, rfl⟩
      exact ⟨by simp, q, rfl⟩
/-- The free parts, none of a bar that is not valid. -/
def freeL (c ln : Int) (gs : List (Int × Int)) : List (Int × Int) := if c = 0 then parts ln gs else []
theorem freeL_at {c ln : Int} {gs : List (Int × Int)} {base : Nat} {w : World} {v : Value} (h : if c = 0 then w.ownsRow base 31 2 v (parts ln gs).length (pcells (parts ln gs)) else v = .slice none 0 0) : SlAt w.heap.size w 2 v (freeL c ln gs).length (pcells (freeL c ln gs)) := by
  unfold freeL
  by_cases hc : c = 0
  · rw [if_pos hc] at h ⊢
    exact SlAt.of_owns h
  · rw [if_neg hc] at h ⊢
    rw [h]
    exact SlAt.nil _ _ _
theorem freeL_len {wd dp ln ct cs : Int} {gs : List (Int × Int)} : (freeL (chk wd dp ln ct cs gs) ln gs).length ≤ 1000000 := by
  unfold freeL
  split
  · rename_i hc
    have := parts_len ln gs
    have := freeFn_ok hc
    omega
  · simp
def freeE (c : Int) : Int := if c = 0 then 0 else 1
def FreeAt (c ln : Int) (gs : List (Int × Int)) (r : Value) (w' : World) : Prop := ∃ v, r = .tuple #[v, .int .i64 (freeE c)] ∧ SlAt w'.heap.size w' 2 v (freeL c ln gs).length (pcells (freeL c ln gs))
theorem free_at (wd dp ln ct cs : Int) (gv : Value) (gs : List (Int × Int)) (B : Nat) (w : World) (hg : SlAt B w 2 gv gs.length (pcells gs)) (hB : B ≤ w.heap.size) :
    Calls Tryd.prog 13 #[barV wd dp ln ct cs gv] w (RetEx w (FreeAt (chk wd dp ln ct cs gs) ln gs)) :=
  (freeFn_any wd dp ln ct cs gv gs B w hg hB).mono fun _ _ ⟨r, he, hb, v, hr, hv⟩ => ⟨r, he, hb, v, hr, freeL_at hv⟩
theorem rfree_at (wd dp ln ct cs : Int) (gv : Value) (gs : List (Int × Int)) (B : Nat) (w : World) (hg : SlAt B w 2 gv gs.length (pcells gs)) (hB : B ≤ w.heap.size) :
    Calls Tryd.prog 24 #[barV wd dp ln ct cs gv] w (RetEx w (FreeAt (chk wd dp ln ct cs gs) ln gs)) :=
  (rfree_any wd dp ln ct cs gv gs B w hg hB).mono fun _ _ ⟨r, he, hb, v, hr, hv⟩ => ⟨r, he, hb, v, hr, freeL_at hv⟩
theorem takeL_gs {l : List Br} {i : Int} (h : ∀ j, j < l.length → (bAt l j).gs.length ≤ 20) : ∀ j, j < (takeL l i).length → (bAt (takeL l i) j).gs.length ≤ 20 := by
  intro j hj
  unfold takeL at hj ⊢
  split at hj
  · rename_i h0
    rw [if_pos h0]
    have hj2 : j < l.length := by simpa using hj
    rcases Nat.lt_or_ge i.toNat l.length with hi | hi
    · rw [bAt_set l i.toNat j _ hi]
      split
      · exact h _ hi
      · exact h j hj2
    · rw [List.set_eq_of_length_le hi]
      exact h j hj2
  · simp at hj
theorem takeL_len (l : List Br) (i : Int) : (takeL l i).length ≤ l.length := by
  unfold takeL
  split
  · simp
  · simp

set_option maxRecDepth 100000 in
set_option maxHeartbeats 2000000 in
theorem law8_any (v : Value) (l : List Br) (kf i0 wd0 dp0 : Int) (B : Nat) (w : World) (hg : BarsAt B w v l) (hB : B ≤ w.heap.size) (hT : P10 B w) (hl : l.length ≤ 9223372036854775807) (hcap : ∀ a n c, v = .slice a n c → n ≤ c) :
    Calls Tryd.prog 8 #[v, .int .i64 kf, .int .i64 i0, .int .i64 wd0, .int .i64 dp0] w (Ret w (.bool true)) := by
  obtain ⟨ga, gc, hgv⟩ := SlAt.form hg.1
  have hgc := hcap _ _ _ hgv
  subst hgv
  have HG := hide hg; have HT := hide hT
  clear hg hT hcap
  go_enter Tryd.func8, Tryd.ntmps8
  go_wp2_with fail
  refine (great_any (.slice ga l.length gc) l B w HG.out hB).mono ?_
  rintro e w1 ⟨rfl, rfl⟩
  have HA := hide (awake_any B w HT.out hB)
  cases hgr : greatB l with
  | true =>
    clear hgr
    go_wp2_with fail
    refine HA.out.mono ?_
    rintro e w2 ⟨rfl, hb2⟩
    have HB2 := hide hb2
    clear hb2 HA
    go_wp2
    go_ret
    exact ⟨rfl, HB2.out⟩
  | false =>
    have hgf := great_false hgr
    have hl66 : l.length ≤ 66 := by have := hgf.1; omega
    have HGF := hide hgf.2
    clear hgr hgf HA
    go_wp2_with fail
    obtain ⟨n6, hn6⟩ : ∃ n6, n6 = min l.length 6 := ⟨_, rfl⟩
    have q1 : max (min (l.length : Int) 6) 0 = (n6 : Int) := by omega
    have q2 : (min (l.length : Int) 6).toNat = n6 := by omega
    have q3 : min (l.length : Int) 6 = (n6 : Int) := by omega
    rw [q1, q2, q3]
    have hn6l : n6 ≤ l.length := by omega
    clear q1 q2 q3 hn6
    go_loopw [34] (fun i wr => ∃ j : Nat, j ≤ n6 ∧ i = .int .i64 j ∧ Hid (Below w.heap.size w wr)) (fun i _ => n6 - (intOf i).toNat)
    case atStart => exact ⟨0, Nat.zero_le _, rfl, Below.refl _ _⟩
    case round =>
      obtain ⟨j, hj, rfl, HB⟩ := hrel
      have hsz := HB.out.size
      by_cases hlt : j < n6
      · have hjl : j < l.length := by omega
        rcases (HG.out.below HB.out hB).rows with ⟨_, _, _, h0⟩ | ⟨b, o, cap, hv, hb, hc⟩
        · rw [h0] at hjl
          simp at hjl
        simp only [Value.slice.injEq] at hv
        obtain ⟨rfl, t1, rfl⟩ := hv
        obtain ⟨x1, x2, x3, x4, x5, x6⟩ := hc j hjl
        have hgj := (HG.out.below HB.out hB).2 j hjl
        obtain ⟨ba, bc, hbv⟩ := SlAt.form hgj
        rw [hbv] at x6 hgj
        obtain ⟨wd, hwd⟩ : ∃ f, f = (bAt l j).wd := ⟨_, rfl⟩
        obtain ⟨dp, hdp⟩ : ∃ f, f = (bAt l j).dp := ⟨_, rfl⟩
        obtain ⟨ln, hln⟩ : ∃ f, f = (bAt l j).ln := ⟨_, rfl⟩
        obtain ⟨ct, hct⟩ : ∃ f, f = (bAt l j).ct := ⟨_, rfl⟩
        obtain ⟨cs, hcs⟩ : ∃ f, f = (bAt l j).cs := ⟨_, rfl⟩
        obtain ⟨gs, hgs⟩ : ∃ f, f = (bAt l j).gs := ⟨_, rfl⟩
        rw [← hwd] at x1
        rw [← hdp] at x2
        rw [← hln] at x3
        rw [← hct] at x4
        rw [← hcs] at x5
        rw [← hgs] at x6 hgj
        have e3 : (j : Int) < (n6 : Int) := by omega
        have hbb : b < wr.heap.size := by omega
        have HGJ := hide hgj
        clear hc t1 hbv hwd hdp hln hct hcs hgs hgj
        go_wp2_with fail
        obtain ⟨m1, m2, m3⟩ := heap1 wr (.cells #[.int .i64 wd, .int .i64 dp, .int .i64 ln, .int .i64 ct, .int .i64 cs, .slice ba gs.length bc] 24)
        obtain ⟨w0, hw0⟩ : ∃ w0, wr.alloc (.cells #[.int .i64 wd, .int .i64 dp, .int .i64 ln, .int .i64 ct, .int .i64 cs, .slice ba gs.length bc] 24) = w0 := ⟨_, rfl⟩
        rw [hw0] at m1 m2 m3 ⊢
        have HB0 := hide (HB.out.trans (m3.mono hsz))
        have HGJ0 := hide ((HGJ.out.mono (show B ≤ wr.heap.size by omega)).below m3 (Nat.le_refl _))
        have M0 := hide m1
        clear hw0 m1 m3 HGJ x1 x2 x3 x4 x5 x6
        have HF := hide (free_at wd dp ln ct cs (.slice ba gs.length bc) gs wr.heap.size w0 HGJ0.out (by omega))
        refine HF.out.mono ?_
        rintro e w1 ⟨r, rfl, hb1, v1, rfl, hv1⟩
        have hs1 := hb1.size
        have HB1 := hide (HB0.out.trans (hb1.mono (show w.heap.size ≤ w0.heap.size by omega)))
        have HV1 := hide hv1
        have M1 := hide (below_blk hb1 M0.out (by omega))
        have c1 := fun o => cell_blk M1.out o
        have l1 := lt_blk M1.out
        have HGJ1 := hide (HGJ0.out.below hb1 (by omega))
        clear hb1 hv1 HF M0 HGJ0
        go_wp2_with fail
        have HF := hide (rfree_at wd dp ln ct cs (.slice ba gs.length bc) gs wr.heap.size w1 HGJ1.out (by omega))
        refine HF.out.mono ?_
        rintro e w2 ⟨r, rfl, hb2, v2, rfl, hv2⟩
        have hs2 := hb2.size
        have HB2 := hide (HB1.out.trans (hb2.mono (show w.heap.size ≤ w1.heap.size by omega)))
        have HV2 := hide hv2
        have HV1b := hide (HV1.out.below hb2 (Nat.le_refl _))
        have M2 := hide (below_blk hb2 M1.out l1)
        have c2 := fun o => cell_blk M2.out o
        have l2 := lt_blk M2.out
        have HGJ2 := hide (HGJ1.out.below hb2 (by omega))
        clear hb2 hv2 HF M1 HGJ1 HV1 c1
        go_wp2_with fail
        have HF := hide (capacity_any wd dp ln ct cs kf (.slice ba gs.length bc) gs wr.heap.size w2 HGJ2.out (by omega))
        refine HF.out.mono ?_
        rintro e w3 ⟨rfl, hb3⟩
        have hs3 := hb3.size
        have HB3 := hide (HB2.out.trans (hb3.mono (show w.heap.size ≤ w2.heap.size by omega)))
        have HV2c := hide (HV2.out.below hb3 (Nat.le_refl _))
        have HV1c := hide (HV1b.out.below hb3 (by omega))
        have M3 := hide (below_blk hb3 M2.out l2)
        have c3 := fun o => cell_blk M3.out o
        have l3 := lt_blk M3.out
        have HGJ3 := hide (HGJ2.out.below hb3 (by omega))
        clear hb3 HF M2 HGJ2 HV1b HV2 c2
        go_wp2_with fail
        have HF := hide (rcap_any wd dp ln ct cs kf (.slice ba gs.length bc) gs wr.heap.size w3 HGJ3.out (by omega))
        refine HF.out.mono ?_
        rintro e w4 ⟨rfl, hb4⟩
        have hs4 := hb4.size
        have HB4 := hide (HB3.out.trans (hb4.mono (show w.heap.size ≤ w3.heap.size by omega)))
        have HV2d := hide (HV2c.out.below hb4 (by omega))
        have HV1d := hide (HV1c.out.below hb4 (by omega))
        clear hb4 HF M3 HGJ3 HV1c HV2c c3
        have hsg := sameGaps_any v1 v2 (freeL (chk wd dp ln ct cs gs) ln gs) (freeL (chk wd dp ln ct cs gs) ln gs) w4.heap.size w4 (HV1d.out.mono (by omega)) (HV2d.out.mono (by omega)) (Nat.le_refl _) freeL_len
        rw [show decide (freeL (chk wd dp ln ct cs gs) ln gs = freeL (chk wd dp ln ct cs gs) ln gs) = true by simp] at hsg
        have HSG := hide hsg
        clear hsg HV1d HV2d
        obtain ⟨E1, hE1⟩ : ∃ E, E = freeE (chk wd dp ln ct cs gs) := ⟨_, rfl⟩
        obtain ⟨E2, hE2⟩ : ∃ E, E = capRes (chk wd dp ln ct cs gs) kf ln gs := ⟨_, rfl⟩
        obtain ⟨E3, hE3⟩ : ∃ E, E = kerfErr (chk wd dp ln ct cs gs) kf := ⟨_, rfl⟩
        rw [← hE1, ← hE2, ← hE3]
        have y1 : (E1 != E1) = false := by simp
        have y2 : (E2 != E2) = false := by simp
        have y3 : (E3 != E3) = false := by simp
        clear hE1 hE2 hE3
        go_wp2_with fail
        refine HSG.out.mono ?_
        rintro e w5 ⟨rfl, q5, rfl⟩
        clear HSG
        go_wp2_with fail
        go_roundw
        case rel => exact ⟨j + 1, by omega, by go_num, hide (below_drewN HB4.out q5)⟩
        case measure => simp [intOf]; omega
      · obtain rfl : j = n6 := by omega
        go_wp2_with fail
        have HTK := hide (take_any (.slice ga l.length gc) l i0 B wr (HG.out.below HB.out hB) (by omega) (by omega))
        refine HTK.out.mono ?_
        rintro e w1 ⟨r, rfl, hb1, v1, rfl, hm1⟩
        have hs1 := hb1.size
        have HB1 := hide (HB.out.trans (hb1.mono hsz))
        have HM1 := hide hm1
        clear hb1 hm1 HTK
        go_wp2_with fail
        have HTK := hide (rtake_any (.slice ga l.length gc) l i0 B w1 (HG.out.below HB1.out hB) (by omega) (by omega))
        refine HTK.out.mono ?_
        rintro e w2 ⟨r, rfl, hb2, v2, rfl, hm2⟩
        have hs2 := hb2.size
        have HB2 := hide (HB1.out.trans (hb2.mono (show w.heap.size ≤ w1.heap.size by omega)))
        have HM2 := hide hm2
        have HM1b := hide (HM1.out.below hb2 (Nat.le_refl _))
        clear hb2 hm2 HTK HM1
        obtain ⟨TE, hTE⟩ : ∃ E, E = takeErr l i0 := ⟨_, rfl⟩
        rw [← hTE]
        have z1 : (TE == TE) = true := by simp
        clear hTE
        go_wp2_with fail
        have HC := hide (checks_any (.slice ga l.length gc) l B w2 (HG.out.below HB2.out hB) (by omega))
        refine HC.out.mono ?_
        rintro e w3 ⟨rfl, hb3⟩
        have hs3 := hb3.size
        have HB3 := hide (HB2.out.trans (hb3.mono (show w.heap.size ≤ w2.heap.size by omega)))
        have HM2c := hide (HM2.out.below hb3 (Nat.le_refl _))
        have HM1c := hide (HM1b.out.below hb3 (by omega))
        clear hb3 HC HM1b HM2
        go_wp2_with fail
        have HC := hide (rchecks_any (.slice ga l.length gc) l B w3 (HG.out.below HB3.out hB) (by omega))
        refine HC.out.mono ?_
        rintro e w4 ⟨rfl, hb4⟩
        have hs4 := hb4.size
        have HB4 := hide (HB3.out.trans (hb4.mono (show w.heap.size ≤ w3.heap.size by omega)))
        have HM2d := hide (HM2c.out.below hb4 (by omega))
        have HM1d := hide (HM1c.out.below hb4 (by omega))
        clear hb4 HC HM1c HM2c
        obtain ⟨CH, hCH⟩ : ∃ E, E = chks l := ⟨_, rfl⟩
        rw [← hCH]
        have z2 : (CH == CH) = true := by simp
        clear hCH
        have htl := takeL_len l i0
        have hsame := same_true v1 v2 (takeL l i0) (takeL l i0) w4.heap.size w4 (HM1d.out.mono (by omega)) (HM2d.out.mono (by omega)) (Nat.le_refl _) rfl (by omega) (fun _ _ => ⟨rfl, rfl, rfl, rfl, rfl, rfl⟩) (fun k hk => by have := takeL_gs HGF.out k hk; omega)
        have HS := hide hsame
        clear hsame HM1d HM2d
        go_wp2_with fail
        refine HS.out.mono ?_
        rintro e w5 ⟨rfl, q5, rfl⟩
        obtain ⟨w5, hw5⟩ : ∃ w5, w5 = w4.drewN q5 := ⟨_, rfl⟩
        rw [← hw5]
        have HB5 := hide (show Below w.heap.size w w5 by rw [hw5]; exact below_drewN HB4.out q5)
        have hs5 : w5.heap.size = w4.heap.size := by rw [hw5]; rfl
        clear hw5 HS
        go_wp2_with fail
        have HSC := hide (sec_any (.slice ga l.length gc) l wd0 dp0 B w5 (HG.out.below HB5.out hB) (by omega) (by omega))
        refine HSC.out.mono ?_
        rintro e w6 ⟨r6, rfl, hb6, ho6⟩
        have hs6 := hb6.size
        have HB6 := hide (HB5.out.trans (hb6.mono (show w.heap.size ≤ w5.heap.size by omega)))
        have HO6 := hide (SlAt.of_owns ho6)
        clear hb6 ho6 HSC
        go_wp2_with fail
        have HSC := hide (rsec_any (.slice ga l.length gc) l wd0 dp0 B w6 (HG.out.below HB6.out hB) (by omega) (by omega))
        refine HSC.out.mono ?_
        rintro e w7 ⟨r7, rfl, hb7, ho7⟩
        have hs7 := hb7.size
        have HB7 := hide (HB6.out.trans (hb7.mono (show w.heap.size ≤ w6.heap.size by omega)))
        have HO7 := hide (SlAt.of_owns ho7)
        have HO6b := hide (HO6.out.below hb7 (Nat.le_refl _))
        clear hb7 ho7 HSC HO6
        go_wp2_with fail
        have HEQ := hide (eqInts_any r6 r7 (secTo l wd0 dp0 l.length) w7.heap.size w7 (HO6b.out.mono (by omega)) HO7.out (by have := secTo_len l wd0 dp0 l.length; omega))
        refine HEQ.out.mono ?_
        rintro e w8 ⟨rfl, q8, rfl⟩
        obtain ⟨w8, hw8⟩ : ∃ w8, w8 = w7.drewN q8 := ⟨_, rfl⟩
        rw [← hw8]
        have HB8 := hide (show Below w.heap.size w w8 by rw [hw8]; exact below_drewN HB7.out q8)
        have hs8 : w8.heap.size = w7.heap.size := by rw [hw8]; rfl
        clear hw8 HEQ
        have HA := hide (awake_any B w8 (HT.out.on (HB8.out.mono hB)) (by omega))
        go_wp2_with fail
        refine HA.out.mono ?_
        rintro e w9 ⟨rfl, hb9⟩
        have HB9 := hide (HB8.out.trans (hb9.mono (show w.heap.size ≤ w8.heap.size by omega)))
        clear hb9 HA
        go_wp2
        go_ret
        exact ⟨rfl, HB9.out⟩
end Go.Proofs.YtfljmbdnnjjmoaaDoor
