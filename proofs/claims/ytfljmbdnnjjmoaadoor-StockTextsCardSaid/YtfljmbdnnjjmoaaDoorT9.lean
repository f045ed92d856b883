/-
  The law StockTexts: the walk.
-/
import Derived.Test.YtfljmbdnnjjmoaaDoorT8
namespace Go.Proofs.YtfljmbdnnjjmoaaDoor
open Go.RowKit Go.KP Go.Shelf

theorem parsed_small (l : List UInt8) : (parsedL l).length ≤ 64 ∧ ∀ i, i < (parsedL l).length → (bAt (parsedL l) i).gs.length ≤ 16 := by
  unfold parsedL
  by_cases h : parsedE l = 0
  · rw [if_pos h]
    cases ht : textL l with
    | none => simp
    | some bs =>
      simp only
      unfold parsedE at h
      split at h
      · cases h
      · rw [ht] at h
        simp only at h
        unfold chks at h
        split at h
        · cases h
        · refine ⟨by omega, fun i hi => ?_⟩
          have key : ∀ (l : List Br), firstErr l = 0 → ∀ i, i < l.length → (bAt l i).chk = 0 := by
            intro l
            induction l with
            | nil => intro _ i hi; simp at hi
            | cons x r ih =>
              intro h i hi
              simp only [firstErr] at h
              by_cases hx : x.chk = 0
              · rw [if_pos hx] at h
                cases i with
                | zero => simpa [bAt] using hx
                | succ i =>
                  have := ih h i (by simpa using hi)
                  simpa [bAt] using this
              · rw [if_neg hx] at h
                exact absurd h hx
          exact (chk_zero.1 (key _ h i hi)).2.1
  · rw [if_neg h]
    simp
theorem same_parsed (va vb : Value) (l : List UInt8) (a b : List Br) (B : Nat) (w : World) (h1 : BarsAt B w va a) (h2 : BarsAt B w vb b) (hB : B ≤ w.heap.size) (ha : AlikeAll a (parsedL l)) (hb : AlikeAll b (parsedL l)) :
    Calls Tryd.prog 31 #[va, vb] w fun e w' => e = .returned (.bool true) ∧ ∃ n, w' = w.drewN n := by
  have hs := parsed_small l
  have hab := ha.both hb
  refine same_true va vb a b B w h1 h2 hB hab.1 (by rw [hb.1]; omega) hab.2 (fun i hi => ?_)
  rw [(hb.2 i (by rw [← hb.1]; exact hi)).gs]
  have := hs.2 i (by rw [← hb.1]; exact hi)
  omega
theorem fill_count (t kf : Int) : ∀ (ls : List Int) (p : Int), (fill t kf p ls).1.length + (fill t kf p ls).2.length = ls.length := by
  intro ls
  induction ls with
  | nil => intro p; rfl
  | cons n r ih =>
    intro p
    unfold fill
    split
    · have := ih (p + (n + kf))
      simp only [List.length_cons]
      omega
    · simp
theorem fits_count (kf : Int) : ∀ (ps : List (Int × Int)) (ls : List Int), (fits kf ps ls).1.length + (fits kf ps ls).2.length = ls.length := by
  intro ps
  induction ps with
  | nil => intro ls; simp [fits]
  | cons p r ih =>
    intro ls
    obtain ⟨f, t⟩ := p
    have h1 := fill_count t kf ls f
    have h2 := ih (fill t kf f ls).2
    simp only [fits, List.length_append]
    omega
theorem fitsL_len (c k ln : Int) (gs : List (Int × Int)) (ls : List Int) : (fitsL c k ln gs ls).length ≤ ls.length := by
  unfold fitsL
  split
  · have := fits_count k (parts ln gs) ls
    omega
  · simp
set_option maxRecDepth 100000 in
set_option maxHeartbeats 4000000 in
theorem law10_any (v : Value) (l : List Br) (s : ByteArray) (A : Option Addr) (n c : Nat) (ls : List Int) (kf : Int) (B : Nat) (w : World) (hg : BarsAt B w v l) (hB : B ≤ w.heap.size) (hT : PT B w) (hl : l.length ≤ 9223372036854775807) (hcap : ∀ a n c, v = .slice a n c → n ≤ c)
    (hs : s.size ≤ 9223372036854775807) (hn : ls.length = n) (hnm : n ≤ 9223372036854775807) (hls : IntsIn B w A n ls) :
    Calls Tryd.prog 10 #[v, .string s, .slice A n c, .int .i64 kf] w (Ret w (.bool true)) := by
  obtain ⟨ga, gc, hgv⟩ := SlAt.form hg.1
  have hgc := hcap _ _ _ hgv
  subst hgv
  have HG := hide hg; have HT := hide hT; have HN := hide hn; have HLS := hide hls
  clear hg hT hcap hn hls
  go_enter Tryd.func10, Tryd.ntmps10
  go_wp2_with fail
  refine (great_any (.slice ga l.length gc) l B w HG.out hB).mono ?_
  rintro e w1 ⟨rfl, rfl⟩
  have HA := hide (awake_any B w HT.out.p10 hB)
  cases hgr : greatB l with
  | true =>
    clear hgr
    go_wp2_with fail
    refine HA.out.mono ?_
    rintro e w2 ⟨rfl, hb2⟩
    have HB2 := hide hb2
    clear hb2 HA
    go_wp2
    go_ret
    exact ⟨rfl, HB2.out⟩
  | false =>
    have hgf := great_false hgr
    have hl66 : l.length ≤ 66 := by have := hgf.1; omega
    have HGF := hide hgf.2
    clear hgr hgf
    have hways : (300 < s.size ∧ s.size ≤ 65536) ∨ 65538 < s.size ∨ ((s.size ≤ 300 ∨ (65536 < s.size ∧ s.size ≤ 65538)) ∧ ((10 < n ∧ n ≤ 64) ∨ 66 < n ∨ n ≤ 10 ∨ (64 < n ∧ n ≤ 66))) := by omega
    rcases hways with ⟨x1, x2⟩ | x1 | ⟨⟨x1⟩ | ⟨x1, x2⟩, ⟨x3, x4⟩ | x3 | x3 | ⟨x3, x4⟩⟩
    case false.inl =>
      have q1 : decide ((s.size : Int) > 300) = true := by simp; omega
      have q2 : decide ((s.size : Int) ≤ 65536) = true := by simp; omega
      go_wp2_with fail
      refine HA.out.mono ?_
      rintro e w2 ⟨rfl, hb2⟩
      have HB2 := hide hb2
      clear hb2 HA
      go_wp2
      go_ret
      exact ⟨rfl, HB2.out⟩
    case false.inr.inl =>
      have q1 : decide ((s.size : Int) > 300) = true := by simp; omega
      have q2 : ((s.size : Int) ≤ 65536) = False := eq_false (by omega)
      have q3 : decide ((s.size : Int) > 65538) = true := by simp; omega
      go_wp2_with fail
      refine HA.out.mono ?_
      rintro e w2 ⟨rfl, hb2⟩
      have HB2 := hide hb2
      clear hb2 HA
      go_wp2
      go_ret
      exact ⟨rfl, HB2.out⟩
    case' false.inr.inr.inl.inl =>
      have q1 : ((300 : Int) < (s.size : Int)) = False := eq_false (by omega)
      have q3 : ((65538 : Int) < (s.size : Int)) = False := eq_false (by omega)
      have r1 : decide ((n : Int) > 10) = true := by simp; omega
      have r2 : decide ((n : Int) ≤ 64) = true := by simp; omega
    case' false.inr.inr.inr.inl =>
      have q1 : decide ((s.size : Int) > 300) = true := by simp; omega
      have q2 : ((s.size : Int) ≤ 65536) = False := eq_false (by omega)
      have q3 : ((65538 : Int) < (s.size : Int)) = False := eq_false (by omega)
      have r1 : decide ((n : Int) > 10) = true := by simp; omega
      have r2 : decide ((n : Int) ≤ 64) = true := by simp; omega
    case' false.inr.inr.inl.inr.inl =>
      have q1 : ((300 : Int) < (s.size : Int)) = False := eq_false (by omega)
      have q3 : ((65538 : Int) < (s.size : Int)) = False := eq_false (by omega)
      have r1 : decide ((n : Int) > 10) = true := by simp; omega
      have r2 : ((n : Int) ≤ 64) = False := eq_false (by omega)
      have r3 : decide ((n : Int) > 66) = true := by simp; omega
    case' false.inr.inr.inr.inr.inl =>
      have q1 : decide ((s.size : Int) > 300) = true := by simp; omega
      have q2 : ((s.size : Int) ≤ 65536) = False := eq_false (by omega)
      have q3 : ((65538 : Int) < (s.size : Int)) = False := eq_false (by omega)
      have r1 : decide ((n : Int) > 10) = true := by simp; omega
      have r2 : ((n : Int) ≤ 64) = False := eq_false (by omega)
      have r3 : decide ((n : Int) > 66) = true := by simp; omega
    case false.inr.inr.inl.inl | false.inr.inr.inr.inl | false.inr.inr.inl.inr.inl | false.inr.inr.inr.inr.inl =>
      go_wp2_with fail
      refine HA.out.mono ?_
      rintro e w2 ⟨rfl, hb2⟩
      have HB2 := hide hb2
      clear hb2 HA
      go_wp2
      go_ret
      exact ⟨rfl, HB2.out⟩
    case' false.inr.inr.inl.inr.inr.inl =>
      have q1 : ((300 : Int) < (s.size : Int)) = False := eq_false (by omega)
      have q3 : ((65538 : Int) < (s.size : Int)) = False := eq_false (by omega)
      have r1 : ((10 : Int) < (n : Int)) = False := eq_false (by omega)
      have r3 : ((66 : Int) < (n : Int)) = False := eq_false (by omega)
    case' false.inr.inr.inl.inr.inr.inr =>
      have q1 : ((300 : Int) < (s.size : Int)) = False := eq_false (by omega)
      have q3 : ((65538 : Int) < (s.size : Int)) = False := eq_false (by omega)
      have r1 : decide ((n : Int) > 10) = true := by simp; omega
      have r2 : ((n : Int) ≤ 64) = False := eq_false (by omega)
      have r3 : ((66 : Int) < (n : Int)) = False := eq_false (by omega)
    case' false.inr.inr.inr.inr.inr.inl =>
      have q1 : decide ((s.size : Int) > 300) = true := by simp; omega
      have q2 : ((s.size : Int) ≤ 65536) = False := eq_false (by omega)
      have q3 : ((65538 : Int) < (s.size : Int)) = False := eq_false (by omega)
      have r1 : ((10 : Int) < (n : Int)) = False := eq_false (by omega)
      have r3 : ((66 : Int) < (n : Int)) = False := eq_false (by omega)
    case' false.inr.inr.inr.inr.inr.inr =>
      have q1 : decide ((s.size : Int) > 300) = true := by simp; omega
      have q2 : ((s.size : Int) ≤ 65536) = False := eq_false (by omega)
      have q3 : ((65538 : Int) < (s.size : Int)) = False := eq_false (by omega)
      have r1 : decide ((n : Int) > 10) = true := by simp; omega
      have r2 : ((n : Int) ≤ 64) = False := eq_false (by omega)
      have r3 : ((66 : Int) < (n : Int)) = False := eq_false (by omega)
    all_goals
      clear HA
      have hsz : s.size ≤ 1000000 := by omega
      have hn66 : n ≤ 66 := by omega
      go_wp2_with fail
      refine (print_all _ l B w HG.out hB HT.out.p10).mono ?_
      rintro e w1 ⟨rfl, hb1⟩
      have HB1 := hide hb1
      have hs1 := hb1.size
      clear hb1
      go_wp2_with fail
      refine (rprint_all _ l B w1 (HG.out.below HB1.out hB) (by omega) (HT.out.on (HB1.out.mono hB)).p10 hl66).mono ?_
      rintro e w2 ⟨rfl, hb2⟩
      have HB2 := hide (HB1.out.trans (hb2.mono hs1))
      have hs2 := hb2.size
      obtain ⟨PS, hPS⟩ : ∃ x, x = printS l := ⟨_, rfl⟩
      obtain ⟨PE, hPE⟩ : ∃ x, x = printE l := ⟨_, rfl⟩
      rw [← hPS, ← hPE]
      clear hb2 HB1 hPS hPE
      go_wp2_with fail
      refine (parse_any s hsz B w2 (HT.out.on (HB2.out.mono hB)) (by omega)).mono ?_
      rintro e w3 ⟨r, rfl, hb3, m1, L1, rfl, hm1, ha1⟩
      have HB3 := hide (HB2.out.trans (hb3.mono (by omega)))
      have hs3 := hb3.size
      have HM1 := hide hm1; have HL1 := hide ha1
      clear hb3 HB2 hm1 ha1
      go_wp2_with fail
      refine (rparse_any s hsz B w3 (HT.out.on (HB3.out.mono hB)) (by omega)).mono ?_
      rintro e w4 ⟨r, rfl, hb4, m2, L2, rfl, hm2, ha2⟩
      have HB4 := hide (HB3.out.trans (hb4.mono (by omega)))
      have hs4 := hb4.size
      have HM2 := hide hm2; have HL2 := hide ha2
      have HM1b := hide (HM1.out.below hb4 (Nat.le_refl _))
      obtain ⟨PX, hPX⟩ : ∃ x, x = parsedE s.data.toList := ⟨_, rfl⟩
      rw [← hPX]
      clear hb4 HB3 hm2 ha2 HM1 hPX
      obtain ⟨a1, c1, hmf1⟩ := SlAt.form HM1b.out.1
      obtain ⟨a2, c2, hmf2⟩ := SlAt.form HM2.out.1
      subst hmf1; subst hmf2
      go_wp2_with fail
      obtain ⟨n6, hn6⟩ : ∃ n6, n6 = min l.length 6 := ⟨_, rfl⟩
      have q1 : max (min (l.length : Int) 6) 0 = (n6 : Int) := by omega
      have q2 : (min (l.length : Int) 6).toNat = n6 := by omega
      have q3 : min (l.length : Int) 6 = (n6 : Int) := by omega
      rw [q1, q2, q3]
      have hn6l : n6 ≤ l.length := by omega
      clear q1 q2 q3 hn6
      go_loopw [84] (fun i wr => ∃ j : Nat, j ≤ n6 ∧ i = .int .i64 j ∧ Hid (Below w4.heap.size w4 wr)) (fun i _ => n6 - (intOf i).toNat)
      case atStart => exact ⟨0, Nat.zero_le _, rfl, Below.refl _ _⟩
      case round =>
        obtain ⟨j, hj, rfl, HBw⟩ := hrel
        have hsz4 := HBw.out.size
        have HB := hide (HB4.out.trans (HBw.out.mono (show w.heap.size ≤ w4.heap.size by omega)))
        by_cases hlt : j < n6
        · have hjl : j < l.length := by omega
          rcases (HG.out.below HB.out hB).rows with ⟨_, _, _, h0⟩ | ⟨b, o, cap, hv, hb, hc⟩
          · rw [h0] at hjl
            simp at hjl
          simp only [Value.slice.injEq] at hv
          obtain ⟨rfl, t1, rfl⟩ := hv
          obtain ⟨x1, x2, x3, x4, x5, x6⟩ := hc j hjl
          have hgj := (HG.out.below HB.out hB).2 j hjl
          obtain ⟨ba, bc, hbv⟩ := SlAt.form hgj
          rw [hbv] at x6 hgj
          obtain ⟨wd, hwd⟩ : ∃ f, f = (bAt l j).wd := ⟨_, rfl⟩
          obtain ⟨dp, hdp⟩ : ∃ f, f = (bAt l j).dp := ⟨_, rfl⟩
          obtain ⟨ln, hln⟩ : ∃ f, f = (bAt l j).ln := ⟨_, rfl⟩
          obtain ⟨ct, hct⟩ : ∃ f, f = (bAt l j).ct := ⟨_, rfl⟩
          obtain ⟨cs, hcs⟩ : ∃ f, f = (bAt l j).cs := ⟨_, rfl⟩
          obtain ⟨gs, hgs⟩ : ∃ f, f = (bAt l j).gs := ⟨_, rfl⟩
          rw [← hwd] at x1
          rw [← hdp] at x2
          rw [← hln] at x3
          rw [← hct] at x4
          rw [← hcs] at x5
          rw [← hgs] at x6 hgj
          have e3 : (j : Int) < (n6 : Int) := by omega
          have hbb : b < wr.heap.size := by omega
          have HGJ := hide hgj
          clear hc t1 hbv hwd hdp hln hct hcs hgs hgj
          go_wp2_with fail
          obtain ⟨m1, m2, m3⟩ := heap1 wr (.cells #[.int .i64 wd, .int .i64 dp, .int .i64 ln, .int .i64 ct, .int .i64 cs, .slice ba gs.length bc] 24)
          obtain ⟨w0, hw0⟩ : ∃ w0, wr.alloc (.cells #[.int .i64 wd, .int .i64 dp, .int .i64 ln, .int .i64 ct, .int .i64 cs, .slice ba gs.length bc] 24) = w0 := ⟨_, rfl⟩
          rw [hw0] at m1 m2 m3 ⊢
          have HB0 := hide (HBw.out.trans (m3.mono hsz4))
          have HGJ0 := hide ((HGJ.out.mono (show B ≤ wr.heap.size by omega)).below m3 (Nat.le_refl _))
          have M0 := hide m1
          have HI0 := hide ((HLS.out.below HB.out hB).below m3 (by omega))
          clear hw0 m1 m3 HGJ x1 x2 x3 x4 x5 x6
          have HF := hide (fits_res_any wd dp ln ct cs kf (.slice ba gs.length bc) gs A n c ls wr.heap.size w0 HGJ0.out (by omega) HN.out (HI0.out.mono (by omega)))
          refine HF.out.mono ?_
          rintro e w1 ⟨r, rfl, hb1, v1, rfl, hv1⟩
          have hs1 := hb1.size
          have HB1 := hide (HB0.out.trans (hb1.mono (by omega)))
          have HV1 := hide hv1
          have M1 := hide (below_blk hb1 M0.out (by omega))
          have c1 := fun o => cell_blk M1.out o
          have l1 := lt_blk M1.out
          have HGJ1 := hide (HGJ0.out.below hb1 (by omega))
          have HI1 := hide (HI0.out.below hb1 (by omega))
          clear hb1 hv1 HF M0 HGJ0 HI0
          go_wp2_with fail
          have HF := hide (rfits_any wd dp ln ct cs kf (.slice ba gs.length bc) gs A n c ls wr.heap.size w1 HGJ1.out (by omega) HN.out (by omega) (HI1.out.mono (by omega)))
          refine HF.out.mono ?_
          rintro e w2 ⟨r, rfl, hb2, v2, rfl, hv2⟩
          have hs2 := hb2.size
          have HB2 := hide (HB1.out.trans (hb2.mono (by omega)))
          have HV2 := hide hv2
          have HV1b := hide (HV1.out.below hb2 (Nat.le_refl _))
          clear hb2 hv2 HF M1 HGJ1 HV1 c1 HI1
          obtain ⟨E1, hE1⟩ : ∃ E, E = fitErr (chk wd dp ln ct cs gs) kf ls := ⟨_, rfl⟩
          obtain ⟨E2, hE2⟩ : ∃ E, E = fitsIs (chk wd dp ln ct cs gs) kf ln gs ls := ⟨_, rfl⟩
          rw [← hE1, ← hE2]
          have y1 : (E1 != E1) = false := by simp
          have y2 : (E2 != E2) = false := by simp
          have HEQ := hide (eqInts_any v1 v2 (fitsL (chk wd dp ln ct cs gs) kf ln gs ls) w2.heap.size w2 (HV1b.out.mono (by omega)) HV2.out (by have := fitsL_len (chk wd dp ln ct cs gs) kf ln gs ls; have := HN.out; omega))
          clear hE1 hE2
          go_wp2_with fail
          refine HEQ.out.mono ?_
          rintro e w5 ⟨rfl, q5, rfl⟩
          clear HEQ
          cases E2 <;> (
            go_wp2_with fail
            go_roundw
            case rel => exact ⟨j + 1, by omega, by go_num, hide (below_drewN HB2.out q5)⟩
            case measure => simp [intOf]; omega)
        · obtain rfl : j = n6 := by omega
          have HM1c := hide (HM1b.out.below HBw.out (by omega))
          have HM2c := hide (HM2.out.below HBw.out (by omega))
          have HS := hide (same_parsed _ _ s.data.toList L1 L2 wr.heap.size wr (HM1c.out.mono (by omega)) (HM2c.out.mono (by omega)) (Nat.le_refl _) HL1.out HL2.out)
          have z1 : (PS.toList == PS.toList) = true := by simp
          have z2 : (PE == PE) = true := by simp
          have z3 : (PX == PX) = true := by simp
          go_wp2_with fail
          refine HS.out.mono ?_
          rintro e w5 ⟨rfl, q5, rfl⟩
          obtain ⟨w5, hw5⟩ : ∃ w5, w5 = wr.drewN q5 := ⟨_, rfl⟩
          rw [← hw5]
          have HB5 := hide (show Below w.heap.size w w5 by rw [hw5]; exact below_drewN HB.out q5)
          have hs5 := HB5.out.size
          clear hw5 HS
          have HA := hide (awake_any B w5 (HT.out.on (HB5.out.mono hB)).p10 (by omega))
          go_wp2_with fail
          refine HA.out.mono ?_
          rintro e w9 ⟨rfl, hb9⟩
          have HB9 := hide (HB5.out.trans (hb9.mono hs5))
          clear hb9 HA
          go_wp2
          go_ret
          exact ⟨rfl, HB9.out⟩
end Go.Proofs.YtfljmbdnnjjmoaaDoor
