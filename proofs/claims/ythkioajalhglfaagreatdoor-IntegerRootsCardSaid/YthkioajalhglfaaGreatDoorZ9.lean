/-
  Texts of the integers, laid together: Po, Pq, Qe, Pr, Ps, Pt, Pu, Pv, Pw, L9.
-/
import Derived.BigQuiet
import Derived.Test.YthkioajalhglfaaGreatDoorZ8
namespace Go.Proofs.YthkioajalhglfaaGreatDoor
open Go.RowKit Go.KP Go.KI Go.Shelf
attribute [local go_sem] Oper.semAt_some

/-- What Compare answers. -/
def cmpV (a b : List UInt8) : Int := if bothI a b = 0 then Lib.compareInt (valI a) (valI b) else 0
set_option maxRecDepth 100000 in
set_option maxHeartbeats 2000000 in
theorem Compare_any (s t : ByteArray) (w : World) (hs : s.size ≤ 1000000) (ht : t.size ≤ 1000000) :
    Calls Tryz.prog 30 #[.string s, .string t] w (Ret w (.tuple #[.int .i64 (cmpV s.data.toList t.data.toList), .int .i64 (bothI s.data.toList t.data.toList)])) := by
  have H1 := hide (both_any s t hs ht w)
  by_cases hE : bothI s.data.toList t.data.toList = 0
  · have e1 : cmpV s.data.toList t.data.toList = Lib.compareInt (valI s.data.toList) (valI t.data.toList) := if_pos hE
    obtain ⟨c1, c2, _, _⟩ := op2_good (f := (· + ·)) hE
    rw [e1, hE]
    have C1 := hide c1; have C2 := hide c2
    rw [hE] at H1
    clear e1 hE hs ht
    by_cases hsm : s.size ≤ 18 ∧ t.size ≤ 18
    · have H2 := hide (fun w => small_yes s t c1 c2 hsm.1 hsm.2 w)
      obtain ⟨x, hx⟩ : ∃ x, x = valI s.data.toList := ⟨_, rfl⟩
      obtain ⟨y, hy⟩ : ∃ y, y = valI t.data.toList := ⟨_, rfl⟩
      rw [← hx, ← hy] at H2 ⊢
      clear c1 c2 hsm hx hy
      go_enter Tryz.func30, Tryz.ntmps30
      go_wp2_with fail
      refine H1.out.mono ?_
      rintro e w1 ⟨rfl, hb1⟩
      have HB1 := hide hb1
      clear hb1 H1
      go_wp2_with fail
      refine (H2.out _).mono ?_
      rintro e w2 ⟨rfl, hb2⟩
      have HB2 := hide (HB1.out.trans (hb2.mono HB1.out.size))
      clear hb2 H2 HB1
      go_wp2_with fail
      refine (Tryz.cmp_Compare_int x y w2).mono ?_
      rintro e w3 ⟨rfl, rfl⟩
      go_wp2_with fail
      refine bodyPost_ret (results_tmp2 rfl _ _ _) rfl ?_
      exact ⟨rfl, HB2.out⟩
    · have H2 := hide (fun w => small_no s t hsm w)
      have R1 := hide (fun w => read_good s c1 w)
      have R2 := hide (fun w => read_good t c2 w)
      clear c1 c2 hsm
      go_enter Tryz.func30, Tryz.ntmps30
      go_wp2_with fail
      refine H1.out.mono ?_
      rintro e w1 ⟨rfl, hb1⟩
      have HB1 := hide hb1
      clear hb1 H1
      go_wp2_with fail
      refine (H2.out _).mono ?_
      rintro e w1 ⟨rfl, hb2⟩
      have HB1' := hide (HB1.out.trans (hb2.mono HB1.out.size))
      clear hb2 H2 HB1
      go_wp2_with fail
      refine (R1.out _).mono ?_
      rintro e w2 ⟨m1, a1, l1, rfl, hb2, o1, n1, q1, k1⟩
      have HB2 := hide (HB1'.out.trans (hb2.mono HB1'.out.size))
      have O1 := hide o1; have N1 := hide n1; have Q1 := hide q1
      clear hb2 HB1' R1 o1 n1 q1
      go_wp2_with fail
      refine (R2.out _).mono ?_
      rintro e w3 ⟨m2, a2, l2, rfl, hb3, o2, n2, q2, k2⟩
      have HB3 := hide (HB2.out.trans (hb3.mono HB2.out.size))
      have O1' := hide (O1.out.keep hb3)
      have O2 := hide o2; have N2 := hide n2; have Q2 := hide q2
      clear hb3 HB2 R2 o2 n2 q2 O1
      obtain ⟨av1, cv1, hvf, _, _⟩ := O1'.out.form
      subst hvf
      obtain ⟨av2, cv2, hvf, _, _⟩ := O2.out.form
      subst hvf
      obtain ⟨g0, g1, gs0, gb0⟩ := heap2 w3 (.cells #[.bool m1, .slice av1 l1.length cv1] 48) (.cells #[.bool m2, .slice av2 l2.length cv2] 48)
      have c0 := cell_blk g0 0
      have c1 := cell_blk g0 1
      have c2 := cell_blk g1 0
      have c3 := cell_blk g1 1
      have f2 := froz_blk g1 0
      obtain ⟨h0, h1, hs0, hb0⟩ := heap2 w3 (.cells #[.bool m1, .slice av1 l1.length cv1] 48) (.cells #[.bool (!m2), .slice av2 l2.length cv2] 48)
      have H0 := hide h0; have H1 := hide h1; have HS0 := hide hs0; have HB0 := hide hb0
      clear g0 g1 gs0 gb0 h0 h1 hs0 hb0
      go_wp2_with fail
      clear c0 c1 c2 c3 f2
      obtain ⟨w4, hw4⟩ : ∃ w4, (w3.alloc (.cells #[.bool m1, .slice av1 l1.length cv1] 48)).alloc (.cells #[.bool (!m2), .slice av2 l2.length cv2] 48) = w4 := ⟨_, rfl⟩
      rw [hw4] at H0 H1 HS0 HB0 ⊢
      have O3 := OwnL.keep O1'.out HB0.out
      have O4 := OwnL.keep O2.out HB0.out
      have HB4 := hide (HB3.out.trans (HB0.out.mono HB3.out.size))
      refine (add_any m1 (!m2) _ _ l1 l2 w4.heap.size w4 (.of_own O3) (.of_own O4) (Nat.le_refl _) N1.out N2.out (by omega) (by omega)).mono ?_
      rintro e w5 ⟨_, rfl, hb5, m3, a3, l3, rfl, o3, n3, q3, k3⟩
      obtain ⟨av3, cv3, hvf, _, _⟩ := o3.form
      subst hvf
      have hz : valS m3 (lv 1000000000 l3) = valI s.data.toList - valI t.data.toList := by
        rw [q3, Q1.out, valS_not, Q2.out]
        omega
      have HZ := hide hz
      have HB5 := hide (HB4.out.trans (hb5.mono HB4.out.size))
      obtain ⟨g0, gs0, gb0⟩ := heap1 w5 (.cells #[.bool m3, .slice av3 l3.length cv3] 48)
      have c0 := cell_blk g0 0
      have c1 := cell_blk g0 1
      have HB6 := hide (HB5.out.trans (gb0.mono HB5.out.size))
      obtain ⟨n3l, hn3l⟩ : ∃ n, n = l3.length := ⟨_, rfl⟩
      have hnorm := n3.zero (by omega)
      rw [← hn3l] at c0 c1 g0 gb0 HB6 ⊢
      have h30 : n3l = 0 ↔ lv 1000000000 l3 = 0 := by
        rw [hnorm, hn3l]
        exact ⟨List.eq_nil_of_length_eq_zero, fun e => by rw [e]; rfl⟩
      clear g0 gs0 gb0 hb5 o3 n3 q3 O3 O4 hw4 H0 H1 HS0 HB0 O1' O2 hnorm hn3l HB3 HB4 HB5 hz
      by_cases hl : n3l = 0
      · have hq : ((n3l : Int) == 0) = true := by rw [hl]; rfl
        have hv : Lib.compareInt (valI s.data.toList) (valI t.data.toList) = 0 := by
          have h2 := HZ.out
          rw [h30.1 hl] at h2
          have h3 : valI s.data.toList = valI t.data.toList := by
            cases m3 <;> simp [valS] at h2 <;> omega
          unfold Lib.compareInt
          rw [if_neg (by omega), if_neg (by omega)]
        have HV := hide hv
        clear hv h30 hl
        go_wp2_with fail
        refine bodyPost_ret (results_tmp2 rfl _ _ _) rfl ?_
        exact ⟨by rw [HV.out]; rfl, HB6.out⟩
      · have hq : ((n3l : Int) == 0) = false := by simpa using hl
        have hp : 0 < lv 1000000000 l3 := Nat.pos_of_ne_zero (fun e => hl (h30.2 e))
        clear hl h30
        cases m3
        · have hv : Lib.compareInt (valI s.data.toList) (valI t.data.toList) = 1 := by
            have h2 := HZ.out
            simp only [valS, Bool.false_eq_true, if_false] at h2
            unfold Lib.compareInt
            rw [if_neg (by omega), if_pos (by omega)]
          have HV := hide hv
          clear hv
          go_wp2_with fail
          refine bodyPost_ret (results_tmp2 rfl _ _ _) rfl ?_
          exact ⟨by rw [HV.out]; rfl, HB6.out⟩
        · have hv : Lib.compareInt (valI s.data.toList) (valI t.data.toList) = -1 := by
            have h2 := HZ.out
            simp only [valS, if_true] at h2
            unfold Lib.compareInt
            rw [if_pos (by omega)]
          have HV := hide hv
          clear hv
          go_wp2_with fail
          refine bodyPost_ret (results_tmp2 rfl _ _ _) rfl ?_
          exact ⟨by rw [HV.out]; rfl, HB6.out⟩
  · have e1 : cmpV s.data.toList t.data.toList = 0 := if_neg hE
    rw [e1]
    have hne : (bothI s.data.toList t.data.toList != 0) = true := by simpa using hE
    obtain ⟨E, hEE⟩ : ∃ E, E = bothI s.data.toList t.data.toList := ⟨_, rfl⟩
    rw [← hEE] at H1 hne ⊢
    clear e1 hE hEE
    go_enter Tryz.func30, Tryz.ntmps30
    go_wp2_with fail
    refine H1.out.mono ?_
    rintro e w1 ⟨rfl, hb1⟩
    have HB1 := hide hb1
    clear hb1 H1
    go_wp2_with fail
    refine bodyPost_ret (results_tmp2 rfl _ _ _) rfl ?_
    exact ⟨rfl, HB1.out⟩
end Go.Proofs.YthkioajalhglfaaGreatDoor
namespace Go.Proofs.YthkioajalhglfaaGreatDoor
open Go.RowKit Go.KP Go.KI Go.Shelf
attribute [local go_sem] Oper.semAt_some

theorem natAbs_tmod_lt (x : Int) {y : Int} (hy : y ≠ 0) : (x.tmod y).natAbs < y.natAbs := by
  rw [Int.natAbs_tmod]
  exact Nat.mod_lt _ (by omega)
theorem natAbs_tdiv_le (x y : Int) : (x.tdiv y).natAbs ≤ x.natAbs := by
  rw [Int.natAbs_tdiv]
  exact Nat.div_le_self _ _
/-- The floor's quotient, from the cut-off one. -/
theorem floor_same {x y : Int} (hy : y ≠ 0) (h : x.tmod y = 0 ∨ (x.tmod y < 0 ↔ y < 0)) : x.tdiv y = x.fdiv y ∧ x.tmod y = x.fmod y := by
  have h1 := Int.mul_tdiv_add_tmod x y
  have h2 := natAbs_tmod_lt x hy
  rcases Int.lt_or_gt_of_ne hy with hn | hp
  · have := (Int.fdiv_fmod_unique' (a := x) (r := x.tmod y) (q := x.tdiv y) hn).2 ⟨by omega, by omega, by omega⟩
    exact ⟨this.1.symm, this.2.symm⟩
  · have := (Int.fdiv_fmod_unique (a := x) (r := x.tmod y) (q := x.tdiv y) hp).2 ⟨by omega, by omega, by omega⟩
    exact ⟨this.1.symm, this.2.symm⟩
theorem floor_less {x y : Int} (hy : y ≠ 0) (h0 : x.tmod y ≠ 0) (h : ¬ (x.tmod y < 0 ↔ y < 0)) : x.tdiv y - 1 = x.fdiv y ∧ x.tmod y + y = x.fmod y := by
  have h1 := Int.mul_tdiv_add_tmod x y
  have h2 := natAbs_tmod_lt x hy
  have h3 : y * (x.tdiv y - 1) = y * x.tdiv y - y := by rw [Int.mul_sub, Int.mul_one]
  rcases Int.lt_or_gt_of_ne hy with hn | hp
  · have := (Int.fdiv_fmod_unique' (a := x) (r := x.tmod y + y) (q := x.tdiv y - 1) hn).2 ⟨by omega, by omega, by omega⟩
    exact ⟨this.1.symm, this.2.symm⟩
  · have := (Int.fdiv_fmod_unique (a := x) (r := x.tmod y + y) (q := x.tdiv y - 1) hp).2 ⟨by omega, by omega, by omega⟩
    exact ⟨this.1.symm, this.2.symm⟩
/-- Three values: two texts and an error. -/
abbrev tripV (s r : List UInt8) (e : Int) : Value := .tuple #[.string (strB s), .string (strB r), .int .i64 e]
theorem results_tmp3' {fn : Func} {t u v : Tmp} (h : fn.results = #[.tmp t, .tmp u, .tmp v]) (tmps : Array Value) (P : Program) (w : World) :
    (results fn tmps).run P w = .ok (.tuple #[tmps.getD t undef, tmps.getD u undef, tmps.getD v undef]) w := by
  simp [results, h, go_sem]
set_option maxRecDepth 100000 in
set_option maxHeartbeats 2000000 in
theorem Divide_small (s t : ByteArray) (B : Nat) (w : World) (c1 : chkI s.data.toList = 0) (c2 : chkI t.data.toList = 0) (hs : s.size ≤ 18) (ht : t.size ≤ 18) (h0 : t.data.toList ≠ [48]) (hB : B ≤ w.heap.size) (hT : P10 B w) :
    Calls Tryz.prog 17 #[.string s, .string t] w (Ret w (tripV (Lib.itoa ((valI s.data.toList).fdiv (valI t.data.toList))) (Lib.itoa ((valI s.data.toList).fmod (valI t.data.toList))) 0)) := by
  have H1 := hide (both_any s t (by omega) (by omega) w)
  have hb0 : bothI s.data.toList t.data.toList = 0 := by unfold bothI; rw [if_pos c1, c2]
  rw [hb0] at H1
  have HT := hide hT
  have H2 := hide (fun w => small_yes s t c1 c2 hs ht w)
  have v1 := short_val (n := 18) c1 (by rw [bytes_len]; exact hs) (by omega)
  have v2 := short_val (n := 18) c2 (by rw [bytes_len]; exact ht) (by omega)
  rw [pow18] at v1 v2
  have hy0 : valI t.data.toList ≠ 0 := by
    intro e
    have := (chk_ok c2).1
    rw [e, itoa_zero] at this
    exact h0 this
  have hq : (t.toList == [48]) = false := by rw [ByteArray.toList_eq]; simpa using h0
  obtain ⟨x, hx⟩ : ∃ x, x = valI s.data.toList := ⟨_, rfl⟩
  obtain ⟨y, hy⟩ : ∃ y, y = valI t.data.toList := ⟨_, rfl⟩
  rw [← hx, ← hy] at H2 ⊢
  rw [← hx] at v1
  rw [← hy] at v2 hy0
  have r1 := natAbs_tmod_lt x hy0
  have q1 := natAbs_tdiv_le x y
  have hyq : (y == 0) = false := by simpa using hy0
  clear c1 c2 hs ht h0 hT hx hy hb0
  go_enter Tryz.func17, Tryz.ntmps17
  go_wp2_with fail
  refine H1.out.mono ?_
  rintro e w1 ⟨rfl, hb1⟩
  have HB1 := hide hb1
  clear hb1 H1
  go_wp2_with fail
  refine (H2.out _).mono ?_
  rintro e w2 ⟨rfl, hb2⟩
  have HB2 := hide (HB1.out.trans (hb2.mono HB1.out.size))
  clear hb2 H2 HB1
  go_wp2_with fail
  go_quiet (fail)
  obtain ⟨w3, hw3⟩ : ∃ w3, w3 = w2.drewN nq := ⟨_, rfl⟩
  rw [← hw3]
  have HB3 := hide (show Below w.heap.size w w3 by rw [hw3]; exact ⟨HB2.out.os, HB2.out.tape, HB2.out.output, HB2.out.size, HB2.out.block⟩)
  clear hw3 HB2
  have FS := hide (floor_same (x := x) hy0); have FL := hide (floor_less (x := x) hy0)
  obtain ⟨q, hq2⟩ : ∃ q, q = x.tdiv y := ⟨_, rfl⟩
  obtain ⟨r, hr2⟩ : ∃ r, r = x.tmod y := ⟨_, rfl⟩
  rw [← hq2] at q1
  rw [← hr2] at r1
  rw [← hq2, ← hr2] at FS FL ⊢
  clear hq2 hr2 hyq hy0 hq
  obtain ⟨g, hg⟩ : ∃ g, g = x.fdiv y := ⟨_, rfl⟩
  obtain ⟨h, hh⟩ : ∃ h, h = x.fmod y := ⟨_, rfl⟩
  rw [← hg, ← hh] at FS FL
  have HG := hide hg; have HH := hide hh
  clear hg hh
  by_cases hr0 : r = 0
  · obtain ⟨f1, f2⟩ := FS.out (.inl hr0)
    have t1 : (r != 0) = false := by simp [hr0]
    have F1 := hide (f1.trans HG.out); have F2 := hide (f2.trans HH.out)
    clear hr0 f1 f2
    go_wp2_with fail
    refine (itoa_any q (by omega) (by omega) B _ (HT.out.on HB3.out hB)).mono ?_
    rintro e w4 ⟨rfl, hb4⟩
    have HB4 := hide (HB3.out.trans (hb4.mono HB3.out.size))
    clear hb4 HB3
    go_wp2_with fail
    refine (itoa_any r (by omega) (by omega) B _ (HT.out.on HB4.out hB)).mono ?_
    rintro e w5 ⟨rfl, hb5⟩
    have HB5 := hide (HB4.out.trans (hb5.mono HB4.out.size))
    clear hb5 HB4
    go_wp2_with fail
    refine bodyPost_ret (results_tmp3' rfl _ _ _) rfl ?_
    exact ⟨by rw [← F1.out, ← F2.out]; rfl, HB5.out⟩
  · have t1 : (r != 0) = true := by simpa using hr0
    by_cases h1 : r < 0
    · by_cases h2 : y < 0
      · obtain ⟨f1, f2⟩ := FS.out (.inr ⟨fun _ => h2, fun _ => h1⟩)
        have F1 := hide (f1.trans HG.out); have F2 := hide (f2.trans HH.out)
        clear hr0 f1 f2
        go_wp2_with fail
        refine (itoa_any q (by omega) (by omega) B _ (HT.out.on HB3.out hB)).mono ?_
        rintro e w4 ⟨rfl, hb4⟩
        have HB4 := hide (HB3.out.trans (hb4.mono HB3.out.size))
        clear hb4 HB3
        go_wp2_with fail
        refine (itoa_any r (by omega) (by omega) B _ (HT.out.on HB4.out hB)).mono ?_
        rintro e w5 ⟨rfl, hb5⟩
        have HB5 := hide (HB4.out.trans (hb5.mono HB4.out.size))
        clear hb5 HB4
        go_wp2_with fail
        refine bodyPost_ret (results_tmp3' rfl _ _ _) rfl ?_
        exact ⟨by rw [← F1.out, ← F2.out]; rfl, HB5.out⟩
      · obtain ⟨f1, f2⟩ := FL.out hr0 (fun e => h2 (e.1 h1))
        have F1 := hide (f1.trans HG.out); have F2 := hide (f2.trans HH.out)
        have t2 : (y < 0) = False := eq_false h2
        clear hr0 f1 f2 h2
        go_wp2_with fail
        refine (itoa_any (q-1) (by omega) (by omega) B _ (HT.out.on HB3.out hB)).mono ?_
        rintro e w4 ⟨rfl, hb4⟩
        have HB4 := hide (HB3.out.trans (hb4.mono HB3.out.size))
        clear hb4 HB3
        go_wp2_with fail
        refine (itoa_any (r+y) (by omega) (by omega) B _ (HT.out.on HB4.out hB)).mono ?_
        rintro e w5 ⟨rfl, hb5⟩
        have HB5 := hide (HB4.out.trans (hb5.mono HB4.out.size))
        clear hb5 HB4
        go_wp2_with fail
        refine bodyPost_ret (results_tmp3' rfl _ _ _) rfl ?_
        exact ⟨by rw [← F1.out, ← F2.out]; rfl, HB5.out⟩
    · by_cases h2 : y < 0
      · obtain ⟨f1, f2⟩ := FL.out hr0 (fun e => h1 (e.2 h2))
        have F1 := hide (f1.trans HG.out); have F2 := hide (f2.trans HH.out)
        have t2 : (r < 0) = False := eq_false h1
        clear hr0 f1 f2 h1
        go_wp2_with fail
        refine (itoa_any (q-1) (by omega) (by omega) B _ (HT.out.on HB3.out hB)).mono ?_
        rintro e w4 ⟨rfl, hb4⟩
        have HB4 := hide (HB3.out.trans (hb4.mono HB3.out.size))
        clear hb4 HB3
        go_wp2_with fail
        refine (itoa_any (r+y) (by omega) (by omega) B _ (HT.out.on HB4.out hB)).mono ?_
        rintro e w5 ⟨rfl, hb5⟩
        have HB5 := hide (HB4.out.trans (hb5.mono HB4.out.size))
        clear hb5 HB4
        go_wp2_with fail
        refine bodyPost_ret (results_tmp3' rfl _ _ _) rfl ?_
        exact ⟨by rw [← F1.out, ← F2.out]; rfl, HB5.out⟩
      · obtain ⟨f1, f2⟩ := FS.out (.inr ⟨fun e => absurd e h1, fun e => absurd e h2⟩)
        have F1 := hide (f1.trans HG.out); have F2 := hide (f2.trans HH.out)
        have t2 : (r < 0) = False := eq_false h1
        have t3 : (y < 0) = False := eq_false h2
        clear hr0 f1 f2 h1 h2
        go_wp2_with fail
        refine (itoa_any q (by omega) (by omega) B _ (HT.out.on HB3.out hB)).mono ?_
        rintro e w4 ⟨rfl, hb4⟩
        have HB4 := hide (HB3.out.trans (hb4.mono HB3.out.size))
        clear hb4 HB3
        go_wp2_with fail
        refine (itoa_any r (by omega) (by omega) B _ (HT.out.on HB4.out hB)).mono ?_
        rintro e w5 ⟨rfl, hb5⟩
        have HB5 := hide (HB4.out.trans (hb5.mono HB4.out.size))
        clear hb5 HB4
        go_wp2_with fail
        refine bodyPost_ret (results_tmp3' rfl _ _ _) rfl ?_
        exact ⟨by rw [← F1.out, ← F2.out]; rfl, HB5.out⟩
end Go.Proofs.YthkioajalhglfaaGreatDoor
namespace Go.Proofs.YthkioajalhglfaaGreatDoor
open Go.RowKit Go.KP Go.KI Go.Shelf
attribute [local go_sem] Oper.semAt_some

theorem one_lt : Lt 1000000000 [1] := fun z hz => by
  simp only [List.mem_singleton] at hz
  omega
theorem res_fit {z : Int} (h : fits z) : resS z = Lib.itoa z ∧ resE z = 0 := ⟨if_pos h, if_pos h⟩
theorem chk_nz {l : List UInt8} (c : chkI l = 0) (h : l ≠ [48]) : valI l ≠ 0 := by
  intro e
  have := (chk_ok c).1
  rw [e, itoa_zero] at this
  exact h this
set_option maxRecDepth 100000 in
set_option maxHeartbeats 8000000 in
theorem Divide_long (s t : ByteArray) (B : Nat) (w : World) (c1 : chkI s.data.toList = 0) (c2 : chkI t.data.toList = 0) (hl : ¬ (s.size ≤ 18 ∧ t.size ≤ 18)) (h0 : t.data.toList ≠ [48]) (hB : B ≤ w.heap.size) (hT : P10 B w) :
    Calls Tryz.prog 17 #[.string s, .string t] w (Ret w (tripV (Lib.itoa ((valI s.data.toList).fdiv (valI t.data.toList))) (Lib.itoa ((valI s.data.toList).fmod (valI t.data.toList))) 0)) := by
  have l1' := (chk_digs c1).2
  have l2' := (chk_digs c2).2
  rw [bytes_len] at l1' l2'
  have H1 := hide (both_any s t (by omega) (by omega) w)
  have hb0 : bothI s.data.toList t.data.toList = 0 := by unfold bothI; rw [if_pos c1, c2]
  rw [hb0] at H1
  have HT := hide hT
  have hy0 := chk_nz c2 h0
  have hq : (t.toList == [48]) = false := by rw [ByteArray.toList_eq]; simpa using h0
  have FQ := hide (res_fit (fits_of_le (chk_ok c1).2 (fdiv_natAbs_le (x := valI s.data.toList) hy0)))
  have FR := hide (res_fit (fits_of_le (chk_ok c2).2 (Nat.le_of_lt (fmod_natAbs_lt (x := valI s.data.toList) hy0))))
  have H2 := hide (fun w => small_no s t hl w)
  have R1 := hide (fun w => read_good s c1 w)
  have R2 := hide (fun w => read_good t c2 w)
  clear c1 c2 hl h0 hT hb0 l1' l2'
  go_enter Tryz.func17, Tryz.ntmps17
  go_wp2_with fail
  refine H1.out.mono ?_
  rintro e w1 ⟨rfl, hb1⟩
  have HB1 := hide hb1
  clear hb1 H1
  go_wp2_with fail
  refine (H2.out _).mono ?_
  rintro e w2 ⟨rfl, hb2⟩
  have HB2 := hide (HB1.out.trans (hb2.mono HB1.out.size))
  clear hb2 H2 HB1
  go_wp2_with fail
  refine (R1.out _).mono ?_
  rintro e w3 ⟨m1, a1, l1, rfl, hb3, o1, n1, q1, k1⟩
  have HB3 := hide (HB2.out.trans (hb3.mono HB2.out.size))
  have O1 := hide o1; have N1 := hide n1; have Q1 := hide q1
  clear hb3 HB2 R1 o1 n1 q1
  go_wp2_with fail
  refine (R2.out _).mono ?_
  rintro e w4 ⟨m2, a2, l2, rfl, hb4, o2, n2, q2, k2⟩
  have HB4 := hide (HB3.out.trans (hb4.mono HB3.out.size))
  have O1' := hide (O1.out.keep hb4)
  have O2 := hide o2; have N2 := hide n2; have Q2 := hide q2
  clear hb4 HB3 R2 o2 n2 q2 O1
  obtain ⟨av1, cv1, hvf, _, _⟩ := O1'.out.form
  subst hvf
  obtain ⟨av2, cv2, hvf, _, _⟩ := O2.out.form
  subst hvf
  have hl2 : l2 ≠ [] := by
    intro e
    have h := Q2.out
    rw [e] at h
    apply hy0
    rw [← h]
    cases m2 <;> rfl
  have hly : 0 < lv 1000000000 l2 := by
    rcases Nat.eq_zero_or_pos (lv 1000000000 l2) with h | h
    · exact absurd ((N2.out.zero (by omega)).1 h) hl2
    · exact h
  obtain ⟨g0, g1, gs0, gb0⟩ := heap2 w4 (.cells #[.bool m1, .slice av1 l1.length cv1] 48) (.cells #[.bool m2, .slice av2 l2.length cv2] 48)
  obtain ⟨w5, hw5⟩ : ∃ w5, (w4.alloc (.cells #[.bool m1, .slice av1 l1.length cv1] 48)).alloc (.cells #[.bool m2, .slice av2 l2.length cv2] 48) = w5 := ⟨_, rfl⟩
  rw [hw5] at g0 g1 gs0 gb0
  have c1 := cell_blk g0 1
  have c3 := cell_blk g1 1
  have HDV := hide (divide_any (.slice av1 l1.length cv1) (.slice av2 l2.length cv2) l1 l2 w5.heap.size w5 (LimbAt.of_own (O1'.out.keep gb0)) (LimbAt.of_own (O2.out.keep gb0)) (Nat.le_refl _) N1.out N2.out hl2 (by omega) (by omega))
  have O2' := hide (O2.out.keep gb0)
  have HB5 := hide (HB4.out.trans (gb0.mono HB4.out.size)); have G0 := hide g0; have G1 := hide g1
  have hs5 : w4.heap.size + 1 < w5.heap.size := by omega
  have FL := hide (floor_long m1 m2 (a := lv 1000000000 l1) hly)
  rw [Q1.out, Q2.out] at FL
  clear g0 g1 gs0 gb0 O1' O2 HB4 hy0
  go_wp2_with fail
  clear hw5
  obtain ⟨nb, hnb⟩ : ∃ nb, nb = w4.heap.size := ⟨_, rfl⟩
  rw [← hnb] at c1 c3 G0 G1 hs5 ⊢
  clear hnb
  refine HDV.out.mono ?_
  rintro e w6 ⟨vq, vr, q, r, rfl, hb6, oq, or_, nq, nr, eq, er, lq, lr⟩
  obtain ⟨aq, cq, hvf⟩ := oq.form
  subst hvf
  obtain ⟨ar, cr, hvf⟩ := or_.form
  subst hvf
  have HBZ := hide (HB5.out.trans (hb6.mono HB5.out.size))
  have G0Z := hide (below_blk hb6 G0.out (by omega))
  have G1Z := hide (below_blk hb6 G1.out (by omega))
  have O2Z := hide (O2'.out.keep hb6)
  have hs6 : nb + 1 < w6.heap.size := Nat.lt_of_lt_of_le hs5 hb6.size
  have OQ := hide oq; have OR := hide or_; have NQ := hide nq; have NR := hide nr; have EQ := hide eq; have ER := hide er
  rw [← eq, ← er] at FL
  clear hb6 oq or_ nq nr eq er c1 c3 HB5 G0 G1 O2' HDV hs5
  have z0 := cell_blk G0Z.out 0
  have z1 := cell_blk G1Z.out 0
  rcases (show m2 = m1 ∨ (m2 = (!m1) ∧ r = []) ∨ (m2 = (!m1) ∧ r ≠ []) by
    by_cases hm : m2 = m1
    · exact .inl hm
    · have : m2 = (!m1) := by cases m1 <;> cases m2 <;> simp_all
      by_cases hr : r = []
      · exact .inr (.inl ⟨this, hr⟩)
      · exact .inr (.inr ⟨this, hr⟩)) with hm | ⟨hm, hr⟩ | ⟨hm, hr⟩
  · subst hm
    have FA := hide (FL.out.1 (.inl rfl))
    rw [show (!(m2 == m2)) = false by simp] at FA
    clear FL
    obtain ⟨m1, rfl⟩ : ∃ m1, m1 = m2 := ⟨_, rfl⟩
    obtain ⟨wz, rfl⟩ : ∃ wz, wz = w6 := ⟨_, rfl⟩
    · skip
      have zq : valS false (lv 1000000000 q) = (valI s.data.toList).fdiv (valI t.data.toList) := FA.out.1
      have zr : valS m1 (lv 1000000000 r) = (valI s.data.toList).fmod (valI t.data.toList) := FA.out.2
      have HR1 := hide (result_any false (.slice aq q.length cq) q wz.heap.size wz OQ.out (Nat.le_refl _) NQ.out (by omega) ((HT.out.on HBZ.out hB).mono (Nat.le_trans hB HBZ.out.size)))
      rw [zq, FQ.out.1, FQ.out.2] at HR1
      have HR2 := hide (fun w8 (hb : Below wz.heap.size wz w8) => result_any m1 (.slice ar r.length cr) r wz.heap.size w8 (LimbAt.below OR.out hb (Nat.le_refl _)) hb.size NR.out (by omega) ((HT.out.on (HBZ.out.trans (hb.mono HBZ.out.size)) hB).mono (Nat.le_trans hB HBZ.out.size)))
      rw [zr, FR.out.1, FR.out.2] at HR2
      have z0 := cell_blk G0Z.out 0
      have z1 := cell_blk G1Z.out 0
      clear zq zr
      go_wp2_with fail
      refine HR1.out.mono ?_
      rintro e w8 ⟨rfl, hb8⟩
      have hz8 : nb + 1 < w8.heap.size := Nat.lt_of_lt_of_le (lt_blk G1Z.out) hb8.size
      have z2 := cell_blk (below_blk hb8 G0Z.out (lt_blk G0Z.out)) 0
      have z3 := cell_blk (below_blk hb8 G1Z.out (lt_blk G1Z.out)) 0
      have HB8 := hide hb8
      clear hb8 HR1 z0 z1
      go_wp2_with fail
      refine (HR2.out w8 HB8.out).mono ?_
      rintro e w9 ⟨rfl, hb9⟩
      have HB9 := hide (HBZ.out.trans ((HB8.out.trans (hb9.mono HB8.out.size)).mono HBZ.out.size))
      clear hb9 HR2 HB8 z2 z3
      go_wp2_with fail
      refine bodyPost_ret (results_tmp3' rfl _ _ _) rfl ?_
      exact ⟨rfl, HB9.out⟩

  · subst hm
    subst hr
    have FB := hide (FL.out.1 (.inr rfl))
    rw [show (!(m1 == (!m1))) = true by cases m1 <;> rfl] at FB
    clear FL
    obtain ⟨wz, rfl⟩ : ∃ wz, wz = w6 := ⟨_, rfl⟩
    have OR := hide (show LimbAt wz.heap.size wz (.slice ar 0 cr) [] from OR.out)
    have NR := hide (Norm.nil 1000000000)
    clear lr
    · skip
      have zq : valS true (lv 1000000000 q) = (valI s.data.toList).fdiv (valI t.data.toList) := FB.out.1
      have zr : valS (!m1) (lv 1000000000 ([] : List Nat)) = (valI s.data.toList).fmod (valI t.data.toList) := FB.out.2
      have HR1 := hide (result_any true (.slice aq q.length cq) q wz.heap.size wz OQ.out (Nat.le_refl _) NQ.out (by omega) ((HT.out.on HBZ.out hB).mono (Nat.le_trans hB HBZ.out.size)))
      rw [zq, FQ.out.1, FQ.out.2] at HR1
      have HR2 := hide (fun w8 (hb : Below wz.heap.size wz w8) => result_any (!m1) (.slice ar 0 cr) ([] : List Nat) wz.heap.size w8 (LimbAt.below OR.out hb (Nat.le_refl _)) hb.size NR.out (by simp) ((HT.out.on (HBZ.out.trans (hb.mono HBZ.out.size)) hB).mono (Nat.le_trans hB HBZ.out.size)))
      rw [zr, FR.out.1, FR.out.2] at HR2
      have z0 := cell_blk G0Z.out 0
      have z1 := cell_blk G1Z.out 0
      clear zq zr
      go_wp2_with fail
      refine HR1.out.mono ?_
      rintro e w8 ⟨rfl, hb8⟩
      have hz8 : nb + 1 < w8.heap.size := Nat.lt_of_lt_of_le (lt_blk G1Z.out) hb8.size
      have z2 := cell_blk (below_blk hb8 G0Z.out (lt_blk G0Z.out)) 0
      have z3 := cell_blk (below_blk hb8 G1Z.out (lt_blk G1Z.out)) 0
      have HB8 := hide hb8
      clear hb8 HR1 z0 z1
      go_wp2_with fail
      refine (HR2.out w8 HB8.out).mono ?_
      rintro e w9 ⟨rfl, hb9⟩
      have HB9 := hide (HBZ.out.trans ((HB8.out.trans (hb9.mono HB8.out.size)).mono HBZ.out.size))
      clear hb9 HR2 HB8 z2 z3
      go_wp2_with fail
      refine bodyPost_ret (results_tmp3' rfl _ _ _) rfl ?_
      exact ⟨rfl, HB9.out⟩

  · subst hm
    have hr1 : lv 1000000000 r ≠ 0 := fun e => hr ((NR.out.zero (by omega)).1 e)
    have hrl : 0 < (r.length : Int) := by
      have := List.length_pos_iff.2 hr
      omega
    have FC := hide (FL.out.2 (by cases m1 <;> simp) hr1)
    rw [show (!(m1 == (!m1))) = true by cases m1 <;> rfl] at FC
    have hlt : lv 1000000000 r ≤ lv 1000000000 l2 := by
      rw [ER.out]
      exact Nat.le_of_lt (Nat.mod_lt _ hly)
    have P1 := hide (plus_lv NQ.out.lt one_lt)
    have P2 := hide (minus_lv N2.out.lt NR.out.lt hlt)
    have FC2 := hide (show valS true (lv 1000000000 (trimL (combL plusP q [1]))) = (valI s.data.toList).fdiv (valI t.data.toList) ∧ valS (!m1) (lv 1000000000 (trimL (combL minusP l2 r))) = (valI s.data.toList).fmod (valI t.data.toList) by
      rw [P1.out.2.1, P2.out.2.1, show lv 1000000000 [1] = 1 by simp [lv]]
      exact FC.out)
    have hk3 : (trimL (combL plusP q [1])).length ≤ 100000 := by
      have := P1.out.2.2
      simp at this
      omega
    have hk4 : (trimL (combL minusP l2 r)).length ≤ 100000 := by
      have := P2.out.2.2
      omega
    obtain ⟨l3, hl3⟩ : ∃ l, l = trimL (combL plusP q [1]) := ⟨_, rfl⟩
    obtain ⟨l4, hl4⟩ : ∃ l, l = trimL (combL minusP l2 r) := ⟨_, rfl⟩
    have N3 := hide P1.out.1
    have N4 := hide P2.out.1
    rw [← hl3] at N3 FC2 hk3
    rw [← hl4] at N4 FC2 hk4
    have HC1 := hide (fun (W : World) (hb : Below w6.heap.size w6 W) (h1 : W.heap[w6.heap.size]? = some (rowO [1])) => combine_any 48 plusP plusFn (.slice aq q.length cq) (.slice (some ⟨w6.heap.size, 0, none⟩) 1 1) q [1] W.heap.size W ((OQ.out.below hb (Nat.le_refl _)).mono hb.size) (row_limbs h1 (by unfold maxLen; simp)) (Nat.le_refl _) NQ.out.lt one_lt (by omega) (by simp))
    have HC2 := hide (fun (W : World) (hb : Below w6.heap.size w6 W) => combine_any 49 minusP minusFn (.slice av2 l2.length cv2) (.slice ar r.length cr) l2 r W.heap.size W (((LimbAt.of_own O2Z.out).below hb (Nat.le_refl _)).mono hb.size) ((OR.out.below hb (Nat.le_refl _)).mono hb.size) (Nat.le_refl _) N2.out.lt NR.out.lt (by omega) (by omega))
    rw [← hl3] at HC1
    rw [← hl4] at HC2
    have HWA := hide (show Below w6.heap.size w6 (w6.alloc (.cells #[.int .i64 1] 3)).drew from ((Below.refl w6.heap.size w6).alloc (Nat.le_refl _) _).drew)
    have HWR := hide (show (w6.alloc (.cells #[.int .i64 1] 3)).drew.heap[w6.heap.size]? = some (rowO [1]) from World.alloc_heap_new _ _)
    have z2 := cell_blk G1Z.out 1
    have ZD := hide (show w6.drew.cell? ⟨nb + 1, 1, none⟩ = some (.slice av2 l2.length cv2) from cell_blk (w := w6.drew) G1Z.out 1)
    have ZA := hide (show (w6.alloc (.cells #[.int .i64 1] 3)).drew.cell? ⟨nb + 1, 1, none⟩ = some (.slice av2 l2.length cv2) from cell_blk (w := (w6.alloc (.cells #[.int .i64 1] 3)).drew) (below_blk HWA.out G1Z.out hs6) 1)
    clear hl3 hl4 hr hr1 hlt FC FL
    go_wp2_with fail
    go_region_held3 (fun w' => w'.cell? ⟨nb + 1, 1, none⟩ = some (.slice av2 l2.length cv2)) (first | with_reducible exact ZD.out | with_reducible exact ZA.out | with_reducible exact d1 | with_reducible exact x1)
      (first
        | (go_at_call 47
           with_reducible refine (HC1.out _ HWA.out HWR.out).mono ?_
           rintro e w7 ⟨v3, rfl, hb7, o3⟩
           obtain ⟨av3, cv3, hvf, _, _⟩ := o3.form
           subst hvf
           have HB7 := hide (HWA.out.trans (hb7.mono HWA.out.size))
           have O3 := hide o3
           have d1 : w7.cell? ⟨nb + 1, 1, none⟩ = some (.slice av2 l2.length cv2) := cell_blk (below_blk HB7.out G1Z.out hs6) 1
           clear hb7 o3)
        | (go_at_call 47
           with_reducible refine (HC2.out w7 HB7.out).mono ?_
           rintro e wz ⟨v4, rfl, hb8, o4⟩
           obtain ⟨av4, cv4, hvf, _, _⟩ := o4.form
           subst hvf
           have HB8 := hide (HB7.out.trans (hb8.mono HB7.out.size))
           have O4 := hide o4
           have O3' := hide (OwnL.keep O3.out hb8)
           have x1 : wz.cell? ⟨nb + 1, 1, none⟩ = some (.slice av2 l2.length cv2) := cell_blk (below_blk HB8.out G1Z.out hs6) 1
           clear hb8 o4)
        | fail)
    clear d1 x1 z0 z1 z2
    have HBZ := hide (HBZ.out.trans (HB8.out.mono HBZ.out.size))
    have G0Z := hide (below_blk HB8.out G0Z.out (by omega))
    have G1Z := hide (below_blk HB8.out G1Z.out hs6)
    have O3Z := hide (LimbAt.of_own O3'.out)
    have O4Z := hide (LimbAt.of_own O4.out)
    clear HB8 HB7 O3 O3' O4 HC1 HC2 HWA HWR ZD ZA hrl
    · skip
      have zq : valS true (lv 1000000000 l3) = (valI s.data.toList).fdiv (valI t.data.toList) := FC2.out.1
      have zr : valS (!m1) (lv 1000000000 l4) = (valI s.data.toList).fmod (valI t.data.toList) := FC2.out.2
      have HR1 := hide (result_any true (.slice av3 l3.length cv3) l3 wz.heap.size wz O3Z.out (Nat.le_refl _) N3.out hk3 ((HT.out.on HBZ.out hB).mono (Nat.le_trans hB HBZ.out.size)))
      rw [zq, FQ.out.1, FQ.out.2] at HR1
      have HR2 := hide (fun w8 (hb : Below wz.heap.size wz w8) => result_any (!m1) (.slice av4 l4.length cv4) l4 wz.heap.size w8 (LimbAt.below O4Z.out hb (Nat.le_refl _)) hb.size N4.out hk4 ((HT.out.on (HBZ.out.trans (hb.mono HBZ.out.size)) hB).mono (Nat.le_trans hB HBZ.out.size)))
      rw [zr, FR.out.1, FR.out.2] at HR2
      have z0 := cell_blk G0Z.out 0
      have z1 := cell_blk G1Z.out 0
      clear zq zr
      go_wp2_with fail
      refine HR1.out.mono ?_
      rintro e w8 ⟨rfl, hb8⟩
      have hz8 : nb + 1 < w8.heap.size := Nat.lt_of_lt_of_le (lt_blk G1Z.out) hb8.size
      have z2 := cell_blk (below_blk hb8 G0Z.out (lt_blk G0Z.out)) 0
      have z3 := cell_blk (below_blk hb8 G1Z.out (lt_blk G1Z.out)) 0
      have HB8 := hide hb8
      clear hb8 HR1 z0 z1
      go_wp2_with fail
      refine (HR2.out w8 HB8.out).mono ?_
      rintro e w9 ⟨rfl, hb9⟩
      have HB9 := hide (HBZ.out.trans ((HB8.out.trans (hb9.mono HB8.out.size)).mono HBZ.out.size))
      clear hb9 HR2 HB8 z2 z3
      go_wp2_with fail
      refine bodyPost_ret (results_tmp3' rfl _ _ _) rfl ?_
      exact ⟨rfl, HB9.out⟩

end Go.Proofs.YthkioajalhglfaaGreatDoor
namespace Go.Proofs.YthkioajalhglfaaGreatDoor
open Go.RowKit Go.KP Go.KI Go.Shelf
attribute [local go_sem] Oper.semAt_some

set_option maxRecDepth 100000 in
set_option maxHeartbeats 2000000 in
theorem Gcd_small (s t : ByteArray) (B : Nat) (w : World) (c1 : chkI s.data.toList = 0) (c2 : chkI t.data.toList = 0) (hs : s.size ≤ 18) (ht : t.size ≤ 18) (hB : B ≤ w.heap.size) (hT : P10 B w) :
    Calls Tryz.prog 19 #[.string s, .string t] w (Ret w (pairV (Lib.itoa ((Nat.gcd (valI s.data.toList).natAbs (valI t.data.toList).natAbs : Nat) : Int)) 0)) := by
  have H1 := hide (both_any s t (by omega) (by omega) w)
  have hb0 : bothI s.data.toList t.data.toList = 0 := by unfold bothI; rw [if_pos c1, c2]
  rw [hb0] at H1
  have HT := hide hT
  have H2 := hide (fun w => small_yes s t c1 c2 hs ht w)
  have v1 := short_val (n := 18) c1 (by rw [bytes_len]; exact hs) (by omega)
  have v2 := short_val (n := 18) c2 (by rw [bytes_len]; exact ht) (by omega)
  rw [pow18] at v1 v2
  obtain ⟨x, hx⟩ : ∃ x, x = valI s.data.toList := ⟨_, rfl⟩
  obtain ⟨y, hy⟩ : ∃ y, y = valI t.data.toList := ⟨_, rfl⟩
  rw [← hx, ← hy] at H2 ⊢
  rw [← hx] at v1
  rw [← hy] at v2
  obtain ⟨G, hG⟩ : ∃ G, G = Nat.gcd x.natAbs y.natAbs := ⟨_, rfl⟩
  rw [← hG]
  have HG := hide hG
  have V1 := hide v1; have V2 := hide v2
  clear c1 c2 hs ht hT hx hy hb0 hG v1 v2
  go_enter Tryz.func19, Tryz.ntmps19
  go_wp2_with fail
  refine H1.out.mono ?_
  rintro e w1 ⟨rfl, hb1⟩
  have HB1 := hide hb1
  clear hb1 H1
  go_wp2_with fail
  refine (H2.out _).mono ?_
  rintro e w2 ⟨rfl, hb2⟩
  have HB2 := hide (HB1.out.trans (hb2.mono HB1.out.size))
  clear hb2 H2 HB1
  go_wp2_with fail
  go_loopw [7, 8] (fun a b wr => ∃ p q : Int, a = .int .i64 p ∧ b = .int .i64 q ∧ p.natAbs < 1000000000000000000 ∧ q.natAbs < 1000000000000000000 ∧ Hid (Nat.gcd p.natAbs q.natAbs = G ∧ Below w.heap.size w wr)) (fun _ b _ => (intOf b).natAbs)
  case atStart => exact ⟨x, y, rfl, rfl, V1.out, V2.out, HG.out.symm, HB2.out⟩
  case round =>
    obtain ⟨p, q, rfl, rfl, hp, hq, hin⟩ := hrel
    have IN := hide hin.out
    clear hin
    by_cases hq0 : q = 0
    · subst hq0
      have hqq : ((0 : Int) != 0) = false := rfl
      have hG : (p.natAbs : Nat) = G := by have := IN.out.1; simpa using this
      have GG := hide hG
      clear hq hG
      go_wp2_with fail
      have hmx : max p (-p) = (G : Int) := by have := GG.out; omega
      rw [hmx]
      have hG1 : (G : Int) ≤ 9223372036854775807 := by have := GG.out; omega
      clear hmx hqq
      refine (itoa_any G (by omega) hG1 B _ (HT.out.on IN.out.2 hB)).mono ?_
      rintro e w3 ⟨rfl, hb3⟩
      have HB3 := hide (IN.out.2.trans (hb3.mono IN.out.2.size))
      clear hb3
      go_wp2_with fail
      refine bodyPost_ret (results_tmp2 rfl _ _ _) rfl ?_
      exact ⟨rfl, HB3.out⟩
    · have hqq : (q != 0) = true := by simpa using hq0
      have hyq : (q == 0) = false := by simpa using hq0
      have hr := natAbs_tmod_lt p hq0
      have hgc : Nat.gcd q.natAbs (p.tmod q).natAbs = G := by
        rw [Int.natAbs_tmod, ← IN.out.1, Nat.gcd_comm q.natAbs, ← Nat.gcd_rec, Nat.gcd_comm]
      have GG := hide hgc
      clear hq0 hgc
      go_wp2_with fail
      go_quiet (fail)
      clear hyq hqq
      go_wp2_with fail
      go_roundw
      case rel => exact ⟨q, p.tmod q, rfl, rfl, hq, by omega, GG.out, ⟨IN.out.2.os, IN.out.2.tape, IN.out.2.output, IN.out.2.size, IN.out.2.block⟩⟩
      case measure => simpa [intOf] using hr
end Go.Proofs.YthkioajalhglfaaGreatDoor
namespace Go.KI

/-- The whole root. -/
def rootN : Nat → Nat
  | 0 => 0
  | n + 1 => if (rootN n + 1) * (rootN n + 1) ≤ n + 1 then rootN n + 1 else rootN n
theorem rootN_spec : ∀ n, rootN n * rootN n ≤ n ∧ n < (rootN n + 1) * (rootN n + 1) := by
  intro n
  induction n with
  | zero => exact ⟨Nat.le_refl _, by show 0 < (0 + 1) * (0 + 1); decide⟩
  | succ n ih =>
    rw [rootN]
    split
    · refine ⟨by assumption, ?_⟩
      have : (rootN n + 1 + 1) * (rootN n + 1 + 1) = (rootN n + 1) * (rootN n + 1) + 2 * (rootN n + 1) + 1 := by grind
      omega
    · exact ⟨by omega, by omega⟩
theorem rootN_eq {n r : Nat} (h1 : r * r ≤ n) (h2 : n < (r + 1) * (r + 1)) : rootN n = r := by
  obtain ⟨g1, g2⟩ := rootN_spec n
  rcases Nat.lt_trichotomy (rootN n) r with h | h | h
  · have := Nat.mul_le_mul (show rootN n + 1 ≤ r from h) (show rootN n + 1 ≤ r from h)
    omega
  · exact h
  · have := Nat.mul_le_mul (show r + 1 ≤ rootN n from h) (show r + 1 ≤ rootN n from h)
    omega
theorem root_le_of {n x : Nat} (h : n < (x + 1) * (x + 1)) : rootN n ≤ x := by
  obtain ⟨g1, g2⟩ := rootN_spec n
  rcases Nat.lt_or_ge x (rootN n) with h1 | h1
  · have := Nat.mul_le_mul (show x + 1 ≤ rootN n from h1) (show x + 1 ≤ rootN n from h1)
    omega
  · exact h1
/-- Newton's step stays at or above the root. -/
theorem newton_ge {n x : Nat} (hx : 0 < x) : rootN n ≤ (x + n / x) / 2 := by
  obtain ⟨g1, g2⟩ := rootN_spec n
  rw [Nat.le_div_iff_mul_le (by omega)]
  rcases Nat.lt_or_ge (2 * rootN n) x with h | h
  · refine Nat.le_trans ?_ (Nat.le_add_right x _)
    omega
  · have h1 : 2 * rootN n - x ≤ n / x := by
      rw [Nat.le_div_iff_mul_le hx]
      obtain ⟨d, hd⟩ : ∃ d, 2 * rootN n = x + d := ⟨2 * rootN n - x, by omega⟩
      rw [hd, Nat.add_sub_cancel_left]
      have h4 : 4 * (d * x) ≤ (x + d) * (x + d) := by
        rcases Nat.le_total d x with hl | hl
        · obtain ⟨e, rfl⟩ : ∃ e, x = d + e := ⟨x - d, by omega⟩
          have : (d + e + d) * (d + e + d) = 4 * (d * (d + e)) + e * e := by grind
          omega
        · obtain ⟨e, rfl⟩ : ∃ e, d = x + e := ⟨d - x, by omega⟩
          have : (x + (x + e)) * (x + (x + e)) = 4 * ((x + e) * x) + e * e := by grind
          omega
      rw [← hd] at h4
      have h5 : 2 * rootN n * (2 * rootN n) = 4 * (rootN n * rootN n) := by grind
      omega
    omega
/-- Where Newton's step no longer falls, the root is there. -/
theorem newton_end {n x : Nat} (hx : 0 < x) (h : rootN n ≤ x) (he : x ≤ (x + n / x) / 2) : rootN n = x := by
  have h1 : x ≤ n / x := by omega
  have h2 := (Nat.le_div_iff_mul_le hx).1 h1
  obtain ⟨g1, g2⟩ := rootN_spec n
  have h3 : x ≤ rootN n := by
    rcases Nat.lt_or_ge (rootN n) x with h4 | h4
    · have := Nat.mul_le_mul (show rootN n + 1 ≤ x from h4) (show rootN n + 1 ≤ x from h4)
      omega
    · exact h4
  omega
theorem root_pos {n : Nat} (h : 0 < n) : 0 < rootN n := by
  obtain ⟨g1, g2⟩ := rootN_spec n
  rcases Nat.eq_zero_or_pos (rootN n) with h0 | h0
  · rw [h0] at g2
    omega
  · exact h0
theorem start_ge {n x : Nat} (hx : 0 < x) (h : n / x ≤ x) : rootN n ≤ x := by
  refine root_le_of ?_
  have h1 : n < (x + 1) * x := by
    rw [← Nat.div_lt_iff_lt_mul hx]
    omega
  have : (x + 1) * (x + 1) = (x + 1) * x + (x + 1) := by grind
  omega
end Go.KI
namespace Go.Proofs.YthkioajalhglfaaGreatDoor
open Go.RowKit Go.KP Go.KI Go.Shelf
attribute [local go_sem] Oper.semAt_some
theorem tdiv_nat (a b : Nat) : (a : Int).tdiv (b : Int) = ((a / b : Nat) : Int) := by
  rw [Int.tdiv_eq_ediv_of_nonneg (by omega), Int.natCast_ediv]
set_option maxRecDepth 100000 in
set_option maxHeartbeats 2000000 in
theorem smallRoot_any (s : ByteArray) (n : Nat) (B : Nat) (w : World) (c1 : chkI s.data.toList = 0) (hs : s.size ≤ 18) (hn : valI s.data.toList = (n : Int)) (h0 : 0 < n) (hB : B ≤ w.heap.size) (hT : P10 B w) :
    Calls Tryz.prog 53 #[.string s] w (Ret w (pairV (Lib.itoa ((rootN n : Nat) : Int)) 0)) := by
  have HT := hide hT
  have H1 := hide (atoi_any s c1 hs w)
  have v1 := short_val (n := 18) c1 (by rw [bytes_len]; exact hs) (by omega)
  rw [pow18] at v1
  rw [hn] at v1 H1
  have hn1 : n < 1000000000000000000 := by omega
  clear c1 hs hn v1 hT
  have H0 := hide h0
  go_enter Tryz.func53, Tryz.ntmps53
  go_wp2_with fail
  refine H1.out.mono ?_
  rintro e w1 ⟨rfl, hb1⟩
  have HB1 := hide hb1
  clear hb1 H1
  go_wp2_with fail
  go_loopw [6] (fun a wr => ∃ x : Nat, a = .int .i64 x ∧ 0 < x ∧ x ≤ 2000000000 ∧ wr = w1) (fun a _ => 2000000000 - (intOf a).toNat)
  case atStart => exact ⟨1, rfl, by omega, by omega, rfl⟩
  case round =>
    obtain ⟨x, rfl, hx0, hx1, rfl⟩ := hrel
    have hxq : ((x : Int) == 0) = false := by
      have : (x : Int) ≠ 0 := by omega
      simpa using this
    obtain ⟨q, hq⟩ : ∃ q : Nat, q = n / x := ⟨_, rfl⟩
    have hd : (n : Int) / (x : Int) = (q : Int) := by rw [hq, Int.natCast_ediv]
    have hdl : q ≤ n := by rw [hq]; exact Nat.div_le_self _ _
    have hx2 : x < q → x < 1000000000 := fun hl => by
      rcases Nat.lt_or_ge x 1000000000 with h1 | h1
      · exact h1
      · exfalso
        have h2 := (Nat.le_div_iff_mul_le hx0).1 (Nat.le_of_lt (hq ▸ hl))
        have h3 := Nat.mul_le_mul h1 h1
        omega
    have HQ := hide hq; have HX := hide hx2
    clear hq hx2
    by_cases hlt : x < q
    · have hl : (x : Int) < (q : Int) := by omega
      have hx3 := HX.out hlt
      clear hlt
      go_wp2_with fail
      go_roundw
      case rel => exact ⟨x * 2, rfl, by omega, by omega, trivial⟩
      case measure => simp [intOf]; omega
    · have hl : ((x : Int) < (q : Int)) = False := eq_false (by omega)
      have HR := hide (start_ge (n := n) hx0 (by rw [← HQ.out]; omega))
      clear hlt
      go_wp2_with fail
      clear hd hdl hxq hl HQ HX
      go_loopw [6] (fun a wr2 => ∃ x : Nat, a = .int .i64 x ∧ 0 < x ∧ x ≤ 2000000000 ∧ Hid (rootN n ≤ x) ∧ wr2 = wr) (fun a _ => (intOf a).toNat)
      case atStart => exact ⟨x, rfl, hx0, hx1, HR, rfl⟩
      clear hx0 hx1 HR
      case round =>
        obtain ⟨x, rfl, hx0, hx1, hr, rfl⟩ := hrel
        have hxq : ((x : Int) == 0) = false := by
          have : (x : Int) ≠ 0 := by omega
          simpa using this
        obtain ⟨q, hq⟩ : ∃ q : Nat, q = n / x := ⟨_, rfl⟩
        have hd : (n : Int) / (x : Int) = (q : Int) := by rw [hq, Int.natCast_ediv]
        have hdl : q ≤ n := by rw [hq]; exact Nat.div_le_self _ _
        obtain ⟨y, hy⟩ : ∃ y : Nat, y = (x + q) / 2 := ⟨_, rfl⟩
        have hd2 : ((x : Int) + (q : Int)) / 2 = (y : Int) := by omega
        have HG := hide (newton_ge (n := n) hx0)
        have HE := hide (newton_end (n := n) hx0 hr.out)
        rw [← hq, ← hy] at HG HE
        have hyl : y ≤ 600000000000000000 := by omega
        clear hr hq hy
        by_cases hge : x ≤ y
        · have hg : (x : Int) ≤ (y : Int) := by omega
          have HRE := hide (HE.out hge)
          clear hge
          go_wp2_with fail
          refine (itoa_any x (by omega) (by omega) B _ (HT.out.on HB1.out hB)).mono ?_
          rintro e w3 ⟨rfl, hb3⟩
          have HB3 := hide (HB1.out.trans (hb3.mono HB1.out.size))
          clear hb3 hd hd2 hg
          go_wp2_with fail
          refine bodyPost_ret (results_tmp2 rfl _ _ _) rfl ?_
          exact ⟨by rw [HRE.out]; rfl, HB3.out⟩
        · have hg : ((x : Int) ≤ (y : Int)) = False := eq_false (by omega)
          have hyx : y < x := by omega
          have hyp : 0 < y := Nat.lt_of_lt_of_le (root_pos H0.out) HG.out
          clear hge
          go_wp2_with fail
          go_roundw
          case rel => exact ⟨y, by rw [hd2], hyp, by omega, HG, trivial⟩
          case measure => simp only [intOf]; omega
end Go.Proofs.YthkioajalhglfaaGreatDoor
namespace Go.Proofs.YthkioajalhglfaaGreatDoor
open Go.RowKit Go.KP Go.KI Go.Shelf
attribute [local go_sem] Oper.semAt_some

set_option maxRecDepth 100000 in
set_option maxHeartbeats 2000000 in
theorem Root_small (s : ByteArray) (n : Nat) (B : Nat) (w : World) (c1 : chkI s.data.toList = 0) (hs : s.size ≤ 18) (hn : valI s.data.toList = (n : Int)) (h0 : 0 < n) (hB : B ≤ w.heap.size) (hT : P10 B w) :
    Calls Tryz.prog 21 #[.string s] w (Ret w (pairV (Lib.itoa ((rootN n : Nat) : Int)) 0)) := by
  have HT := hide hT
  have H1 := hide (check_any s (by omega) w)
  rw [c1] at H1
  have HSR := hide (fun w2 (hb : Below w.heap.size w w2) => smallRoot_any s n B w2 c1 hs hn h0 (Nat.le_trans hB hb.size) (hT.on hb hB))
  have HRD := hide (fun w => read_good s c1 w)
  have hsi := (chk_ok c1).1
  rw [hn, Lib.itoa_nonneg] at hsi
  have hne : s.data.toList ≠ [] := by rw [hsi]; exact decDigits_ne _
  obtain ⟨hp, hh⟩ := bytes_head hne
  have hp0 : (0 : Int) < (s.size : Int) := by omega
  have h45 : ((s[0].toNat : Int) == 45) = false := by
    have h1 : s[0] ≠ 45 := fun e => by
      rw [e, hsi] at hh
      exact dec_head45 _ hh
    have : s[0].toNat ≠ 45 := fun h => h1 (UInt8.toNat_inj.1 h)
    simp only [beq_eq_false_iff_ne, ne_eq]
    omega
  have hz : (s.toList == [48]) = false := by
    rw [ByteArray.toList_eq]
    have : s.data.toList ≠ [48] := fun e => by
      have h2 := hn
      rw [e, ← itoa_zero, val_itoa] at h2
      omega
    simpa using this
  have hl18 : (s.size : Int) ≤ 18 := by omega
  clear hsi hne hh c1 hs hn hT
  have hfd : ∀ (w : World) (m : Bool) (a : Option Addr) (n c : Nat), (Instr.field 48 (.agg #[.bool m, .slice a n c]) 1).run Tryz.prog w = .ok (.slice a n c) w := fun _ _ _ _ _ => by kernel_rfl
  go_enter Tryz.func21, Tryz.ntmps21
  go_wp2_with fail
  refine H1.out.mono ?_
  rintro e w1 ⟨rfl, hb1⟩
  have HB1 := hide hb1
  clear hb1 H1
  go_wp2_with fail
  refine (HRD.out _).mono ?_
  rintro e w2 ⟨m1, a1, l1, rfl, hb2, o1, n1, q1, k1⟩
  obtain ⟨av, cv, hvf, _, _⟩ := o1.form
  subst hvf
  have HB2 := hide (HB1.out.trans (hb2.mono HB1.out.size))
  clear hb2 HRD o1 n1 q1 HB1 k1
  go_wp2_with fail
  refine (HSR.out _ HB2.out).mono ?_
  rintro e w3 ⟨rfl, hb3⟩
  have HB3 := hide (HB2.out.trans (hb3.mono HB2.out.size))
  clear hb3 HSR HB2
  go_wp2_with fail
  refine bodyPost_ret (results_tmp2 rfl _ _ _) rfl ?_
  exact ⟨rfl, HB3.out⟩
theorem itoa_m4 : Lib.itoa (-4) = [45, 52] := by
  have := Lib.itoa_neg 4 (by omega)
  rw [Lib.decDigits_one (by omega)] at this
  exact this
theorem itoa_m1 : Lib.itoa (-1) = [45, 49] := by
  have := Lib.itoa_neg 1 (by omega)
  rw [Lib.decDigits_one (by omega)] at this
  exact this
theorem itoa_6 : Lib.itoa 6 = [54] := by
  have := Lib.itoa_nonneg 6
  rw [Lib.decDigits_one (by omega)] at this
  exact this
theorem itoa_9 : Lib.itoa 9 = [57] := by
  have := Lib.itoa_nonneg 9
  rw [Lib.decDigits_one (by omega)] at this
  exact this
theorem awake_div1 (B : Nat) (w : World) (hB : B ≤ w.heap.size) (hT : P10 B w) :
    Calls Tryz.prog 17 #[.string ⟨#[45, 55]⟩, .string ⟨#[50]⟩] w (Ret w (.tuple #[.string ⟨#[45, 52]⟩, .string ⟨#[49]⟩, .int .i64 0])) := by
  have h := Divide_small ⟨#[45, 55]⟩ ⟨#[50]⟩ B w (by decide) (by decide) (by decide) (by decide) (by decide) hB hT
  have e1 : valI (⟨#[45, 55]⟩ : ByteArray).data.toList = -7 := by decide
  have e2 : valI (⟨#[50]⟩ : ByteArray).data.toList = 2 := by decide
  rw [e1, e2, show Int.fdiv (-7) 2 = -4 by decide, show Int.fmod (-7) 2 = 1 by decide, itoa_m4, itoa_one] at h
  exact h
theorem awake_div2 (B : Nat) (w : World) (hB : B ≤ w.heap.size) (hT : P10 B w) :
    Calls Tryz.prog 17 #[.string ⟨#[55]⟩, .string ⟨#[45, 50]⟩] w (Ret w (.tuple #[.string ⟨#[45, 52]⟩, .string ⟨#[45, 49]⟩, .int .i64 0])) := by
  have h := Divide_small ⟨#[55]⟩ ⟨#[45, 50]⟩ B w (by decide) (by decide) (by decide) (by decide) (by decide) hB hT
  have e1 : valI (⟨#[55]⟩ : ByteArray).data.toList = 7 := by decide
  have e2 : valI (⟨#[45, 50]⟩ : ByteArray).data.toList = -2 := by decide
  rw [e1, e2, show Int.fdiv 7 (-2) = -4 by decide, show Int.fmod 7 (-2) = -1 by decide, itoa_m4, itoa_m1] at h
  exact h
theorem awake_gcd (B : Nat) (w : World) (hB : B ≤ w.heap.size) (hT : P10 B w) :
    Calls Tryz.prog 19 #[.string ⟨#[49, 50]⟩, .string ⟨#[45, 49, 56]⟩] w (Ret w (.tuple #[.string ⟨#[54]⟩, .int .i64 0])) := by
  have h := Gcd_small ⟨#[49, 50]⟩ ⟨#[45, 49, 56]⟩ B w (by decide) (by decide) (by decide) (by decide) hB hT
  have e1 : valI (⟨#[49, 50]⟩ : ByteArray).data.toList = 12 := by decide
  have e2 : valI (⟨#[45, 49, 56]⟩ : ByteArray).data.toList = -18 := by decide
  rw [e1, e2, show ((Nat.gcd (12 : Int).natAbs (-18 : Int).natAbs : Nat) : Int) = 6 by decide, itoa_6] at h
  exact h
theorem awake_root (B : Nat) (w : World) (hB : B ≤ w.heap.size) (hT : P10 B w) :
    Calls Tryz.prog 21 #[.string ⟨#[57, 57]⟩] w (Ret w (.tuple #[.string ⟨#[57]⟩, .int .i64 0])) := by
  have h := Root_small ⟨#[57, 57]⟩ 99 B w (by decide) (by decide) (by decide) (by decide) hB hT
  rw [rootN_eq (n := 99) (r := 9) (by decide) (by decide), show ((9 : Nat) : Int) = 9 from rfl, itoa_9] at h
  exact h
set_option maxRecDepth 100000 in
set_option maxHeartbeats 2000000 in
theorem awake_any (B : Nat) (w : World) (hB : B ≤ w.heap.size) (hT : P10 B w) :
    Calls Tryz.prog 14 #[] w (Ret w (.bool true)) := by
  have HT := hide hT
  have HC := hide (fun w => check_any ⟨#[45, 48]⟩ (by decide) w)
  rw [show chkI (⟨#[45, 48]⟩ : ByteArray).data.toList = 11 by decide] at HC
  have hmx : ∀ w : World, (Builtin.max_ #[24, 24, 24, 24] 24 #[.int .i64 0, .int .i64 0, .int .i64 0, .int .i64 0]).run Tryz.prog w = .ok (.int .i64 0) w := fun _ => by kernel_rfl
  clear hT
  go_enter Tryz.func14, Tryz.ntmps14
  go_wp2_with fail
  refine (awake_div1 B _ hB HT.out).mono ?_
  rintro e w1 ⟨rfl, hb1⟩
  have HB1 := hide hb1
  clear hb1
  go_wp2_with fail
  refine (awake_div2 B _ (Nat.le_trans hB HB1.out.size) (HT.out.on HB1.out hB)).mono ?_
  rintro e w2 ⟨rfl, hb2⟩
  have HB2 := hide (HB1.out.trans (hb2.mono HB1.out.size))
  clear hb2 HB1
  go_wp2_with fail
  refine (awake_root B _ (Nat.le_trans hB HB2.out.size) (HT.out.on HB2.out hB)).mono ?_
  rintro e w3 ⟨rfl, hb3⟩
  have HB3 := hide (HB2.out.trans (hb3.mono HB2.out.size))
  clear hb3 HB2
  go_wp2_with fail
  refine (awake_gcd B _ (Nat.le_trans hB HB3.out.size) (HT.out.on HB3.out hB)).mono ?_
  rintro e w4 ⟨rfl, hb4⟩
  have HB4 := hide (HB3.out.trans (hb4.mono HB3.out.size))
  clear hb4 HB3
  go_wp2_with fail
  refine (HC.out _).mono ?_
  rintro e w5 ⟨rfl, hb5⟩
  have HB5 := hide (HB4.out.trans (hb5.mono HB4.out.size))
  clear hb5 HB4
  go_wp2_with fail
  go_ret
  exact ⟨rfl, HB5.out⟩
end Go.Proofs.YthkioajalhglfaaGreatDoor
namespace Go.Proofs.YthkioajalhglfaaGreatDoor
open Go.RowKit Go.KP Go.KI Go.Shelf
attribute [local go_sem] Oper.semAt_some

theorem chk_empty {l : List UInt8} (h : digs l = []) : chkI l = 11 := if_pos (.inl h)
theorem chk_zero {l : List UInt8} (h : (digs l).head? = some 48) (h2 : l ≠ [48]) : chkI l = 11 := if_pos (.inr (.inl ⟨h, h2⟩))
theorem chk_nodg {l : List UInt8} {c : UInt8} (h : c ∈ digs l) (h2 : isDg c = false) : chkI l = 11 := by
  refine if_pos (.inr (.inr (fun e => ?_)))
  rw [List.all_eq_true] at e
  have := e c h
  rw [h2] at this
  cases this
theorem chk_rest {l : List UInt8} (h : digs l ≠ []) (h2 : (digs l).head? = some 48 → l = [48]) (h3 : ∀ c ∈ digs l, isDg c = true) : chkI l = if 300 < (digs l).length then 4 else 0 := by
  refine if_neg ?_
  rintro (e | ⟨e, e2⟩ | e)
  · exact h e
  · exact e2 (h2 e)
  · exact e (List.all_eq_true.2 h3)
set_option maxRecDepth 100000 in
set_option maxHeartbeats 4000000 in
theorem rcheck_any (s : ByteArray) (hs : s.size ≤ 1000000) (w : World) :
    Calls Tryz.prog 33 #[.string s] w (Ret w (.int .i64 (chkI s.data.toList))) := by
  by_cases h45 : s.data.toList.head? = some 45
  · have hD : digs s.data.toList = s.data.toList.drop 1 := by
      cases hl : s.data.toList with
      | nil => rfl
      | cons c r =>
        rw [hl] at h45
        injection h45 with h45
        subst h45
        rfl
    obtain ⟨hp, hh⟩ := bytes_head (s := s) (fun e => by rw [e] at h45; cases h45)
    have hp0 : (0 : Int) < (s.size : Int) := by omega
    have p2 : ((s[0].toNat : Int) == 45) = true := by
      rw [hh] at h45
      injection h45 with h45
      rw [h45]
      rfl
    clear hh h45
    by_cases hn0 : s.size = 1
    · have HE := hide (show chkI s.data.toList = 11 from chk_empty (by rw [hD]; exact List.drop_eq_nil_of_le (by rw [bytes_len]; omega)))
      have q1 : ((1 : Int) == (s.size : Int)) = true := by rw [hn0]; rfl
      clear hD hn0
      go_enter Tryz.func33, Tryz.ntmps33
      go_wp2_with fail
      go_ret
      rw [HE.out]
      exact ⟨rfl, Below.refl _ _⟩
    · have hlt : 1 < s.size := by omega
      have hlti : (1 : Int) < (s.size : Int) := by omega
      have q1 : ((1 : Int) == (s.size : Int)) = false := by
        have : ¬ (1 : Int) = (s.size : Int) := by omega
        simpa using this
      have hat : s.data.toList[1]? = some (s[1]'hlt) := by
        have h1 : s.data.toList[1]? = some s.data[1] := by simp
        exact h1
      have hhd : (digs s.data.toList).head? = some (s[1]'hlt) := by rw [hD, List.head?_drop]; exact hat
      by_cases hz : s[1]'hlt = 48 ∧ 1 < s.size
      · have HE := hide (show chkI s.data.toList = 11 from chk_zero (by rw [hhd, hz.1]) (fun e => by have := bytes_len s; rw [e] at this; have := hz.2; simp at *; omega))
        have q2 : (((s[1]'hlt).toNat : Int) == 48) = true := by rw [hz.1]; rfl
        have q3 : (1 : Int) < (s.size : Int) := by have := hz.2; omega
        clear hD hn0 hz hat hhd
        go_enter Tryz.func33, Tryz.ntmps33
        go_wp2_with fail
        go_ret
        rw [HE.out]
        exact ⟨rfl, Below.refl _ _⟩
      · have hway : (((s[1]'hlt).toNat : Int) == 48) = false ∨ ((((s[1]'hlt).toNat : Int) == 48) = true ∧ ((1 : Int) < (s.size : Int)) = False) := by
          by_cases h48 : s[1]'hlt = 48
          · exact .inr ⟨by rw [h48]; rfl, eq_false (by have : ¬ 1 < s.size := fun e => hz ⟨h48, e⟩; omega)⟩
          · refine .inl ?_
            have : (s[1]'hlt).toNat ≠ 48 := fun h => h48 (UInt8.toNat_inj.1 h)
            simp only [beq_eq_false_iff_ne, ne_eq]
            omega
        have HZ := hide (show (digs s.data.toList).head? = some 48 → s.data.toList = [48] from fun e => by
          rw [hhd] at e
          injection e with e
          have h1 : s.size = 1 := by have : ¬ 1 < s.size := fun h => hz ⟨e, h⟩; omega
          have h2 := bytes_len s
          rw [h1] at h2
          obtain ⟨c, hc⟩ := List.length_eq_one_iff.1 h2
          have h0 : (1 : Nat) = 0 := by omega
          have h3 := hat
          rw [e, hc] at h3
          rw [hc]
          first
            | (simp at h3; done)
            | (injection h3 with h3; rw [h3]))
        have HD := hide hD
        clear hD hn0 hz hat hhd
        rcases hway with q2 | ⟨q2, q3⟩
        case inr => exact absurd hlti (fun h => by rw [q3] at h; exact h)
        all_goals
          go_enter Tryz.func33, Tryz.ntmps33
          go_wp2_with fail
          go_loopw [4] (fun i wr => ∃ k : Nat, 1 ≤ k ∧ k ≤ s.size ∧ i = .int .i64 k ∧ Hid (∀ c ∈ (s.data.toList.take k).drop 1, isDg c = true) ∧ wr = w) (fun i _ => s.size - (intOf i).toNat)
          case' atStart => exact ⟨1, Nat.le_refl _, by omega, rfl, fun c hc => by rw [List.drop_eq_nil_of_le (by rw [List.length_take]; omega)] at hc; simp at hc, rfl⟩
          case' round =>
            obtain ⟨k, hk1, hk2, rfl, hin, rfl⟩ := hrel
            by_cases hlt2 : k < s.size
            · have hki : (k : Int) < (s.size : Int) := by omega
              have hk0 : (0 : Int) ≤ (k : Int) := by omega
              have hat2 : s.data.toList[k]? = some (s[k]'hlt2) := by
                have h1 : s.data.toList[k]? = some s.data[k] := by simp
                exact h1
              have hmem : s[k]'hlt2 ∈ digs s.data.toList := by
                rw [HD.out]
                refine List.mem_of_getElem? (i := k - 1) ?_
                rw [List.getElem?_drop, show 1 + (k - 1) = k by omega]
                exact hat2
              obtain ⟨y, hyv⟩ : ∃ y : Nat, y = (s[k]'hlt2).toNat := ⟨_, rfl⟩
              have hyv2 : (s[k]'hlt2).toNat = y := hyv.symm
              by_cases hy1 : y < 48
              · have HE := hide (show chkI s.data.toList = 11 from chk_nodg hmem (by unfold isDg; rw [hyv2, decide_eq_false (by omega : ¬ 48 ≤ y)]; rfl))
                have q4 : (y : Int) < 48 := by omega
                clear hat2 hmem hyv hin hy1
                go_wp2_with fail
                go_ret
                rw [HE.out]
                exact ⟨rfl, Below.refl _ _⟩
              · by_cases hy2 : 57 < y
                · have HE := hide (show chkI s.data.toList = 11 from chk_nodg hmem (by unfold isDg; rw [hyv2, decide_eq_false (by omega : ¬ y ≤ 57), Bool.and_false]))
                  have q4 : ((y : Int) < 48) = False := eq_false (by omega)
                  have q5 : (57 : Int) < (y : Int) := by omega
                  clear hat2 hmem hyv hin hy1 hy2
                  go_wp2_with fail
                  go_ret
                  rw [HE.out]
                  exact ⟨rfl, Below.refl _ _⟩
                · have hdg : isDg (s[k]'hlt2) = true := isDg_iff.2 (by omega)
                  have HN := hide (show ∀ c ∈ (s.data.toList.take (k + 1)).drop 1, isDg c = true from fun c hc => by
                    rw [List.take_add_one, hat2, List.drop_append_of_le_length (by rw [List.length_take, bytes_len]; omega)] at hc
                    rcases List.mem_append.1 hc with h | h
                    · exact hin.out c h
                    · simp at h
                      rw [h]
                      exact hdg)
                  have q4 : ((y : Int) < 48) = False := eq_false (by omega)
                  have q5 : ((57 : Int) < (y : Int)) = False := eq_false (by omega)
                  clear hat2 hmem hyv hin hy1 hy2 hdg
                  go_wp2_with fail
                  go_roundw
                  case rel => exact ⟨k + 1, by omega, by omega, by simp, HN.out, trivial⟩
                  case measure => simp [intOf]; omega
            · obtain rfl : k = s.size := by omega
              have hki : ((s.size : Int) < (s.size : Int)) = False := eq_false (by omega)
              have hlen : (digs s.data.toList).length = s.size - 1 := by rw [HD.out, List.length_drop, bytes_len]
              have hrest := chk_rest (l := s.data.toList) (fun e => by rw [e] at hlen; simp at hlen; omega) HZ.out (fun c hc => by
                rw [HD.out] at hc
                refine hin.out c ?_
                rw [List.take_of_length_le (by rw [bytes_len]; exact Nat.le_refl _)]
                exact hc)
              rw [hlen] at hrest
              by_cases h3 : 300 < s.size - 1
              · rw [if_pos h3] at hrest
                have HE := hide hrest
                have q4 : (300 : Int) < (s.size : Int) - 1 := by omega
                clear hin hlen hrest h3 hlt2
                go_wp2_with fail
                go_ret
                rw [HE.out]
                exact ⟨rfl, Below.refl _ _⟩
              · rw [if_neg h3] at hrest
                have HE := hide hrest
                have q4 : ((300 : Int) < (s.size : Int) - 1) = False := eq_false (by omega)
                clear hin hlen hrest h3 hlt2
                go_wp2_with fail
                go_ret
                rw [HE.out]
                exact ⟨rfl, Below.refl _ _⟩
  · have hD : digs s.data.toList = s.data.toList.drop 0 := by
      rw [List.drop_zero]
      cases hl : s.data.toList with
      | nil => rfl
      | cons c r =>
        rw [hl] at h45
        have : c ≠ 45 := fun e => h45 (by rw [e]; rfl)
        simp [digs, this]
    have hway0 : ((0 : Int) < (s.size : Int)) = False ∨ ∃ hp : 0 < s.size, (0 : Int) < (s.size : Int) ∧ ((s[0].toNat : Int) == 45) = false := by
      by_cases h0 : s.data.toList = []
      · refine .inl (eq_false ?_)
        have := bytes_len s
        rw [h0] at this
        simp at this
        omega
      · obtain ⟨hp, hh⟩ := bytes_head h0
        refine .inr ⟨hp, by omega, ?_⟩
        have h1 : s[0] ≠ 45 := fun e => h45 (by rw [hh, e])
        have : s[0].toNat ≠ 45 := fun h => h1 (UInt8.toNat_inj.1 h)
        simp only [beq_eq_false_iff_ne, ne_eq]
        omega
    clear h45
    rcases hway0 with p1 | ⟨hp, p1, p2⟩
    · have hn0 : s.size = 0 := by
        have : ¬ (0 : Int) < (s.size : Int) := fun h => by rw [p1] at h; exact h
        omega
      have HE := hide (show chkI s.data.toList = 11 from chk_empty (by rw [hD]; exact List.drop_eq_nil_of_le (by rw [bytes_len]; omega)))
      have q1 : ((0 : Int) == (s.size : Int)) = true := by rw [hn0]; rfl
      clear hD hn0
      go_enter Tryz.func33, Tryz.ntmps33
      go_wp2_with fail
      go_ret
      rw [HE.out]
      exact ⟨rfl, Below.refl _ _⟩
    have hp0 : (0 : Int) < (s.size : Int) := by omega
    by_cases hn0 : s.size = 0
    · have HE := hide (show chkI s.data.toList = 11 from chk_empty (by rw [hD]; exact List.drop_eq_nil_of_le (by rw [bytes_len]; omega)))
      have q1 : ((0 : Int) == (s.size : Int)) = true := by rw [hn0]; rfl
      clear hD hn0
      go_enter Tryz.func33, Tryz.ntmps33
      go_wp2_with fail
      go_ret
      rw [HE.out]
      exact ⟨rfl, Below.refl _ _⟩
    · have hlt : 0 < s.size := by omega
      have hlti : (0 : Int) < (s.size : Int) := by omega
      have q1 : ((0 : Int) == (s.size : Int)) = false := by
        have : ¬ (0 : Int) = (s.size : Int) := by omega
        simpa using this
      have hat : s.data.toList[0]? = some (s[0]'hlt) := by
        have h1 : s.data.toList[0]? = some s.data[0] := by simp
        exact h1
      have hhd : (digs s.data.toList).head? = some (s[0]'hlt) := by rw [hD, List.head?_drop]; exact hat
      by_cases hz : s[0]'hlt = 48 ∧ 1 < s.size
      · have HE := hide (show chkI s.data.toList = 11 from chk_zero (by rw [hhd, hz.1]) (fun e => by have := bytes_len s; rw [e] at this; have := hz.2; simp at *; omega))
        have q2 : (((s[0]'hlt).toNat : Int) == 48) = true := by rw [hz.1]; rfl
        have q3 : (1 : Int) < (s.size : Int) := by have := hz.2; omega
        clear hD hn0 hz hat hhd
        go_enter Tryz.func33, Tryz.ntmps33
        go_wp2_with fail
        go_ret
        rw [HE.out]
        exact ⟨rfl, Below.refl _ _⟩
      · have hway : (((s[0]'hlt).toNat : Int) == 48) = false ∨ ((((s[0]'hlt).toNat : Int) == 48) = true ∧ ((1 : Int) < (s.size : Int)) = False) := by
          by_cases h48 : s[0]'hlt = 48
          · exact .inr ⟨by rw [h48]; rfl, eq_false (by have : ¬ 1 < s.size := fun e => hz ⟨h48, e⟩; omega)⟩
          · refine .inl ?_
            have : (s[0]'hlt).toNat ≠ 48 := fun h => h48 (UInt8.toNat_inj.1 h)
            simp only [beq_eq_false_iff_ne, ne_eq]
            omega
        have HZ := hide (show (digs s.data.toList).head? = some 48 → s.data.toList = [48] from fun e => by
          rw [hhd] at e
          injection e with e
          have h1 : s.size = 1 := by have : ¬ 1 < s.size := fun h => hz ⟨e, h⟩; omega
          have h2 := bytes_len s
          rw [h1] at h2
          obtain ⟨c, hc⟩ := List.length_eq_one_iff.1 h2
          have h0 : (0 : Nat) = 0 := by omega
          have h3 := hat
          rw [e, hc] at h3
          rw [hc]
          first
            | (simp at h3; done)
            | (injection h3 with h3; rw [h3]))
        have HD := hide hD
        clear hD hn0 hz hat hhd
        rcases hway with q2 | ⟨q2, q3⟩
        all_goals
          go_enter Tryz.func33, Tryz.ntmps33
          go_wp2_with fail
          go_loopw [4] (fun i wr => ∃ k : Nat, 0 ≤ k ∧ k ≤ s.size ∧ i = .int .i64 k ∧ Hid (∀ c ∈ (s.data.toList.take k).drop 0, isDg c = true) ∧ wr = w) (fun i _ => s.size - (intOf i).toNat)
          case' atStart => exact ⟨0, Nat.le_refl _, by omega, rfl, fun c hc => by rw [List.drop_eq_nil_of_le (by rw [List.length_take]; omega)] at hc; simp at hc, rfl⟩
          case' round =>
            obtain ⟨k, hk1, hk2, rfl, hin, rfl⟩ := hrel
            by_cases hlt2 : k < s.size
            · have hki : (k : Int) < (s.size : Int) := by omega
              have hk0 : (0 : Int) ≤ (k : Int) := by omega
              have hat2 : s.data.toList[k]? = some (s[k]'hlt2) := by
                have h1 : s.data.toList[k]? = some s.data[k] := by simp
                exact h1
              have hmem : s[k]'hlt2 ∈ digs s.data.toList := by
                rw [HD.out]
                refine List.mem_of_getElem? (i := k - 0) ?_
                rw [List.getElem?_drop, show 0 + (k - 0) = k by omega]
                exact hat2
              obtain ⟨y, hyv⟩ : ∃ y : Nat, y = (s[k]'hlt2).toNat := ⟨_, rfl⟩
              have hyv2 : (s[k]'hlt2).toNat = y := hyv.symm
              by_cases hy1 : y < 48
              · have HE := hide (show chkI s.data.toList = 11 from chk_nodg hmem (by unfold isDg; rw [hyv2, decide_eq_false (by omega : ¬ 48 ≤ y)]; rfl))
                have q4 : (y : Int) < 48 := by omega
                clear hat2 hmem hyv hin hy1
                go_wp2_with fail
                go_ret
                rw [HE.out]
                exact ⟨rfl, Below.refl _ _⟩
              · by_cases hy2 : 57 < y
                · have HE := hide (show chkI s.data.toList = 11 from chk_nodg hmem (by unfold isDg; rw [hyv2, decide_eq_false (by omega : ¬ y ≤ 57), Bool.and_false]))
                  have q4 : ((y : Int) < 48) = False := eq_false (by omega)
                  have q5 : (57 : Int) < (y : Int) := by omega
                  clear hat2 hmem hyv hin hy1 hy2
                  go_wp2_with fail
                  go_ret
                  rw [HE.out]
                  exact ⟨rfl, Below.refl _ _⟩
                · have hdg : isDg (s[k]'hlt2) = true := isDg_iff.2 (by omega)
                  have HN := hide (show ∀ c ∈ (s.data.toList.take (k + 1)).drop 0, isDg c = true from fun c hc => by
                    rw [List.take_add_one, hat2, List.drop_append_of_le_length (by rw [List.length_take, bytes_len]; omega)] at hc
                    rcases List.mem_append.1 hc with h | h
                    · exact hin.out c h
                    · simp at h
                      rw [h]
                      exact hdg)
                  have q4 : ((y : Int) < 48) = False := eq_false (by omega)
                  have q5 : ((57 : Int) < (y : Int)) = False := eq_false (by omega)
                  clear hat2 hmem hyv hin hy1 hy2 hdg
                  go_wp2_with fail
                  go_roundw
                  case rel => exact ⟨k + 1, by omega, by omega, by simp, HN.out, trivial⟩
                  case measure => simp [intOf]; omega
            · obtain rfl : k = s.size := by omega
              have hki : ((s.size : Int) < (s.size : Int)) = False := eq_false (by omega)
              have hlen : (digs s.data.toList).length = s.size - 0 := by rw [HD.out, List.length_drop, bytes_len]
              have hrest := chk_rest (l := s.data.toList) (fun e => by rw [e] at hlen; simp at hlen; omega) HZ.out (fun c hc => by
                rw [HD.out] at hc
                refine hin.out c ?_
                rw [List.take_of_length_le (by rw [bytes_len]; exact Nat.le_refl _)]
                exact hc)
              rw [hlen] at hrest
              by_cases h3 : 300 < s.size - 0
              · rw [if_pos h3] at hrest
                have HE := hide hrest
                have q4 : (300 : Int) < (s.size : Int) := by omega
                clear hin hlen hrest h3 hlt2
                go_wp2_with fail
                go_ret
                rw [HE.out]
                exact ⟨rfl, Below.refl _ _⟩
              · rw [if_neg h3] at hrest
                have HE := hide hrest
                have q4 : ((300 : Int) < (s.size : Int)) = False := eq_false (by omega)
                clear hin hlen hrest h3 hlt2
                go_wp2_with fail
                go_ret
                rw [HE.out]
                exact ⟨rfl, Below.refl _ _⟩
end Go.Proofs.YthkioajalhglfaaGreatDoor
namespace Go.Proofs.YthkioajalhglfaaGreatDoor
open Go.RowKit Go.KP Go.KI Go.Shelf
attribute [local go_sem] Oper.semAt_some

/-- A list of texts that may be used. -/
def fineS (s : ByteArray) : Prop := s.size ≤ 80 ∧ chkI s.data.toList = 0
instance (s : ByteArray) : Decidable (fineS s) := by unfold fineS; infer_instance
set_option maxRecDepth 100000 in
set_option maxHeartbeats 4000000 in
theorem fine_any (b : Nat) (l : List ByteArray) (w : World) (hl : l.length ≤ 1000) (hc : ∀ (i : Nat) s, l[i]? = some s → w.cell? ⟨b, i, none⟩ = some (.string s)) (hb : b < w.heap.size) :
    Calls Tryz.prog 25 #[.slice (some ⟨b, 0, none⟩) l.length l.length] w (Ret w (.bool (decide (∀ s ∈ l, fineS s)))) := by
  obtain ⟨n, hn⟩ : ∃ n, n = l.length := ⟨_, rfl⟩
  rw [← hn] at hl ⊢
  have HC := hide hc; have HN := hide hn
  clear hc hn
  go_enter Tryz.func25, Tryz.ntmps25
  go_wp2_with fail
  go_loopw [7] (fun i wr => ∃ k : Nat, k ≤ n ∧ i = .int .i64 k ∧ Hid ((∀ s ∈ l.take k, fineS s) ∧ Below w.heap.size w wr)) (fun i _ => n - (intOf i).toNat)
  case atStart => exact ⟨0, Nat.zero_le _, rfl, fun s hs => by simp at hs, Below.refl _ _⟩
  case round =>
    obtain ⟨k, hk, rfl, hin⟩ := hrel
    have IN := hide hin.out
    clear hin
    by_cases hlt : k < n
    · have hki : (k : Int) < (n : Int) := by omega
      have hk0 : (0 : Int) ≤ (k : Int) := by omega
      obtain ⟨s, hs⟩ : ∃ s, l[k]? = some s := ⟨_, List.getElem?_eq_getElem (by rw [← HN.out]; exact hlt)⟩
      have hmem : s ∈ l := List.mem_of_getElem? hs
      have hcell : wr.cell? ⟨b, k, none⟩ = some (.string s) := by
        rw [← HC.out k s hs]
        simp only [World.cell?, IN.out.2.block b hb]
      have HS := hide hs
      clear hs
      by_cases h80 : 80 < s.size
      · have HE := hide (show decide (∀ s ∈ l, fineS s) = false from decide_eq_false (fun e => by have := (e s hmem).1; omega))
        have q1 : (80 : Int) < (s.size : Int) := by omega
        clear h80 hmem hlt
        go_wp2_with fail
        go_ret
        rw [HE.out]
        exact ⟨rfl, IN.out.2⟩
      · have q1 : ((80 : Int) < (s.size : Int)) = False := eq_false (by omega)
        have HR := hide (rcheck_any s (by omega) wr)
        by_cases hch : chkI s.data.toList = 0
        · have HF := hide (show fineS s from ⟨by omega, hch⟩)
          rw [hch] at HR
          clear h80 hmem hch hlt
          go_wp2_with fail
          refine HR.out.mono ?_
          rintro e w2 ⟨rfl, hb2⟩
          have HB2 := hide (IN.out.2.trans (hb2.mono IN.out.2.size))
          clear hb2 HR hcell
          go_wp2_with fail
          go_roundw
          case rel =>
            refine ⟨k + 1, by omega, by simp, ?_, HB2.out⟩
            intro c hc
            rw [List.take_add_one, HS.out] at hc
            rcases List.mem_append.1 hc with h | h
            · exact IN.out.1 c h
            · simp at h
              rw [h]
              exact HF.out
          case measure => simp [intOf]; omega
        · have HE := hide (show decide (∀ s ∈ l, fineS s) = false from decide_eq_false (fun e => hch (e s hmem).2))
          have q2 : (chkI s.data.toList != 0) = true := by simpa using hch
          obtain ⟨E, hE⟩ : ∃ E, E = chkI s.data.toList := ⟨_, rfl⟩
          rw [← hE] at HR q2
          clear h80 hmem hch hlt hE
          go_wp2_with fail
          refine HR.out.mono ?_
          rintro e w2 ⟨rfl, hb2⟩
          have HB2 := hide (IN.out.2.trans (hb2.mono IN.out.2.size))
          clear hb2 HR hcell
          go_wp2_with fail
          go_ret
          rw [HE.out]
          exact ⟨rfl, HB2.out⟩
    · obtain rfl : k = n := by omega
      have hki : ((k : Int) < (k : Int)) = False := eq_false (by omega)
      have HE := hide (show decide (∀ s ∈ l, fineS s) = true from decide_eq_true (fun s hs => IN.out.1 s (by rw [List.take_of_length_le (by rw [← HN.out]; exact Nat.le_refl _)]; exact hs)))
      clear hlt
      go_wp2_with fail
      go_ret
      rw [HE.out]
      exact ⟨rfl, IN.out.2⟩
end Go.Proofs.YthkioajalhglfaaGreatDoor
namespace Go.Proofs.YthkioajalhglfaaGreatDoor
open Go.RowKit Go.KP Go.KI Go.Shelf
attribute [local go_sem] Oper.semAt_some

theorem resS_fine {z : Int} (h : z.natAbs < 10 ^ 290) : resS z = Lib.itoa z ∧ resE z = 0 := by
  have : fits z := fits_small (n := 290) (by rw [most_eq]; omega) h
  exact ⟨if_pos this, if_pos this⟩
theorem fine_val {s : ByteArray} (h : fineS s) : (valI s.data.toList).natAbs < 10 ^ 80 := short_val h.2 (by rw [bytes_len]; exact h.1) (by omega)
theorem fine_eq {s t : ByteArray} (h1 : fineS s) (h2 : fineS t) : s = t ↔ valI s.data.toList = valI t.data.toList :=
  ⟨fun e => by rw [e], fun e => bytes_eq (by rw [(chk_ok h1.2).1, (chk_ok h2.2).1, e])⟩
theorem cmp_neg (x y : Int) : Lib.compareInt y x = - Lib.compareInt x y := by
  unfold Lib.compareInt
  split <;> split <;> (try split) <;> (try split) <;> omega
theorem cmp_same {x y x2 y2 : Int} (h : x - y = x2 - y2) : Lib.compareInt x y = Lib.compareInt x2 y2 := by
  unfold Lib.compareInt
  split <;> split <;> (try split) <;> (try split) <;> omega
theorem cmp_zero {x y : Int} : Lib.compareInt x y = 0 ↔ x = y := by
  unfold Lib.compareInt
  split
  · omega
  · split <;> omega
theorem cmp_bound (x y : Int) : -1 ≤ Lib.compareInt x y ∧ Lib.compareInt x y ≤ 1 := by
  unfold Lib.compareInt
  split
  · omega
  · split <;> omega
theorem both_fine {s t : ByteArray} (h1 : fineS s) (h2 : fineS t) : bothI s.data.toList t.data.toList = 0 := by unfold bothI; rw [if_pos h1.2, h2.2]
/-- Compare at two good texts. -/
theorem Compare_good {s t : ByteArray} {x y : Int} (h1 : s.data.toList = Lib.itoa x) (h2 : t.data.toList = Lib.itoa y) (f1 : fits x) (f2 : fits y) (w : World) :
    Calls Tryz.prog 30 #[.string s, .string t] w (Ret w (.tuple #[.int .i64 (Lib.compareInt x y), .int .i64 0])) := by
  have c1 : chkI s.data.toList = 0 := by rw [h1]; exact chk_fits f1
  have c2 : chkI t.data.toList = 0 := by rw [h2]; exact chk_fits f2
  have b : bothI s.data.toList t.data.toList = 0 := by unfold bothI; rw [if_pos c1, c2]
  have l1 := (chk_digs c1).2
  have l2 := (chk_digs c2).2
  rw [bytes_len] at l1 l2
  have := Compare_any s t w (by omega) (by omega)
  rw [b] at this
  unfold cmpV at this
  rw [if_pos b, h1, h2, val_itoa, val_itoa] at this
  exact this
theorem Add_good {s t : ByteArray} {x y : Int} (h1 : s.data.toList = Lib.itoa x) (h2 : t.data.toList = Lib.itoa y) (f1 : fits x) (f2 : fits y) (f3 : fits (x + y)) (B : Nat) (w : World) (hB : B ≤ w.heap.size) (hT : P10 B w) :
    Calls Tryz.prog 26 #[.string s, .string t] w (Ret w (pairV (Lib.itoa (x + y)) 0)) := by
  have c1 : chkI s.data.toList = 0 := by rw [h1]; exact chk_fits f1
  have c2 : chkI t.data.toList = 0 := by rw [h2]; exact chk_fits f2
  have b : bothI s.data.toList t.data.toList = 0 := by unfold bothI; rw [if_pos c1, c2]
  have l1 := (chk_digs c1).2
  have l2 := (chk_digs c2).2
  rw [bytes_len] at l1 l2
  obtain ⟨_, _, e1, e2⟩ := op2_good (f := (· + ·)) b
  have := Add_any s t B w (by omega) (by omega) hB hT
  rw [e1, e2, h1, h2, val_itoa, val_itoa] at this
  simpa [resS, resE, f3] using this
theorem Sub_good {s t : ByteArray} {x y : Int} (h1 : s.data.toList = Lib.itoa x) (h2 : t.data.toList = Lib.itoa y) (f1 : fits x) (f2 : fits y) (f3 : fits (x - y)) (B : Nat) (w : World) (hB : B ≤ w.heap.size) (hT : P10 B w) :
    Calls Tryz.prog 27 #[.string s, .string t] w (Ret w (pairV (Lib.itoa (x - y)) 0)) := by
  have c1 : chkI s.data.toList = 0 := by rw [h1]; exact chk_fits f1
  have c2 : chkI t.data.toList = 0 := by rw [h2]; exact chk_fits f2
  have b : bothI s.data.toList t.data.toList = 0 := by unfold bothI; rw [if_pos c1, c2]
  have l1 := (chk_digs c1).2
  have l2 := (chk_digs c2).2
  rw [bytes_len] at l1 l2
  obtain ⟨_, _, e1, e2⟩ := op2_good (f := (· - ·)) b
  have := Sub_any s t B w (by omega) (by omega) hB hT
  rw [e1, e2, h1, h2, val_itoa, val_itoa] at this
  simpa [resS, resE, f3] using this
end Go.Proofs.YthkioajalhglfaaGreatDoor
namespace Go.Proofs.YthkioajalhglfaaGreatDoor
open Go.RowKit Go.KP Go.KI Go.Shelf
attribute [local go_sem] Oper.semAt_some

theorem heap_three (w : World) (a b c : ByteArray) (t : TypeId) (i : Nat) (s : ByteArray) (h : [a, b, c][i]? = some s) : (w.alloc (.cells #[.string a, .string b, .string c] t)).cell? ⟨w.heap.size, i, none⟩ = some (.string s) := by
  obtain ⟨g0, _, _⟩ := heap1 w (.cells #[.string a, .string b, .string c] t)
  rw [cell_blk g0 i]
  match i with
  | 0 => simpa using h
  | 1 => simpa using h
  | 2 => simpa using h
  | n + 3 => simp at h
set_option maxRecDepth 100000 in
set_option maxHeartbeats 4000000 in
theorem order_any (a b c : ByteArray) (B : Nat) (w : World) (hB : B ≤ w.heap.size) (hT : P10 B w) :
    Calls Tryz.prog 9 #[.string a, .string b, .string c] w (Ret w (.bool true)) := by
  have HT := hide hT
  have HAW := hide (fun w2 (hb : Below w.heap.size w w2) => awake_any B w2 (Nat.le_trans hB hb.size) (hT.on hb hB))
  clear hT
  have HF := hide (fun t => fine_any w.heap.size [a, b, c] (w.alloc (.cells #[.string a, .string b, .string c] t)) (by simp) (heap_three w a b c t) (by simp))
  obtain ⟨F, hF⟩ : ∃ F, F = decide (∀ s ∈ [a, b, c], fineS s) := ⟨_, rfl⟩
  rw [← hF] at HF
  cases F
  · have G0 := hide (fun o => (heap1 w o).2.2)
    clear hF
    go_enter Tryz.func9, Tryz.ntmps9
    go_wp2_with fail
    refine (HF.out _).mono ?_
    rintro e w1 ⟨rfl, hb1⟩
    have HB1 := hide ((G0.out _).trans (hb1.mono (G0.out _).size))
    clear hb1 HF G0
    go_wp2_with fail
    refine (HAW.out _ HB1.out).mono ?_
    rintro e w2 ⟨rfl, hb2⟩
    have HB2 := hide (HB1.out.trans (hb2.mono HB1.out.size))
    clear hb2 HAW HB1
    go_wp2_with fail
    go_ret
    exact ⟨rfl, HB2.out⟩
  · have hf := of_decide_eq_true hF.symm
    have fa := hf a (by simp)
    have fb := hf b (by simp)
    have fc := hf c (by simp)
    clear hF hf
    have va := fine_val fa
    have vb := fine_val fb
    have vc := fine_val fc
    have ea := (chk_ok fa.2).1
    have eb := (chk_ok fb.2).1
    have ec := (chk_ok fc.2).1
    have hab := fine_eq fa fb
    obtain ⟨x, hx⟩ : ∃ x, x = valI a.data.toList := ⟨_, rfl⟩
    obtain ⟨y, hy⟩ : ∃ y, y = valI b.data.toList := ⟨_, rfl⟩
    obtain ⟨z, hz⟩ : ∃ z, z = valI c.data.toList := ⟨_, rfl⟩
    rw [← hx] at va ea hab
    rw [← hy] at vb eb hab
    rw [← hz] at vc ec
    have hp : (10 : Nat) ^ 80 + 10 ^ 80 ≤ 10 ^ 90 := by
      have h1 : (10 : Nat) ^ 81 ≤ 10 ^ 90 := Nat.pow_le_pow_right (by omega) (by omega)
      have h2 : (10 : Nat) ^ 81 = 10 ^ 80 * 10 := Nat.pow_succ ..
      omega
    obtain ⟨p, hp2⟩ : ∃ p, p = (10 : Nat) ^ 80 := ⟨_, rfl⟩
    rw [← hp2] at hp va vb vc
    have fz : ∀ u : Int, u.natAbs < p + p → fits u := fun u hu => fits_small (n := 90) (by rw [most_eq]; omega) (by omega)
    have C1 := hide (fun w => Compare_good ea eb (fz x (by omega)) (fz y (by omega)) w)
    have C2 := hide (fun w => Compare_good eb ea (fz y (by omega)) (fz x (by omega)) w)
    have S1 := hide (fun B w => Sub_good ea eb (fz x (by omega)) (fz y (by omega)) (fz (x - y) (by omega)) B w)
    have C3 := hide (fun w => Compare_good (s := strB (Lib.itoa (x - y))) (t := ⟨#[48]⟩) (strB_list _) itoa_zero.symm (fz (x - y) (by omega)) (fz 0 (by omega)) w)
    have A1 := hide (fun B w => Add_good ea ec (fz x (by omega)) (fz z (by omega)) (fz (x + z) (by omega)) B w)
    have A2 := hide (fun B w => Add_good eb ec (fz y (by omega)) (fz z (by omega)) (fz (y + z) (by omega)) B w)
    have C4 := hide (fun w => Compare_good (s := strB (Lib.itoa (x + z))) (t := strB (Lib.itoa (y + z))) (strB_list _) (strB_list _) (fz (x + z) (by omega)) (fz (y + z) (by omega)) w)
    obtain ⟨k1, k2⟩ := cmp_bound x y
    have k3 := cmp_neg x y
    have k4 := cmp_same (x := x - y) (y := 0) (x2 := x) (y2 := y) (by omega)
    have k5 := cmp_same (x := x + z) (y := y + z) (x2 := x) (y2 := y) (by omega)
    have k6 := cmp_zero (x := x) (y := y)
    rw [k3] at C2
    rw [k4] at C3
    rw [k5] at C4
    obtain ⟨C, hC⟩ : ∃ C, C = Lib.compareInt x y := ⟨_, rfl⟩
    rw [← hC] at C1 C2 C3 C4 k1 k2 k6
    have hmx : ∀ w : World, (Builtin.max_ #[24, 24, 24, 24, 24, 24, 24] 24 #[.int .i64 0, .int .i64 0, .int .i64 0, .int .i64 0, .int .i64 0, .int .i64 0, .int .i64 0]).run Tryz.prog w = .ok (.int .i64 0) w := fun _ => by kernel_rfl
    obtain ⟨E, hE⟩ : ∃ E : Bool, (C == 0) = E ∧ (a.toList == b.toList) = E := by
      by_cases h : C = 0
      · exact ⟨true, by simpa using h, by rw [hab.2 (k6.1 h)]; exact beq_self_eq_true _⟩
      · refine ⟨false, by simpa using h, ?_⟩
        have : a.toList ≠ b.toList := fun e => h (k6.2 (hab.1 (bytes_eq (by rw [← ByteArray.toList_eq, ← ByteArray.toList_eq, e]))))
        exact beq_eq_false_iff_ne.2 this
    obtain ⟨t1, t2⟩ := hE
    have t3 : IntKind.i64.wrap (- -C) = C := by rw [Int.neg_neg]; exact IntWalk.i64_in _ (by omega)
    have G0 := hide (fun o => (heap1 w o).2.2)
    clear fa fb fc va vb vc ea eb ec hab hx hy hz hp hp2 fz k3 k4 k5 k6 hC
    go_enter Tryz.func9, Tryz.ntmps9
    go_wp2_with fail
    refine (HF.out _).mono ?_
    rintro e w1 ⟨rfl, hb1⟩
    have HB1 := hide ((G0.out _).trans (hb1.mono (G0.out _).size))
    clear hb1 HF G0
    go_wp2_with fail
    refine (C1.out _).mono ?_
    rintro e w2 ⟨rfl, hb2⟩
    have HB2 := hide (HB1.out.trans (hb2.mono HB1.out.size))
    clear hb2 C1 HB1
    go_wp2_with fail
    refine (C2.out _).mono ?_
    rintro e w3 ⟨rfl, hb3⟩
    have HB3 := hide (HB2.out.trans (hb3.mono HB2.out.size))
    clear hb3 C2 HB2
    go_wp2_with fail
    refine (S1.out B _ (Nat.le_trans hB HB3.out.size) (HT.out.on HB3.out hB)).mono ?_
    rintro e w4 ⟨rfl, hb4⟩
    have HB4 := hide (HB3.out.trans (hb4.mono HB3.out.size))
    clear hb4 S1 HB3
    go_wp2_with fail
    refine (C3.out _).mono ?_
    rintro e w5 ⟨rfl, hb5⟩
    have HB5 := hide (HB4.out.trans (hb5.mono HB4.out.size))
    clear hb5 C3 HB4
    go_wp2_with fail
    refine (A1.out B _ (Nat.le_trans hB HB5.out.size) (HT.out.on HB5.out hB)).mono ?_
    rintro e w6 ⟨rfl, hb6⟩
    have HB6 := hide (HB5.out.trans (hb6.mono HB5.out.size))
    clear hb6 A1 HB5
    go_wp2_with fail
    refine (A2.out B _ (Nat.le_trans hB HB6.out.size) (HT.out.on HB6.out hB)).mono ?_
    rintro e w7 ⟨rfl, hb7⟩
    have HB7 := hide (HB6.out.trans (hb7.mono HB6.out.size))
    clear hb7 A2 HB6
    go_wp2_with fail
    refine (C4.out _).mono ?_
    rintro e w8 ⟨rfl, hb8⟩
    have HB8 := hide (HB7.out.trans (hb8.mono HB7.out.size))
    clear hb8 C4 HB7
    go_wp2_with fail
    refine (HAW.out _ HB8.out).mono ?_
    rintro e w9 ⟨rfl, hb9⟩
    have HB9 := hide (HB8.out.trans (hb9.mono HB8.out.size))
    clear hb9 HAW HB8
    go_wp2_with fail
    go_ret
    exact ⟨rfl, HB9.out⟩
end Go.Proofs.YthkioajalhglfaaGreatDoor
