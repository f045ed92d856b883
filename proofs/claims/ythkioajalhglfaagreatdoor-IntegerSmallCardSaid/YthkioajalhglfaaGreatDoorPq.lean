/-
  Integers: Divide of short numbers walked.
-/
import Derived.Test.YthkioajalhglfaaGreatDoorPo
import Derived.BigQuiet
namespace Go.Proofs.YthkioajalhglfaaGreatDoor
open Go.RowKit Go.KP Go.KI Go.Shelf
attribute [local go_sem] Oper.semAt_some

theorem natAbs_tmod_lt (x : Int) {y : Int} (hy : y ≠ 0) : (x.tmod y).natAbs < y.natAbs := by
  rw [Int.natAbs_tmod]
  exact Nat.mod_lt _ (by omega)
theorem natAbs_tdiv_le (x y : Int) : (x.tdiv y).natAbs ≤ x.natAbs := by
  rw [Int.natAbs_tdiv]
  exact Nat.div_le_self _ _
/-- The floor's quotient, from the cut-off one. -/
theorem floor_same {x y : Int} (hy : y ≠ 0) (h : x.tmod y = 0 ∨ (x.tmod y < 0 ↔ y < 0)) : x.tdiv y = x.fdiv y ∧ x.tmod y = x.fmod y := by
  have h1 := Int.mul_tdiv_add_tmod x y
  have h2 := natAbs_tmod_lt x hy
  rcases Int.lt_or_gt_of_ne hy with hn | hp
  · have := (Int.fdiv_fmod_unique' (a := x) (r := x.tmod y) (q := x.tdiv y) hn).2 ⟨by omega, by omega, by omega⟩
    exact ⟨this.1.symm, this.2.symm⟩
  · have := (Int.fdiv_fmod_unique (a := x) (r := x.tmod y) (q := x.tdiv y) hp).2 ⟨by omega, by omega, by omega⟩
    exact ⟨this.1.symm, this.2.symm⟩
theorem floor_less {x y : Int} (hy : y ≠ 0) (h0 : x.tmod y ≠ 0) (h : ¬ (x.tmod y < 0 ↔ y < 0)) : x.tdiv y - 1 = x.fdiv y ∧ x.tmod y + y = x.fmod y := by
  have h1 := Int.mul_tdiv_add_tmod x y
  have h2 := natAbs_tmod_lt x hy
  have h3 : y * (x.tdiv y - 1) = y * x.tdiv y - y := by rw [Int.mul_sub, Int.mul_one]
  rcases Int.lt_or_gt_of_ne hy with hn | hp
  · have := (Int.fdiv_fmod_unique' (a := x) (r := x.tmod y + y) (q := x.tdiv y - 1) hn).2 ⟨by omega, by omega, by omega⟩
    exact ⟨this.1.symm, this.2.symm⟩
  · have := (Int.fdiv_fmod_unique (a := x) (r := x.tmod y + y) (q := x.tdiv y - 1) hp).2 ⟨by omega, by omega, by omega⟩
    exact ⟨this.1.symm, this.2.symm⟩
/-- Three values: two texts and an error. -/
abbrev tripV (s r : List UInt8) (e : Int) : Value := .tuple #[.string (strB s), .string (strB r), .int .i64 e]
theorem results_tmp3' {fn : Func} {t u v : Tmp} (h : fn.results = #[.tmp t, .tmp u, .tmp v]) (tmps : Array Value) (P : Program) (w : World) :
    (results fn tmps).run P w = .ok (.tuple #[tmps.getD t undef, tmps.getD u undef, tmps.getD v undef]) w := by
  simp [results, h, go_sem]
set_option maxRecDepth 100000 in
set_option maxHeartbeats 2000000 in
theorem Divide_small (s t : ByteArray) (B : Nat) (w : World) (c1 : chkI s.data.toList = 0) (c2 : chkI t.data.toList = 0) (hs : s.size ≤ 18) (ht : t.size ≤ 18) (h0 : t.data.toList ≠ [48]) (hB : B ≤ w.heap.size) (hT : P10 B w) :
    Calls Tryz.prog 17 #[.string s, .string t] w (Ret w (tripV (Lib.itoa ((valI s.data.toList).fdiv (valI t.data.toList))) (Lib.itoa ((valI s.data.toList).fmod (valI t.data.toList))) 0)) := by
  have H1 := hide (both_any s t (by omega) (by omega) w)
  have hb0 : bothI s.data.toList t.data.toList = 0 := by unfold bothI; rw [if_pos c1, c2]
  rw [hb0] at H1
  have HT := hide hT
  have H2 := hide (fun w => small_yes s t c1 c2 hs ht w)
  have v1 := short_val (n := 18) c1 (by rw [bytes_len]; exact hs) (by omega)
  have v2 := short_val (n := 18) c2 (by rw [bytes_len]; exact ht) (by omega)
  rw [pow18] at v1 v2
  have hy0 : valI t.data.toList ≠ 0 := by
    intro e
    have := (chk_ok c2).1
    rw [e, itoa_zero] at this
    exact h0 this
  have hq : (t.toList == [48]) = false := by rw [ByteArray.toList_eq]; simpa using h0
  obtain ⟨x, hx⟩ : ∃ x, x = valI s.data.toList := ⟨_, rfl⟩
  obtain ⟨y, hy⟩ : ∃ y, y = valI t.data.toList := ⟨_, rfl⟩
  rw [← hx, ← hy] at H2 ⊢
  rw [← hx] at v1
  rw [← hy] at v2 hy0
  have r1 := natAbs_tmod_lt x hy0
  have q1 := natAbs_tdiv_le x y
  have hyq : (y == 0) = false := by simpa using hy0
  clear c1 c2 hs ht h0 hT hx hy hb0
  go_enter Tryz.func17, Tryz.ntmps17
  go_wp2_with fail
  refine H1.out.mono ?_
  rintro e w1 ⟨rfl, hb1⟩
  have HB1 := hide hb1
  clear hb1 H1
  go_wp2_with fail
  refine (H2.out _).mono ?_
  rintro e w2 ⟨rfl, hb2⟩
  have HB2 := hide (HB1.out.trans (hb2.mono HB1.out.size))
  clear hb2 H2 HB1
  go_wp2_with fail
  go_quiet (fail)
  obtain ⟨w3, hw3⟩ : ∃ w3, w3 = w2.drewN nq := ⟨_, rfl⟩
  rw [← hw3]
  have HB3 := hide (show Below w.heap.size w w3 by rw [hw3]; exact ⟨HB2.out.os, HB2.out.tape, HB2.out.output, HB2.out.size, HB2.out.block⟩)
  clear hw3 HB2
  have FS := hide (floor_same (x := x) hy0); have FL := hide (floor_less (x := x) hy0)
  obtain ⟨q, hq2⟩ : ∃ q, q = x.tdiv y := ⟨_, rfl⟩
  obtain ⟨r, hr2⟩ : ∃ r, r = x.tmod y := ⟨_, rfl⟩
  rw [← hq2] at q1
  rw [← hr2] at r1
  rw [← hq2, ← hr2] at FS FL ⊢
  clear hq2 hr2 hyq hy0 hq
  obtain ⟨g, hg⟩ : ∃ g, g = x.fdiv y := ⟨_, rfl⟩
  obtain ⟨h, hh⟩ : ∃ h, h = x.fmod y := ⟨_, rfl⟩
  rw [← hg, ← hh] at FS FL
  have HG := hide hg; have HH := hide hh
  clear hg hh
  by_cases hr0 : r = 0
  · obtain ⟨f1, f2⟩ := FS.out (.inl hr0)
    have t1 : (r != 0) = false := by simp [hr0]
    have F1 := hide (f1.trans HG.out); have F2 := hide (f2.trans HH.out)
    clear hr0 f1 f2
    go_wp2_with fail
    refine (itoa_any q (by omega) (by omega) B _ (HT.out.on HB3.out hB)).mono ?_
    rintro e w4 ⟨rfl, hb4⟩
    have HB4 := hide (HB3.out.trans (hb4.mono HB3.out.size))
    clear hb4 HB3
    go_wp2_with fail
    refine (itoa_any r (by omega) (by omega) B _ (HT.out.on HB4.out hB)).mono ?_
    rintro e w5 ⟨rfl, hb5⟩
    have HB5 := hide (HB4.out.trans (hb5.mono HB4.out.size))
    clear hb5 HB4
    go_wp2_with fail
    refine bodyPost_ret (results_tmp3' rfl _ _ _) rfl ?_
    exact ⟨by rw [← F1.out, ← F2.out]; rfl, HB5.out⟩
  · have t1 : (r != 0) = true := by simpa using hr0
    by_cases h1 : r < 0
    · by_cases h2 : y < 0
      · obtain ⟨f1, f2⟩ := FS.out (.inr ⟨fun _ => h2, fun _ => h1⟩)
        have F1 := hide (f1.trans HG.out); have F2 := hide (f2.trans HH.out)
        clear hr0 f1 f2
        go_wp2_with fail
        refine (itoa_any q (by omega) (by omega) B _ (HT.out.on HB3.out hB)).mono ?_
        rintro e w4 ⟨rfl, hb4⟩
        have HB4 := hide (HB3.out.trans (hb4.mono HB3.out.size))
        clear hb4 HB3
        go_wp2_with fail
        refine (itoa_any r (by omega) (by omega) B _ (HT.out.on HB4.out hB)).mono ?_
        rintro e w5 ⟨rfl, hb5⟩
        have HB5 := hide (HB4.out.trans (hb5.mono HB4.out.size))
        clear hb5 HB4
        go_wp2_with fail
        refine bodyPost_ret (results_tmp3' rfl _ _ _) rfl ?_
        exact ⟨by rw [← F1.out, ← F2.out]; rfl, HB5.out⟩
      · obtain ⟨f1, f2⟩ := FL.out hr0 (fun e => h2 (e.1 h1))
        have F1 := hide (f1.trans HG.out); have F2 := hide (f2.trans HH.out)
        have t2 : (y < 0) = False := eq_false h2
        clear hr0 f1 f2 h2
        go_wp2_with fail
        refine (itoa_any (q-1) (by omega) (by omega) B _ (HT.out.on HB3.out hB)).mono ?_
        rintro e w4 ⟨rfl, hb4⟩
        have HB4 := hide (HB3.out.trans (hb4.mono HB3.out.size))
        clear hb4 HB3
        go_wp2_with fail
        refine (itoa_any (r+y) (by omega) (by omega) B _ (HT.out.on HB4.out hB)).mono ?_
        rintro e w5 ⟨rfl, hb5⟩
        have HB5 := hide (HB4.out.trans (hb5.mono HB4.out.size))
        clear hb5 HB4
        go_wp2_with fail
        refine bodyPost_ret (results_tmp3' rfl _ _ _) rfl ?_
        exact ⟨by rw [← F1.out, ← F2.out]; rfl, HB5.out⟩
    · by_cases h2 : y < 0
      · obtain ⟨f1, f2⟩ := FL.out hr0 (fun e => h1 (e.2 h2))
        have F1 := hide (f1.trans HG.out); have F2 := hide (f2.trans HH.out)
        have t2 : (r < 0) = False := eq_false h1
        clear hr0 f1 f2 h1
        go_wp2_with fail
        refine (itoa_any (q-1) (by omega) (by omega) B _ (HT.out.on HB3.out hB)).mono ?_
        rintro e w4 ⟨rfl, hb4⟩
        have HB4 := hide (HB3.out.trans (hb4.mono HB3.out.size))
        clear hb4 HB3
        go_wp2_with fail
        refine (itoa_any (r+y) (by omega) (by omega) B _ (HT.out.on HB4.out hB)).mono ?_
        rintro e w5 ⟨rfl, hb5⟩
        have HB5 := hide (HB4.out.trans (hb5.mono HB4.out.size))
        clear hb5 HB4
        go_wp2_with fail
        refine bodyPost_ret (results_tmp3' rfl _ _ _) rfl ?_
        exact ⟨by rw [← F1.out, ← F2.out]; rfl, HB5.out⟩
      · obtain ⟨f1, f2⟩ := FS.out (.inr ⟨fun e => absurd e h1, fun e => absurd e h2⟩)
        have F1 := hide (f1.trans HG.out); have F2 := hide (f2.trans HH.out)
        have t2 : (r < 0) = False := eq_false h1
        have t3 : (y < 0) = False := eq_false h2
        clear hr0 f1 f2 h1 h2
        go_wp2_with fail
        refine (itoa_any q (by omega) (by omega) B _ (HT.out.on HB3.out hB)).mono ?_
        rintro e w4 ⟨rfl, hb4⟩
        have HB4 := hide (HB3.out.trans (hb4.mono HB3.out.size))
        clear hb4 HB3
        go_wp2_with fail
        refine (itoa_any r (by omega) (by omega) B _ (HT.out.on HB4.out hB)).mono ?_
        rintro e w5 ⟨rfl, hb5⟩
        have HB5 := hide (HB4.out.trans (hb5.mono HB4.out.size))
        clear hb5 HB4
        go_wp2_with fail
        refine bodyPost_ret (results_tmp3' rfl _ _ _) rfl ?_
        exact ⟨by rw [← F1.out, ← F2.out]; rfl, HB5.out⟩
end Go.Proofs.YthkioajalhglfaaGreatDoor
