/-
  The reference's members walked.; Members: the kinds along lines walked.; Members: the member of a line, and the small member, walked.; A region that draws its order, quiet in a class of worlds; guarded operations may be among them.
-/
import Derived.Test.YtbfojhneajedmaaGreatDoorM16
import Derived.Test.YtbfojhneajedmaaGreatDoorM18
import Derived.Test.YtbfojhneajedmaaGreatDoorM12
import Derived.Test.YtbfojhneajedmaaGreatDoorM3
import Derived.WideMake
namespace Go.Proofs.YtbfojhneajedmaaGreatDoor
open Go.RowKit Go.KP Go.KI Go.Shelf
attribute [local go_sem] Oper.semAt_some

set_option maxRecDepth 100000 in
set_option maxHeartbeats 4000000 in
theorem r28size_at (n : Int) (w : World) : Calls Tryz.prog 74 #[.int .i64 n] w (fun e w' => e = .returned (.bool (decide (1 ≤ n ∧ n ≤ 1000))) ∧ w' = w) := by
  by_cases h1 : 1 ≤ n
  · by_cases h2 : n ≤ 1000
    · rw [decide_eq_true ⟨h1, h2⟩]
      go_enter Tryz.func74, Tryz.ntmps74
      go_wp2_with fail
      go_ret
      exact ⟨rfl, rfl⟩
    · rw [decide_eq_false (fun e => h2 e.2)]
      have h3 := eq_false h2
      clear h2
      go_enter Tryz.func74, Tryz.ntmps74
      go_wp2_with fail
      go_ret
      exact ⟨rfl, rfl⟩
  · rw [decide_eq_false (fun e => h1 e.1)]
    have h3 := eq_false h1
    clear h1
    go_enter Tryz.func74, Tryz.ntmps74
    go_wp2_with fail
    go_ret
    exact ⟨rfl, rfl⟩
set_option maxRecDepth 100000 in
set_option maxHeartbeats 4000000 in
theorem r2Parts_T {q : Rat} (fq : fitsQ q) (B : Nat) (w : World) (hB : B ≤ w.heap.size) (hT : PQ B w) :
    Calls Tryz.prog 163 #[.string (T q)] w (Ret w (.tuple #[.string (iB q.num), .string (iB (q.den : Int)), .int .i64 0])) := by
  have HT := hide hT
  have HC := hide (fun w hB hT => r2Check_T fq B w hB hT)
  have HP := hide (fun w => r2parts_T fq w)
  obtain ⟨X, hX⟩ : ∃ X, X = T q := ⟨_, rfl⟩
  obtain ⟨N, hN⟩ : ∃ X, X = iB q.num := ⟨_, rfl⟩
  obtain ⟨D, hD⟩ : ∃ X, X = iB (q.den : Int) := ⟨_, rfl⟩
  simp only [← hX, ← hN, ← hD] at HC HP ⊢
  clear hX hN hD fq hT
  go_enter Tryz.func163, Tryz.ntmps163
  go_wp2_with fail
  refine (HC.out _ hB HT.out).mono ?_
  rintro e w1 ⟨rfl, hb1⟩
  have HB1 := hide hb1
  clear hb1
  go_wp2_with fail
  refine (HP.out _).mono ?_
  rintro e w2 ⟨rfl, hb2⟩
  have HB2 := hide (HB1.out.trans (hb2.mono HB1.out.size))
  clear hb2
  go_wp2_with fail
  refine ret3v rfl rfl rfl rfl rfl ?_
  exact ⟨rfl, HB2.out⟩
set_option maxRecDepth 100000 in
set_option maxHeartbeats 4000000 in
theorem r28long_no {q : Rat} (hq : sz 36 q) (B : Nat) (w : World) (hB : B ≤ w.heap.size) (hT : PQ B w) :
    Calls Tryz.prog 124 #[.string (T q)] w (Ret w (.bool false)) := by
  have fq : fitsQ q := sz_fits hq (by rw [most_eq]; omega)
  have HT := hide hT
  have HP := hide (fun w hB hT => r2Parts_T fq B w hB hT)
  obtain ⟨hp, he⟩ := iB_head q.num
  have hs := iB_size fq.1
  have h1 : (Lib.decDigits q.num.natAbs).length ≤ 36 := (dec_len_le (by omega)).2 hq.1
  have h2 : (iB (q.den : Int)).size ≤ 36 := by
    rw [← bytes_len, iB_nonneg (by omega), Int.natAbs_natCast]
    exact (dec_len_le (by omega)).2 hq.2
  have h2i : ((36 : Int) < ((iB (q.den : Int)).size : Int)) = False := eq_false (by omega)
  have hp0 : (0 : Int) < ((iB q.num).size : Int) := by omega
  have hp1 : (1 : Int) ≤ ((iB q.num).size : Int) := by omega
  have hk : (((((iB q.num)[0]'hp).toNat : Nat) : Int) == 45) = true ∧ ((36 : Int) < (((iB q.num).size - 1 : Nat) : Int)) = False ∨
      (((((iB q.num)[0]'hp).toNat : Nat) : Int) == 45) = false ∧ ((36 : Int) < ((iB q.num).size : Int)) = False := by
    by_cases h : q.num < 0
    · refine .inl ⟨by rw [he, decide_eq_true h], eq_false ?_⟩
      have e := congrArg ByteArray.size (iB_neg_drop h)
      rw [ByteArray.size_extract, ← bytes_len (iB (-q.num)), iB_nonneg (by omega), Int.natAbs_neg] at e
      omega
    · refine .inr ⟨by rw [he, decide_eq_false h], eq_false ?_⟩
      have e : (iB q.num).size = (Lib.decDigits q.num.natAbs).length := by rw [← bytes_len, iB_nonneg (by omega)]
      omega
  obtain ⟨X, hX⟩ : ∃ X, X = T q := ⟨_, rfl⟩
  obtain ⟨D, hD⟩ : ∃ X, X = iB (q.den : Int) := ⟨_, rfl⟩
  simp only [← hX, ← hD] at HP h2i ⊢
  clear hX hD he hs h1 h2 fq hq hT
  rcases hk with ⟨k1, k3⟩ | ⟨k1, k3⟩
  all_goals
    go_enter Tryz.func124, Tryz.ntmps124
    go_wp2_with fail
    refine (HP.out _ hB HT.out).mono ?_
    rintro e w1 ⟨rfl, hb1⟩
    have HB1 := hide hb1
    clear hb1
    go_wp2_with fail
    go_ret
    exact ⟨rfl, HB1.out⟩
set_option maxRecDepth 100000 in
set_option maxHeartbeats 4000000 in
theorem r28longSpot_no {a : V3} (ha : szV 36 a) (B : Nat) (w : World) (hB : B ≤ w.heap.size) (hT : PQ B w) :
    Calls Tryz.prog 71 #[vecV a] w (Ret w (.bool false)) := by
  have HT := hide hT
  have H1 := hide (fun w hB hT => r28long_no ha.1 B w hB hT)
  have H2 := hide (fun w hB hT => r28long_no ha.2.1 B w hB hT)
  have H3 := hide (fun w hB hT => r28long_no ha.2.2 B w hB hT)
  have X0 := hide (heap1 w (vecO a))
  clear ha hT
  go_enter Tryz.func71, Tryz.ntmps71
  go_wp2_with fail
  refine (H1.out _ (Nat.le_trans hB X0.out.2.2.size) (HT.out.on X0.out.2.2 hB)).mono ?_
  rintro e w1 ⟨rfl, hb1⟩
  have G0 := hide (below_blk hb1 (X0.out.1) (lt_blk (X0.out.1)))
  have HB1 := hide (Below.trans (X0.out.2.2) (hb1.mono (X0.out.2.2).size))
  clear hb1
  have q0_0 := cell_blk G0.out 0
  have q0_1 := cell_blk G0.out 1
  have q0_2 := cell_blk G0.out 2
  have q0_l := lt_blk G0.out
  go_wp2_with fail
  refine (H2.out _ (Nat.le_trans hB HB1.out.size) (HT.out.on HB1.out hB)).mono ?_
  rintro e w2 ⟨rfl, hb2⟩
  clear q0_0 q0_1 q0_2 q0_l
  have G0 := hide (below_blk hb2 G0.out (lt_blk G0.out))
  have HB2 := hide (Below.trans (HB1.out) (hb2.mono (HB1.out).size))
  clear hb2
  have q0_0 := cell_blk G0.out 0
  have q0_1 := cell_blk G0.out 1
  have q0_2 := cell_blk G0.out 2
  have q0_l := lt_blk G0.out
  go_wp2_with fail
  refine (H3.out _ (Nat.le_trans hB HB2.out.size) (HT.out.on HB2.out hB)).mono ?_
  rintro e w3 ⟨rfl, hb3⟩
  clear q0_0 q0_1 q0_2 q0_l
  have G0 := hide (below_blk hb3 G0.out (lt_blk G0.out))
  have HB3 := hide (Below.trans (HB2.out) (hb3.mono (HB2.out).size))
  clear hb3
  have q0_0 := cell_blk G0.out 0
  have q0_1 := cell_blk G0.out 1
  have q0_2 := cell_blk G0.out 2
  have q0_l := lt_blk G0.out
  go_wp2_with fail
  go_ret
  exact ⟨rfl, HB3.out⟩
set_option maxRecDepth 100000 in
set_option maxHeartbeats 16000000 in
theorem r28Check_any (k f o : Int) (a b : S3) (wd dp : Int) (ha : tiny3 a) (hb : tiny3 b) (B : Nat) (w : World) (hB : B ≤ w.heap.size) (hT : PQ B w) :
    Calls Tryz.prog 28 #[memTV k f o a b wd dp] w (Ret w (.int .i64 (memE k f o a b wd dp))) := by
  have HT := hide hT
  have X0 := hide (heap1 w (memTO k f o a b wd dp))
  have HS1 := hide (fun w => r28size_at wd w)
  have HS2 := hide (fun w => r28size_at dp w)
  rcases mem_ways k f o a b wd dp ha hb with ⟨h1, e⟩ | ⟨h1, h2, h3, e⟩ | ⟨h1, h2, h3, h4, h5, e⟩ | ⟨h1, h2, h3, h4, h5, h6, h7, h8, h⟩
  · rw [e]
    clear e ha hb hT HS1 HS2
    rcases h1 with g1 | ⟨g0, g2⟩
    · skip
      go_enter Tryz.func28, Tryz.ntmps28
      go_wp2_with fail
      go_ret
      exact ⟨rfl, X0.out.2.2⟩
    · have g1 := eq_false g0
      clear g0
      go_enter Tryz.func28, Tryz.ntmps28
      go_wp2_with fail
      go_ret
      exact ⟨rfl, X0.out.2.2⟩
  · rw [e]
    have g1 := eq_false h1
    have g2 := eq_false h2
    clear e ha hb hT HS1 HS2 h1 h2
    rcases h3 with g3 | ⟨g0, g4⟩
    · skip
      go_enter Tryz.func28, Tryz.ntmps28
      go_wp2_with fail
      go_ret
      exact ⟨rfl, X0.out.2.2⟩
    · have g3 := eq_false g0
      clear g0
      go_enter Tryz.func28, Tryz.ntmps28
      go_wp2_with fail
      go_ret
      exact ⟨rfl, X0.out.2.2⟩
  · rw [e]
    have g1 := eq_false h1
    have g2 := eq_false h2
    have g3 := eq_false h3
    have g4 := eq_false h4
    rcases h5 with h5 | ⟨h5, h6, h7⟩
    · rw [decide_eq_false (by omega)] at HS1
      clear e ha hb hT HS2 h1 h2 h3 h4 h5
      go_enter Tryz.func28, Tryz.ntmps28
      go_wp2_with fail
      refine (HS1.out _).mono ?_
      rintro e w0 ⟨rfl, rfl⟩
      go_wp2_with fail
      go_ret
      exact ⟨rfl, X0.out.2.2⟩
    · rw [decide_eq_true (by omega)] at HS1
      rw [decide_eq_false (by omega)] at HS2
      clear e ha hb hT h1 h2 h3 h4 h5 h6 h7
      go_enter Tryz.func28, Tryz.ntmps28
      go_wp2_with fail
      refine (HS1.out _).mono ?_
      rintro e w0 ⟨rfl, rfl⟩
      go_wp2_with fail
      refine (HS2.out _).mono ?_
      rintro e w0 ⟨rfl, rfl⟩
      go_wp2_with fail
      go_ret
      exact ⟨rfl, X0.out.2.2⟩
  · have g1 := eq_false h1
    have g2 := eq_false h2
    have g3 := eq_false h3
    have g4 := eq_false h4
    rw [decide_eq_true (by omega)] at HS1
    rw [decide_eq_true (by omega)] at HS2
    have HC1 := hide (fun w hB hT => r9chk_S ha B w hB hT)
    have HC2 := hide (fun w hB hT => r9chk_S hb B w hB hT)
    rcases h with ⟨c1, e⟩ | ⟨c1, c2, e⟩ | ⟨c1, c2, A, C, sA, sC, rfl, rfl, e⟩
    · rw [e]
      have q1 : (chkS a != 0) = true := by simpa using c1
      obtain ⟨E, hE⟩ : ∃ E, E = chkS a := ⟨_, rfl⟩
      rw [← hE] at HC1 q1 ⊢
      clear e c1 hE h1 h2 h3 h4 h5 h6 h7 h8 ha hb hT
      go_enter Tryz.func28, Tryz.ntmps28
      go_wp2_with fail
      refine (HS1.out _).mono ?_
      rintro e w0 ⟨rfl, rfl⟩
      go_wp2_with fail
      refine (HS2.out _).mono ?_
      rintro e w0 ⟨rfl, rfl⟩
      go_wp2_with fail
      refine (HC1.out _ (Nat.le_trans hB X0.out.2.2.size) (HT.out.on X0.out.2.2 hB)).mono ?_
      rintro e w1 ⟨rfl, hb1⟩
      have G0 := hide (below_blk hb1 (X0.out.1) (lt_blk (X0.out.1)))
      have HB1 := hide (Below.trans (X0.out.2.2) (hb1.mono (X0.out.2.2).size))
      clear hb1
      have q0_0 := cell_blk G0.out 0
      have q0_1 := cell_blk G0.out 1
      have q0_2 := cell_blk G0.out 2
      have q0_3 := cell_blk G0.out 3
      have q0_4 := cell_blk G0.out 4
      have q0_5 := cell_blk G0.out 5
      have q0_6 := cell_blk G0.out 6
      have q0_7 := cell_blk G0.out 7
      have q0_8 := cell_blk G0.out 8
      have q0_9 := cell_blk G0.out 9
      have q0_10 := cell_blk G0.out 10
      have q0_l := lt_blk G0.out
      go_wp2_with fail
      go_ret
      exact ⟨rfl, HB1.out⟩
    · rw [e]
      have q1 : (chkS b != 0) = true := by simpa using c2
      rw [c1] at HC1
      obtain ⟨E, hE⟩ : ∃ E, E = chkS b := ⟨_, rfl⟩
      rw [← hE] at HC2 q1 ⊢
      clear e c1 c2 hE h1 h2 h3 h4 h5 h6 h7 h8 ha hb hT
      go_enter Tryz.func28, Tryz.ntmps28
      go_wp2_with fail
      refine (HS1.out _).mono ?_
      rintro e w0 ⟨rfl, rfl⟩
      go_wp2_with fail
      refine (HS2.out _).mono ?_
      rintro e w0 ⟨rfl, rfl⟩
      go_wp2_with fail
      refine (HC1.out _ (Nat.le_trans hB X0.out.2.2.size) (HT.out.on X0.out.2.2 hB)).mono ?_
      rintro e w1 ⟨rfl, hb1⟩
      have G0 := hide (below_blk hb1 (X0.out.1) (lt_blk (X0.out.1)))
      have HB1 := hide (Below.trans (X0.out.2.2) (hb1.mono (X0.out.2.2).size))
      clear hb1
      have q0_0 := cell_blk G0.out 0
      have q0_1 := cell_blk G0.out 1
      have q0_2 := cell_blk G0.out 2
      have q0_3 := cell_blk G0.out 3
      have q0_4 := cell_blk G0.out 4
      have q0_5 := cell_blk G0.out 5
      have q0_6 := cell_blk G0.out 6
      have q0_7 := cell_blk G0.out 7
      have q0_8 := cell_blk G0.out 8
      have q0_9 := cell_blk G0.out 9
      have q0_10 := cell_blk G0.out 10
      have q0_l := lt_blk G0.out
      go_wp2_with fail
      refine (HC2.out _ (Nat.le_trans hB HB1.out.size) (HT.out.on HB1.out hB)).mono ?_
      rintro e w2 ⟨rfl, hb2⟩
      clear q0_0 q0_1 q0_2 q0_3 q0_4 q0_5 q0_6 q0_7 q0_8 q0_9 q0_10 q0_l
      have G0 := hide (below_blk hb2 G0.out (lt_blk G0.out))
      have HB2 := hide (Below.trans (HB1.out) (hb2.mono (HB1.out).size))
      clear hb2
      have q0_0 := cell_blk G0.out 0
      have q0_1 := cell_blk G0.out 1
      have q0_2 := cell_blk G0.out 2
      have q0_3 := cell_blk G0.out 3
      have q0_4 := cell_blk G0.out 4
      have q0_5 := cell_blk G0.out 5
      have q0_6 := cell_blk G0.out 6
      have q0_7 := cell_blk G0.out 7
      have q0_8 := cell_blk G0.out 8
      have q0_9 := cell_blk G0.out 9
      have q0_10 := cell_blk G0.out 10
      have q0_l := lt_blk G0.out
      go_wp2_with fail
      go_ret
      exact ⟨rfl, HB2.out⟩
    · rw [e]
      rw [c1] at HC1
      rw [c2] at HC2
      have HL1 := hide (fun w hB hT => r28longSpot_no (szV_mono sA (by omega)) B w hB hT)
      have HL2 := hide (fun w hB hT => r28longSpot_no (szV_mono sC (by omega)) B w hB hT)
      have he := eqSpot_T A C
      obtain ⟨r, hr⟩ : ∃ r, r = decide (A = C) := ⟨_, rfl⟩
      have hw : (r = true ∧ (if A = C then (12 : Int) else 0) = 12) ∨ (r = false ∧ (if A = C then (12 : Int) else 0) = 0) := by
        by_cases h : A = C
        · exact .inl ⟨by rw [hr, decide_eq_true h], if_pos h⟩
        · exact .inr ⟨by rw [hr, decide_eq_false h], if_neg h⟩
      simp only [← hr] at he
      clear hr e c1 c2 h1 h2 h3 h4 h5 h6 h7 h8 ha hb hT sA sC
      rcases hw with ⟨rfl, e⟩ | ⟨rfl, e⟩ <;> rw [e] <;> clear e
      all_goals
        go_enter Tryz.func28, Tryz.ntmps28
        go_wp2_with fail
        refine (HS1.out _).mono ?_
        rintro e w0 ⟨rfl, rfl⟩
        go_wp2_with fail
        refine (HS2.out _).mono ?_
        rintro e w0 ⟨rfl, rfl⟩
        go_wp2_with fail
        refine (HC1.out _ (Nat.le_trans hB X0.out.2.2.size) (HT.out.on X0.out.2.2 hB)).mono ?_
        rintro e w1 ⟨rfl, hb1⟩
        have G0 := hide (below_blk hb1 (X0.out.1) (lt_blk (X0.out.1)))
        have HB1 := hide (Below.trans (X0.out.2.2) (hb1.mono (X0.out.2.2).size))
        clear hb1
        have q0_0 := cell_blk G0.out 0
        have q0_1 := cell_blk G0.out 1
        have q0_2 := cell_blk G0.out 2
        have q0_3 := cell_blk G0.out 3
        have q0_4 := cell_blk G0.out 4
        have q0_5 := cell_blk G0.out 5
        have q0_6 := cell_blk G0.out 6
        have q0_7 := cell_blk G0.out 7
        have q0_8 := cell_blk G0.out 8
        have q0_9 := cell_blk G0.out 9
        have q0_10 := cell_blk G0.out 10
        have q0_l := lt_blk G0.out
        go_wp2_with fail
        refine (HC2.out _ (Nat.le_trans hB HB1.out.size) (HT.out.on HB1.out hB)).mono ?_
        rintro e w2 ⟨rfl, hb2⟩
        clear q0_0 q0_1 q0_2 q0_3 q0_4 q0_5 q0_6 q0_7 q0_8 q0_9 q0_10 q0_l
        have G0 := hide (below_blk hb2 G0.out (lt_blk G0.out))
        have HB2 := hide (Below.trans (HB1.out) (hb2.mono (HB1.out).size))
        clear hb2
        have q0_0 := cell_blk G0.out 0
        have q0_1 := cell_blk G0.out 1
        have q0_2 := cell_blk G0.out 2
        have q0_3 := cell_blk G0.out 3
        have q0_4 := cell_blk G0.out 4
        have q0_5 := cell_blk G0.out 5
        have q0_6 := cell_blk G0.out 6
        have q0_7 := cell_blk G0.out 7
        have q0_8 := cell_blk G0.out 8
        have q0_9 := cell_blk G0.out 9
        have q0_10 := cell_blk G0.out 10
        have q0_l := lt_blk G0.out
        go_wp2_with fail
        refine (HL1.out _ (Nat.le_trans hB HB2.out.size) (HT.out.on HB2.out hB)).mono ?_
        rintro e w3 ⟨rfl, hb3⟩
        clear q0_0 q0_1 q0_2 q0_3 q0_4 q0_5 q0_6 q0_7 q0_8 q0_9 q0_10 q0_l
        have G0 := hide (below_blk hb3 G0.out (lt_blk G0.out))
        have HB3 := hide (Below.trans (HB2.out) (hb3.mono (HB2.out).size))
        clear hb3
        have q0_0 := cell_blk G0.out 0
        have q0_1 := cell_blk G0.out 1
        have q0_2 := cell_blk G0.out 2
        have q0_3 := cell_blk G0.out 3
        have q0_4 := cell_blk G0.out 4
        have q0_5 := cell_blk G0.out 5
        have q0_6 := cell_blk G0.out 6
        have q0_7 := cell_blk G0.out 7
        have q0_8 := cell_blk G0.out 8
        have q0_9 := cell_blk G0.out 9
        have q0_10 := cell_blk G0.out 10
        have q0_l := lt_blk G0.out
        go_wp2_with fail
        refine (HL2.out _ (Nat.le_trans hB HB3.out.size) (HT.out.on HB3.out hB)).mono ?_
        rintro e w4 ⟨rfl, hb4⟩
        clear q0_0 q0_1 q0_2 q0_3 q0_4 q0_5 q0_6 q0_7 q0_8 q0_9 q0_10 q0_l
        have G0 := hide (below_blk hb4 G0.out (lt_blk G0.out))
        have HB4 := hide (Below.trans (HB3.out) (hb4.mono (HB3.out).size))
        clear hb4
        have q0_0 := cell_blk G0.out 0
        have q0_1 := cell_blk G0.out 1
        have q0_2 := cell_blk G0.out 2
        have q0_3 := cell_blk G0.out 3
        have q0_4 := cell_blk G0.out 4
        have q0_5 := cell_blk G0.out 5
        have q0_6 := cell_blk G0.out 6
        have q0_7 := cell_blk G0.out 7
        have q0_8 := cell_blk G0.out 8
        have q0_9 := cell_blk G0.out 9
        have q0_10 := cell_blk G0.out 10
        have q0_l := lt_blk G0.out
        go_wp2_with fail
        go_ret
        exact ⟨rfl, HB4.out⟩
set_option maxRecDepth 100000 in
set_option maxHeartbeats 4000000 in
theorem r28Direction_bad (k f o : Int) (a b : S3) (wd dp : Int) (ha : tiny3 a) (hb : tiny3 b) (he : memE k f o a b wd dp ≠ 0) (B : Nat) (w : World) (hB : B ≤ w.heap.size) (hT : PQ B w) :
    Calls Tryz.prog 20 #[memTV k f o a b wd dp] w (Ret w (.tuple #[noV, .int .i64 1])) := by
  have HT := hide hT
  have HC := hide (fun w hB hT => r28Check_any k f o a b wd dp ha hb B w hB hT)
  have hne : (memE k f o a b wd dp != 0) = true := by simpa using he
  obtain ⟨E, hE⟩ : ∃ E, E = memE k f o a b wd dp := ⟨_, rfl⟩
  rw [← hE] at HC hne
  have X0 := hide (heap2 w (memTO k f o a b wd dp) (spotO ⟨#[]⟩ ⟨#[]⟩ ⟨#[]⟩))
  clear hE he ha hb hT
  go_enter Tryz.func20, Tryz.ntmps20
  go_wp2_with fail
  refine (HC.out _ (Nat.le_trans hB X0.out.2.2.2.size) (HT.out.on X0.out.2.2.2 hB)).mono ?_
  rintro e w1 ⟨rfl, hb1⟩
  have G0 := hide (below_blk hb1 (X0.out.2.1) (lt_blk (X0.out.2.1)))
  have HB1 := hide (Below.trans (X0.out.2.2.2) (hb1.mono (X0.out.2.2.2).size))
  clear hb1
  have q0_0 := cell_blk G0.out 0
  have q0_1 := cell_blk G0.out 1
  have q0_2 := cell_blk G0.out 2
  have q0_l := lt_blk G0.out
  have f0 := froz_blk G0.out 0
  have f1 := froz_blk G0.out 1
  have f2 := froz_blk G0.out 2
  go_wp2_with fail
  exact exit_spotE rfl (set3c (set3b (set3a G0.out _) _) _) rfl rfl rfl ⟨rfl, below_spot HB1.out (show w.heap.size ≤ w.heap.size + 1 by omega) _ _ _⟩
theorem memE_ok {k f o : Int} {a b : V3} {wd dp : Int} (h : Mem k f o a b wd dp) (za : tiny3 ⟨T a.x, T a.y, T a.z⟩) (zb : tiny3 ⟨T b.x, T b.y, T b.z⟩) : memE k f o ⟨T a.x, T a.y, T a.z⟩ ⟨T b.x, T b.y, T b.z⟩ wd dp = 0 := by
  rcases mem_ways k f o _ _ wd dp za zb with ⟨h1, e⟩ | ⟨h1, h2, h3, e⟩ | ⟨h1, h2, h3, h4, h5, e⟩ | ⟨h1, h2, h3, h4, h5, h6, h7, h8, hh⟩
  · have := h.k1; have := h.k2; omega
  · have := h.f0; have := h.o0; omega
  · have := h.w1; have := h.w2; have := h.d1; have := h.d2; omega
  · rcases hh with ⟨c1, _⟩ | ⟨_, c2, _⟩ | ⟨_, _, A, C, _, _, e1, e2, e⟩
    · exact absurd (chk3_zero.2 ⟨(T_chk h.fa.1).2, (T_chk h.fa.2.1).2, (T_chk h.fa.2.2).2⟩) c1
    · exact absurd (chk3_zero.2 ⟨(T_chk h.fb.1).2, (T_chk h.fb.2.1).2, (T_chk h.fb.2.2).2⟩) c2
    · rw [e, if_neg]
      intro hAC
      subst hAC
      rw [← e2] at e1
      have q := S3.mk.inj e1
      exact h.ne (V3.ext (T_inj q.1) (T_inj q.2.1) (T_inj q.2.2))
set_option maxRecDepth 100000 in
set_option maxHeartbeats 4000000 in
theorem r28Direction_to {k f o : Int} {a b : V3} {wd dp : Int} (h : Mem k f o a b wd dp) (ta : szV 30 a) (tb : szV 30 b) (za : tiny3 ⟨T a.x, T a.y, T a.z⟩) (zb : tiny3 ⟨T b.x, T b.y, T b.z⟩) (B : Nat) (w : World) (hB : B ≤ w.heap.size) (hT : PQ B w) :
    Calls Tryz.prog 20 #[memV k f o a b wd dp] w (Ret w (.tuple #[vecV (vsub b a), .int .i64 0])) := by
  have HT := hide hT
  have HC := hide (fun w hB hT => r28Check_any k f o ⟨T a.x, T a.y, T a.z⟩ ⟨T b.x, T b.y, T b.z⟩ wd dp za zb B w hB hT)
  rw [memE_ok h za zb] at HC
  have HS := hide (fun w hB hT => (r9Sub_O h.fb h.fa B w hB hT).mono fun _ _ hr => ResV.of (sub2_sz tb ta (by rw [most_eq]; omega)) hr)
  obtain ⟨r, hr⟩ : ∃ r, r = vsub b a := ⟨_, rfl⟩
  rw [← hr] at HS ⊢
  have X0 := hide (heap2 w (memO k f o a b wd dp) (spotO ⟨#[]⟩ ⟨#[]⟩ ⟨#[]⟩))
  clear h ta tb za zb hT hr
  go_enter Tryz.func20, Tryz.ntmps20
  go_wp2_with fail
  refine (HC.out _ (Nat.le_trans hB X0.out.2.2.2.size) (HT.out.on X0.out.2.2.2 hB)).mono ?_
  rintro e w1 ⟨rfl, hb1⟩
  have G0 := hide (below_blk hb1 (X0.out.1) (lt_blk (X0.out.1)))
  have G1 := hide (below_blk hb1 (X0.out.2.1) (lt_blk (X0.out.2.1)))
  have HB1 := hide (Below.trans (X0.out.2.2.2) (hb1.mono (X0.out.2.2.2).size))
  clear hb1
  have q0_0 := cell_blk G0.out 0
  have q0_1 := cell_blk G0.out 1
  have q0_2 := cell_blk G0.out 2
  have q0_3 := cell_blk G0.out 3
  have q0_4 := cell_blk G0.out 4
  have q0_5 := cell_blk G0.out 5
  have q0_6 := cell_blk G0.out 6
  have q0_7 := cell_blk G0.out 7
  have q0_8 := cell_blk G0.out 8
  have q0_9 := cell_blk G0.out 9
  have q0_10 := cell_blk G0.out 10
  have q0_l := lt_blk G0.out
  have q1_0 := cell_blk G1.out 0
  have q1_1 := cell_blk G1.out 1
  have q1_2 := cell_blk G1.out 2
  have q1_l := lt_blk G1.out
  go_wp2_with fail
  refine (HS.out _ (Nat.le_trans hB HB1.out.size) (HT.out.on HB1.out hB)).mono ?_
  rintro e w2 ⟨rfl, hb2⟩
  clear q0_0 q0_1 q0_2 q0_3 q0_4 q0_5 q0_6 q0_7 q0_8 q0_9 q0_10 q1_0 q1_1 q1_2 q0_l q1_l
  have G0 := hide (below_blk hb2 G0.out (lt_blk G0.out))
  have G1 := hide (below_blk hb2 G1.out (lt_blk G1.out))
  have HB2 := hide (Below.trans (HB1.out) (hb2.mono (HB1.out).size))
  clear hb2
  have q0_0 := cell_blk G0.out 0
  have q0_1 := cell_blk G0.out 1
  have q0_2 := cell_blk G0.out 2
  have q0_3 := cell_blk G0.out 3
  have q0_4 := cell_blk G0.out 4
  have q0_5 := cell_blk G0.out 5
  have q0_6 := cell_blk G0.out 6
  have q0_7 := cell_blk G0.out 7
  have q0_8 := cell_blk G0.out 8
  have q0_9 := cell_blk G0.out 9
  have q0_10 := cell_blk G0.out 10
  have q0_l := lt_blk G0.out
  have q1_0 := cell_blk G1.out 0
  have q1_1 := cell_blk G1.out 1
  have q1_2 := cell_blk G1.out 2
  have q1_l := lt_blk G1.out
  have f0 := froz_blk G1.out 0
  have f1 := froz_blk G1.out 1
  have f2 := froz_blk G1.out 2
  go_wp2_with fail
  exact exit_spotE rfl (set3c (set3b (set3a G1.out _) _) _) rfl rfl rfl ⟨rfl, below_spot HB2.out (show w.heap.size ≤ w.heap.size + 1 by omega) _ _ _⟩
set_option maxRecDepth 100000 in
set_option maxHeartbeats 4000000 in
theorem r28Side_to {k f o : Int} {a b : V3} {wd dp : Int} (h : Mem k f o a b wd dp) (ta : szV 30 a) (tb : szV 30 b) (za : tiny3 ⟨T a.x, T a.y, T a.z⟩) (zb : tiny3 ⟨T b.x, T b.y, T b.z⟩) (B : Nat) (w : World) (hB : B ≤ w.heap.size) (hT : PQ B w) :
    Calls Tryz.prog 22 #[memV k f o a b wd dp] w (Ret w (.tuple #[vecV (vside (vsub b a)), .int .i64 0])) := by
  have HT := hide hT
  have HD := hide (fun w hB hT => r28Direction_to h ta tb za zb B w hB hT)
  have s0 : sz 1 (0 : Rat) := ⟨by decide, by decide⟩
  have sd : szV 61 (vsub b a) := szV_sub tb ta
  have HS := hide (fun w hB hT => r2Sub_T (x := 0) (y := (vsub b a).y) (sz_fits s0 (by rw [most_eq]; omega)) (sz_fits sd.2.1 (by rw [most_eq]; omega)) B w hB hT)
  rw [subO_sz s0 sd.2.1 (by rw [most_eq]; omega)] at HS
  unfold opV at HS
  dsimp only at HS
  rw [T0] at HS
  have hV : vecV (vside (vsub b a)) = .agg #[.string (T (0 - (vsub b a).y)), .string (T (vsub b a).x), .string ⟨#[48]⟩] := by
    show Value.agg #[.string (T (0 - (vsub b a).y)), .string (T (vsub b a).x), .string (T 0)] = _
    rw [T0]
  rw [hV]
  obtain ⟨r, hr⟩ : ∃ r, r = vsub b a := ⟨_, rfl⟩
  rw [← hr] at HD HS ⊢
  obtain ⟨Y, hY⟩ : ∃ Y, Y = T (0 - r.y) := ⟨_, rfl⟩
  rw [← hY] at HS ⊢
  have X0 := hide (heap2 w (memO k f o a b wd dp) (spotO ⟨#[]⟩ ⟨#[]⟩ ⟨#[]⟩))
  clear h ta tb za zb hT hr hY hV s0 sd
  go_enter Tryz.func22, Tryz.ntmps22
  go_wp2_with fail
  refine (HD.out _ (Nat.le_trans hB X0.out.2.2.2.size) (HT.out.on X0.out.2.2.2 hB)).mono ?_
  rintro e w1 ⟨rfl, hb1⟩
  have X := hide (heap1 w1 (vecO r))
  have hb1 := hb1.trans (X.out.2.2.mono hb1.size)
  have G0 := hide (below_blk hb1 (X0.out.2.1) (lt_blk (X0.out.2.1)))
  have G1 := hide X.out.1
  have HB1 := hide (Below.trans (X0.out.2.2.2) (hb1.mono (X0.out.2.2.2).size))
  clear hb1 X
  have q0_0 := cell_blk G0.out 0
  have q0_1 := cell_blk G0.out 1
  have q0_2 := cell_blk G0.out 2
  have q0_l := lt_blk G0.out
  have q1_0 := cell_blk G1.out 0
  have q1_1 := cell_blk G1.out 1
  have q1_2 := cell_blk G1.out 2
  have q1_l := lt_blk G1.out
  go_wp2_with fail
  refine (HS.out _ (Nat.le_trans hB HB1.out.size) (HT.out.on HB1.out hB)).mono ?_
  rintro e w2 ⟨rfl, hb2⟩
  clear q0_0 q0_1 q0_2 q1_0 q1_1 q1_2 q0_l q1_l
  have G0 := hide (below_blk hb2 G0.out (lt_blk G0.out))
  have G1 := hide (below_blk hb2 G1.out (lt_blk G1.out))
  have HB2 := hide (Below.trans (HB1.out) (hb2.mono (HB1.out).size))
  clear hb2
  have q0_0 := cell_blk G0.out 0
  have q0_1 := cell_blk G0.out 1
  have q0_2 := cell_blk G0.out 2
  have q0_l := lt_blk G0.out
  have q1_0 := cell_blk G1.out 0
  have q1_1 := cell_blk G1.out 1
  have q1_2 := cell_blk G1.out 2
  have q1_l := lt_blk G1.out
  have f0 := froz_blk G0.out 0
  have f1 := froz_blk G0.out 1
  have f2 := froz_blk G0.out 2
  go_wp2_with fail
  exact exit_spotE rfl (set3c (set3b (set3a G0.out _) _) _) rfl rfl rfl ⟨rfl, below_spot HB2.out (show w.heap.size ≤ w.heap.size + 1 by omega) _ _ _⟩
set_option maxRecDepth 100000 in
set_option maxHeartbeats 4000000 in
theorem r28Side_bad (k f o : Int) (a b : S3) (wd dp : Int) (ha : tiny3 a) (hb : tiny3 b) (he : memE k f o a b wd dp ≠ 0) (B : Nat) (w : World) (hB : B ≤ w.heap.size) (hT : PQ B w) :
    Calls Tryz.prog 22 #[memTV k f o a b wd dp] w (Ret w (.tuple #[noV, .int .i64 1])) := by
  have HT := hide hT
  have HD := hide (fun w hB hT => r28Direction_bad k f o a b wd dp ha hb he B w hB hT)
  have X0 := hide (heap2 w (memTO k f o a b wd dp) (spotO ⟨#[]⟩ ⟨#[]⟩ ⟨#[]⟩))
  clear he ha hb hT
  go_enter Tryz.func22, Tryz.ntmps22
  go_wp2_with fail
  refine (HD.out _ (Nat.le_trans hB X0.out.2.2.2.size) (HT.out.on X0.out.2.2.2 hB)).mono ?_
  rintro e w1 ⟨rfl, hb1⟩
  have X := hide (heap1 w1 (spotO ⟨#[]⟩ ⟨#[]⟩ ⟨#[]⟩))
  have hb1 := hb1.trans (X.out.2.2.mono hb1.size)
  have G0 := hide (below_blk hb1 (X0.out.2.1) (lt_blk (X0.out.2.1)))
  have G1 := hide X.out.1
  have HB1 := hide (Below.trans (X0.out.2.2.2) (hb1.mono (X0.out.2.2.2).size))
  clear hb1 X
  have q0_0 := cell_blk G0.out 0
  have q0_1 := cell_blk G0.out 1
  have q0_2 := cell_blk G0.out 2
  have q0_l := lt_blk G0.out
  have q1_0 := cell_blk G1.out 0
  have q1_1 := cell_blk G1.out 1
  have q1_2 := cell_blk G1.out 2
  have q1_l := lt_blk G1.out
  have f0 := froz_blk G0.out 0
  have f1 := froz_blk G0.out 1
  have f2 := froz_blk G0.out 2
  go_wp2_with fail
  exact exit_spotE rfl (set3c (set3b (set3a G0.out _) _) _) rfl rfl rfl ⟨rfl, below_spot HB1.out (show w.heap.size ≤ w.heap.size + 1 by omega) _ _ _⟩
set_option maxRecDepth 100000 in
set_option maxHeartbeats 4000000 in
theorem r28Rise_to {k f o : Int} {a b : V3} {wd dp : Int} (h : Mem k f o a b wd dp) (ta : szV 30 a) (tb : szV 30 b) (za : tiny3 ⟨T a.x, T a.y, T a.z⟩) (zb : tiny3 ⟨T b.x, T b.y, T b.z⟩) (B : Nat) (w : World) (hB : B ≤ w.heap.size) (hT : PQ B w) :
    Calls Tryz.prog 24 #[memV k f o a b wd dp] w (Ret w (.tuple #[.string (T (vsub b a).z), .int .i64 0])) := by
  have HT := hide hT
  have HD := hide (fun w hB hT => r28Direction_to h ta tb za zb B w hB hT)
  obtain ⟨r, hr⟩ : ∃ r, r = vsub b a := ⟨_, rfl⟩
  rw [← hr] at HD ⊢
  have X0 := hide (heap1 w (memO k f o a b wd dp))
  clear h ta tb za zb hT hr
  go_enter Tryz.func24, Tryz.ntmps24
  go_wp2_with fail
  refine (HD.out _ (Nat.le_trans hB X0.out.2.2.size) (HT.out.on X0.out.2.2 hB)).mono ?_
  rintro e w1 ⟨rfl, hb1⟩
  have X := hide (heap1 w1 (vecO r))
  have hb1 := hb1.trans (X.out.2.2.mono hb1.size)
  have G0 := hide X.out.1
  have HB1 := hide (Below.trans (X0.out.2.2) (hb1.mono (X0.out.2.2).size))
  clear hb1 X
  have q0_0 := cell_blk G0.out 0
  have q0_1 := cell_blk G0.out 1
  have q0_2 := cell_blk G0.out 2
  have q0_l := lt_blk G0.out
  go_wp2_with fail
  refine bodyPost_ret (results_tmp2 rfl _ _ _) rfl ?_
  exact ⟨rfl, HB1.out⟩
set_option maxRecDepth 100000 in
set_option maxHeartbeats 4000000 in
theorem r28Rise_bad (k f o : Int) (a b : S3) (wd dp : Int) (ha : tiny3 a) (hb : tiny3 b) (he : memE k f o a b wd dp ≠ 0) (B : Nat) (w : World) (hB : B ≤ w.heap.size) (hT : PQ B w) :
    Calls Tryz.prog 24 #[memTV k f o a b wd dp] w (Ret w (.tuple #[.string ⟨#[]⟩, .int .i64 1])) := by
  have HT := hide hT
  have HD := hide (fun w hB hT => r28Direction_bad k f o a b wd dp ha hb he B w hB hT)
  have X0 := hide (heap1 w (memTO k f o a b wd dp))
  clear he ha hb hT
  go_enter Tryz.func24, Tryz.ntmps24
  go_wp2_with fail
  refine (HD.out _ (Nat.le_trans hB X0.out.2.2.size) (HT.out.on X0.out.2.2 hB)).mono ?_
  rintro e w1 ⟨rfl, hb1⟩
  have X := hide (heap1 w1 (spotO ⟨#[]⟩ ⟨#[]⟩ ⟨#[]⟩))
  have hb1 := hb1.trans (X.out.2.2.mono hb1.size)
  have G0 := hide X.out.1
  have HB1 := hide (Below.trans (X0.out.2.2) (hb1.mono (X0.out.2.2).size))
  clear hb1 X
  have q0_0 := cell_blk G0.out 0
  have q0_1 := cell_blk G0.out 1
  have q0_2 := cell_blk G0.out 2
  have q0_l := lt_blk G0.out
  go_wp2_with fail
  refine bodyPost_ret (results_tmp2 rfl _ _ _) rfl ?_
  exact ⟨rfl, HB1.out⟩
set_option maxRecDepth 100000 in
set_option maxHeartbeats 4000000 in
theorem r28within_T {x y n : Rat} {p : Nat} (sx : sz p x) (sy : sz p y) (sn : sz p n) (hp : p + p ≤ most) (B : Nat) (w : World) (hB : B ≤ w.heap.size) (hT : PQ B w) :
    Calls Tryz.prog 72 #[.string (T x), .string (T y), .string (T n)] w (Ret w (.bool (decide (withinP x y n)))) := by
  have HT := hide hT
  have H1 := hide (fun w hB hT => r2Compare_T (sz_fits sx (by omega)) (sz_fits sn (by omega)) B w hB hT)
  have H2 := hide (fun w hB hT => r2Compare_T (sz_fits sn (by omega)) (sz_fits sy (by omega)) B w hB hT)
  unfold cmpOV at H1 H2
  rw [if_pos (cmpC_of sx sn hp)] at H1
  rw [if_pos (cmpC_of sn sy hp)] at H2
  have hd : decide (withinP x y n) = decide ((cmpR x n ≤ 0 ∧ cmpR n y ≤ 0) ∨ (0 ≤ cmpR x n ∧ 0 ≤ cmpR n y)) := rfl
  rw [hd]
  obtain ⟨c, hc⟩ : ∃ c, c = cmpR x n := ⟨_, rfl⟩
  obtain ⟨d, hd⟩ : ∃ c, c = cmpR n y := ⟨_, rfl⟩
  rw [← hc] at H1
  rw [← hd] at H2
  rw [← hc, ← hd]
  have h3 : ((c ≤ 0 ∧ d ≤ 0) ∧ decide ((c ≤ 0 ∧ d ≤ 0) ∨ (0 ≤ c ∧ 0 ≤ d)) = true) ∨ ((c ≤ 0 ∧ (d ≤ 0) = False ∧ 0 ≤ d ∧ 0 ≤ c) ∧ decide ((c ≤ 0 ∧ d ≤ 0) ∨ (0 ≤ c ∧ 0 ≤ d)) = true) ∨
      ((c ≤ 0 ∧ (d ≤ 0) = False ∧ (0 ≤ c) = False) ∧ decide ((c ≤ 0 ∧ d ≤ 0) ∨ (0 ≤ c ∧ 0 ≤ d)) = false) ∨ (((c ≤ 0) = False ∧ 0 ≤ c ∧ 0 ≤ d) ∧ decide ((c ≤ 0 ∧ d ≤ 0) ∨ (0 ≤ c ∧ 0 ≤ d)) = true) ∨
      (((c ≤ 0) = False ∧ 0 ≤ c ∧ (0 ≤ d) = False) ∧ decide ((c ≤ 0 ∧ d ≤ 0) ∨ (0 ≤ c ∧ 0 ≤ d)) = false) := by
    by_cases a1 : c ≤ 0
    · by_cases a2 : d ≤ 0
      · exact .inl ⟨⟨a1, a2⟩, by rw [decide_eq_true_iff]; omega⟩
      · by_cases a3 : 0 ≤ c
        · exact .inr (.inl ⟨⟨a1, eq_false a2, by omega, a3⟩, by rw [decide_eq_true_iff]; omega⟩)
        · exact .inr (.inr (.inl ⟨⟨a1, eq_false a2, eq_false a3⟩, by rw [decide_eq_false_iff_not]; omega⟩))
    · by_cases a3 : 0 ≤ d
      · exact .inr (.inr (.inr (.inl ⟨⟨eq_false a1, by omega, a3⟩, by rw [decide_eq_true_iff]; omega⟩)))
      · exact .inr (.inr (.inr (.inr ⟨⟨eq_false a1, by omega, eq_false a3⟩, by rw [decide_eq_false_iff_not]; omega⟩)))
  obtain ⟨X, hX⟩ : ∃ X, X = T x := ⟨_, rfl⟩
  obtain ⟨Y, hY⟩ : ∃ X, X = T y := ⟨_, rfl⟩
  obtain ⟨Z, hZ⟩ : ∃ X, X = T n := ⟨_, rfl⟩
  rw [← hX, ← hZ] at H1
  rw [← hY, ← hZ] at H2
  rw [← hX, ← hY, ← hZ]
  clear hX hY hZ hc hd sx sy sn hp hT
  rcases h3 with ⟨⟨a1, a2⟩, e⟩ | ⟨⟨a1, a2, a3, a4⟩, e⟩ | ⟨⟨a1, a2, a3⟩, e⟩ | ⟨⟨a1, a2, a3⟩, e⟩ | ⟨⟨a1, a2, a3⟩, e⟩ <;> rw [e] <;> clear e
  all_goals
    go_enter Tryz.func72, Tryz.ntmps72
    go_wp2_with fail
    refine (H1.out _ hB HT.out).mono ?_
    rintro e w1 ⟨rfl, hb1⟩
    have HB1 := hide hb1
    clear hb1
    go_wp2_with fail
    refine (H2.out _ (Nat.le_trans hB HB1.out.size) (HT.out.on HB1.out hB)).mono ?_
    rintro e w2 ⟨rfl, hb2⟩
    have HB2 := hide (HB1.out.trans (hb2.mono HB1.out.size))
    clear hb2
    go_wp2_with fail
    go_ret
    exact ⟨rfl, HB2.out⟩
set_option maxRecDepth 100000 in
set_option maxHeartbeats 4000000 in
theorem r28Meets_bad (k f o : Int) (a b : S3) (wd dp : Int) (ha : tiny3 a) (hb : tiny3 b) (he : memE k f o a b wd dp ≠ 0) (q : S3) (B : Nat) (w : World) (hB : B ≤ w.heap.size) (hT : PQ B w) :
    Calls Tryz.prog 26 #[memTV k f o a b wd dp, s3V q] w (Ret w (.tuple #[.bool false, .int .i64 1])) := by
  have HT := hide hT
  have HD := hide (fun w hB hT => r28Direction_bad k f o a b wd dp ha hb he B w hB hT)
  have X0 := hide (heap2 w (memTO k f o a b wd dp) (s3O q))
  clear he ha hb hT
  go_enter Tryz.func26, Tryz.ntmps26
  go_wp2_with fail
  refine (HD.out _ (Nat.le_trans hB X0.out.2.2.2.size) (HT.out.on X0.out.2.2.2 hB)).mono ?_
  rintro e w1 ⟨rfl, hb1⟩
  have X := hide (heap1 w1 (spotO ⟨#[]⟩ ⟨#[]⟩ ⟨#[]⟩))
  have hb1 := hb1.trans (X.out.2.2.mono hb1.size)
  have G0 := hide X.out.1
  have HB1 := hide (Below.trans (X0.out.2.2.2) (hb1.mono (X0.out.2.2.2).size))
  clear hb1 X
  have q0_0 := cell_blk G0.out 0
  have q0_1 := cell_blk G0.out 1
  have q0_2 := cell_blk G0.out 2
  have q0_l := lt_blk G0.out
  go_wp2_with fail
  refine bodyPost_ret (results_tmp2 rfl _ _ _) rfl ?_
  exact ⟨rfl, HB1.out⟩
set_option maxRecDepth 100000 in
set_option maxHeartbeats 4000000 in
theorem r28Meets_off {k f o : Int} {a b : V3} {wd dp : Int} (h : Mem k f o a b wd dp) (ta : szV 30 a) (tb : szV 30 b) (za : tiny3 ⟨T a.x, T a.y, T a.z⟩) (zb : tiny3 ⟨T b.x, T b.y, T b.z⟩) (q : S3) (hq : tiny3 q) (hqe : chkS q ≠ 0) (B : Nat) (w : World) (hB : B ≤ w.heap.size) (hT : PQ B w) :
    Calls Tryz.prog 26 #[memV k f o a b wd dp, s3V q] w (Ret w (.tuple #[.bool false, .int .i64 (chkS q)])) := by
  have HT := hide hT
  have HD := hide (fun w hB hT => r28Direction_to h ta tb za zb B w hB hT)
  have HQ := hide (fun w hB hT => r9chk_S hq B w hB hT)
  have hne : (chkS q != 0) = true := by simpa using hqe
  obtain ⟨E, hE⟩ : ∃ E, E = chkS q := ⟨_, rfl⟩
  rw [← hE] at HQ hne ⊢
  obtain ⟨r, hr⟩ : ∃ r, r = vsub b a := ⟨_, rfl⟩
  rw [← hr] at HD
  have X0 := hide (heap2 w (memO k f o a b wd dp) (s3O q))
  clear h ta tb za zb hT hr hE hq hqe
  go_enter Tryz.func26, Tryz.ntmps26
  go_wp2_with fail
  refine (HD.out _ (Nat.le_trans hB X0.out.2.2.2.size) (HT.out.on X0.out.2.2.2 hB)).mono ?_
  rintro e w1 ⟨rfl, hb1⟩
  have X := hide (heap1 w1 (vecO r))
  have hb1 := hb1.trans (X.out.2.2.mono hb1.size)
  have G0 := hide (below_blk hb1 (X0.out.2.1) (lt_blk (X0.out.2.1)))
  have G1 := hide X.out.1
  have HB1 := hide (Below.trans (X0.out.2.2.2) (hb1.mono (X0.out.2.2.2).size))
  clear hb1 X
  have q0_0 := cell_blk G0.out 0
  have q0_1 := cell_blk G0.out 1
  have q0_2 := cell_blk G0.out 2
  have q0_l := lt_blk G0.out
  have q1_0 := cell_blk G1.out 0
  have q1_1 := cell_blk G1.out 1
  have q1_2 := cell_blk G1.out 2
  have q1_l := lt_blk G1.out
  go_wp2_with fail
  refine (HQ.out _ (Nat.le_trans hB HB1.out.size) (HT.out.on HB1.out hB)).mono ?_
  rintro e w2 ⟨rfl, hb2⟩
  clear q0_0 q0_1 q0_2 q1_0 q1_1 q1_2 q0_l q1_l
  have G0 := hide (below_blk hb2 G0.out (lt_blk G0.out))
  have G1 := hide (below_blk hb2 G1.out (lt_blk G1.out))
  have HB2 := hide (Below.trans (HB1.out) (hb2.mono (HB1.out).size))
  clear hb2
  have q0_0 := cell_blk G0.out 0
  have q0_1 := cell_blk G0.out 1
  have q0_2 := cell_blk G0.out 2
  have q0_l := lt_blk G0.out
  have q1_0 := cell_blk G1.out 0
  have q1_1 := cell_blk G1.out 1
  have q1_2 := cell_blk G1.out 2
  have q1_l := lt_blk G1.out
  go_wp2_with fail
  refine bodyPost_ret (results_tmp2 rfl _ _ _) rfl ?_
  exact ⟨rfl, HB2.out⟩
set_option maxRecDepth 100000 in
set_option maxHeartbeats 16000000 in
theorem r28Meets_to {k f o : Int} {a b : V3} {wd dp : Int} (h : Mem k f o a b wd dp) (ta : szV 30 a) (tb : szV 30 b) (za : tiny3 ⟨T a.x, T a.y, T a.z⟩) (zb : tiny3 ⟨T b.x, T b.y, T b.z⟩) {q : V3} (sq : szV 30 q) {r : Bool} (hr : r = decide (meetsP a b q)) (B : Nat) (w : World) (hB : B ≤ w.heap.size) (hT : PQ B w) :
    Calls Tryz.prog 26 #[memV k f o a b wd dp, vecV q] w (Ret w (.tuple #[.bool r, .int .i64 0])) := by
  have HT := hide hT
  have fq : fitsV q := szV_fits sq (by rw [most_eq]; omega)
  have HD := hide (fun w hB hT => r28Direction_to h ta tb za zb B w hB hT)
  have HQ : Hid (∀ w, B ≤ w.heap.size → PQ B w → Calls Tryz.prog 70 #[vecV q] w (Ret w (.int .i64 0))) := hide (fun w hB hT => by
    have h := r9Check_any (T q.x) (T q.y) (T q.z) (T_chk fq.1).1 (T_chk fq.2.1).1 (T_chk fq.2.2).1 B w hB hT
    rw [chk3_zero.2 ⟨(T_chk fq.1).2, (T_chk fq.2.1).2, (T_chk fq.2.2).2⟩] at h
    exact h)
  have HL := hide (fun w hB hT => r28longSpot_no (szV_mono sq (by omega)) B w hB hT)
  have st : szV 61 (vsub q a) := szV_sub sq ta
  have sd : szV 61 (vsub b a) := szV_sub tb ta
  have HS := hide (fun w hB hT => (r9Sub_O fq h.fa B w hB hT).mono fun _ _ hr => ResV.of (sub2_sz sq ta (by rw [most_eq]; omega)) hr)
  have HP := hide (fun w hB hT => r9Parallel_T (szV_fits sd (by rw [most_eq]; omega)) (szV_fits st (by rw [most_eq]; omega)) (cross_sz sd st (by rw [most_eq]; omega)).1 rfl B w hB hT)
  have HW1 := hide (fun w hB hT => r28within_T ta.1 tb.1 sq.1 (by rw [most_eq]; omega) B w hB hT)
  have HW2 := hide (fun w hB hT => r28within_T ta.2.1 tb.2.1 sq.2.1 (by rw [most_eq]; omega) B w hB hT)
  have HW3 := hide (fun w hB hT => r28within_T ta.2.2 tb.2.2 sq.2.2 (by rw [most_eq]; omega) B w hB hT)
  have hm := meets_within (r := q) h.ne
  obtain ⟨P, hP⟩ : ∃ P, P = decide (vcross (vsub b a) (vsub q a) = vzero) := ⟨_, rfl⟩
  obtain ⟨w1, hw1⟩ : ∃ P, P = decide (withinP a.x b.x q.x) := ⟨_, rfl⟩
  obtain ⟨w2, hw2⟩ : ∃ P, P = decide (withinP a.y b.y q.y) := ⟨_, rfl⟩
  obtain ⟨w3, hw3⟩ : ∃ P, P = decide (withinP a.z b.z q.z) := ⟨_, rfl⟩
  rw [← hP] at HP
  rw [← hw1] at HW1
  rw [← hw2] at HW2
  rw [← hw3] at HW3
  have hr2 : r = (P && w1 && w2 && w3) := by
    rw [hr, hP, hw1, hw2, hw3, Bool.eq_iff_iff]
    simp only [decide_eq_true_iff, Bool.and_eq_true, and_assoc]
    exact hm
  obtain ⟨d, hd⟩ : ∃ d, d = vsub b a := ⟨_, rfl⟩
  obtain ⟨t, ht⟩ : ∃ d, d = vsub q a := ⟨_, rfl⟩
  rw [← hd] at HD HP
  rw [← ht] at HS HP
  have X0 := hide (heap2 w (memO k f o a b wd dp) (vecO q))
  have hway : (P = false ∧ r = false) ∨ (P = true ∧ w1 = false ∧ r = false) ∨ (P = true ∧ w1 = true ∧ w2 = false ∧ r = false) ∨ (P = true ∧ w1 = true ∧ w2 = true ∧ r = w3) := by
    cases P <;> cases w1 <;> cases w2 <;> simp [hr2]
  clear h ta tb za zb hT hr hr2 hm hP hw1 hw2 hw3 hd ht sq fq st sd
  rcases hway with ⟨rfl, rfl⟩ | ⟨rfl, rfl, rfl⟩ | ⟨rfl, rfl, rfl, rfl⟩ | ⟨rfl, rfl, rfl, rfl⟩
  · skip
    go_enter Tryz.func26, Tryz.ntmps26
    go_wp2_with fail
    refine (HD.out _ (Nat.le_trans hB X0.out.2.2.2.size) (HT.out.on X0.out.2.2.2 hB)).mono ?_
    rintro e w1 ⟨rfl, hb1⟩
    have X := hide (heap1 w1 (vecO d))
    have hb1 := hb1.trans (X.out.2.2.mono hb1.size)
    have G0 := hide (below_blk hb1 (X0.out.1) (lt_blk (X0.out.1)))
    have G1 := hide (below_blk hb1 (X0.out.2.1) (lt_blk (X0.out.2.1)))
    have G2 := hide X.out.1
    have HB1 := hide (Below.trans (X0.out.2.2.2) (hb1.mono (X0.out.2.2.2).size))
    clear hb1 X
    have q0_0 := cell_blk G0.out 0
    have q0_1 := cell_blk G0.out 1
    have q0_2 := cell_blk G0.out 2
    have q0_3 := cell_blk G0.out 3
    have q0_4 := cell_blk G0.out 4
    have q0_5 := cell_blk G0.out 5
    have q0_6 := cell_blk G0.out 6
    have q0_7 := cell_blk G0.out 7
    have q0_8 := cell_blk G0.out 8
    have q0_9 := cell_blk G0.out 9
    have q0_10 := cell_blk G0.out 10
    have q0_l := lt_blk G0.out
    have q1_0 := cell_blk G1.out 0
    have q1_1 := cell_blk G1.out 1
    have q1_2 := cell_blk G1.out 2
    have q1_l := lt_blk G1.out
    have q2_0 := cell_blk G2.out 0
    have q2_1 := cell_blk G2.out 1
    have q2_2 := cell_blk G2.out 2
    have q2_l := lt_blk G2.out
    go_wp2_with fail
    refine (HQ.out _ (Nat.le_trans hB HB1.out.size) (HT.out.on HB1.out hB)).mono ?_
    rintro e w2 ⟨rfl, hb2⟩
    clear q0_0 q0_1 q0_2 q0_3 q0_4 q0_5 q0_6 q0_7 q0_8 q0_9 q0_10 q1_0 q1_1 q1_2 q2_0 q2_1 q2_2 q0_l q1_l q2_l
    have G0 := hide (below_blk hb2 G0.out (lt_blk G0.out))
    have G1 := hide (below_blk hb2 G1.out (lt_blk G1.out))
    have G2 := hide (below_blk hb2 G2.out (lt_blk G2.out))
    have HB2 := hide (Below.trans (HB1.out) (hb2.mono (HB1.out).size))
    clear hb2
    have q0_0 := cell_blk G0.out 0
    have q0_1 := cell_blk G0.out 1
    have q0_2 := cell_blk G0.out 2
    have q0_3 := cell_blk G0.out 3
    have q0_4 := cell_blk G0.out 4
    have q0_5 := cell_blk G0.out 5
    have q0_6 := cell_blk G0.out 6
    have q0_7 := cell_blk G0.out 7
    have q0_8 := cell_blk G0.out 8
    have q0_9 := cell_blk G0.out 9
    have q0_10 := cell_blk G0.out 10
    have q0_l := lt_blk G0.out
    have q1_0 := cell_blk G1.out 0
    have q1_1 := cell_blk G1.out 1
    have q1_2 := cell_blk G1.out 2
    have q1_l := lt_blk G1.out
    have q2_0 := cell_blk G2.out 0
    have q2_1 := cell_blk G2.out 1
    have q2_2 := cell_blk G2.out 2
    have q2_l := lt_blk G2.out
    go_wp2_with fail
    refine (HL.out _ (Nat.le_trans hB HB2.out.size) (HT.out.on HB2.out hB)).mono ?_
    rintro e w3 ⟨rfl, hb3⟩
    clear q0_0 q0_1 q0_2 q0_3 q0_4 q0_5 q0_6 q0_7 q0_8 q0_9 q0_10 q1_0 q1_1 q1_2 q2_0 q2_1 q2_2 q0_l q1_l q2_l
    have G0 := hide (below_blk hb3 G0.out (lt_blk G0.out))
    have G1 := hide (below_blk hb3 G1.out (lt_blk G1.out))
    have G2 := hide (below_blk hb3 G2.out (lt_blk G2.out))
    have HB3 := hide (Below.trans (HB2.out) (hb3.mono (HB2.out).size))
    clear hb3
    have q0_0 := cell_blk G0.out 0
    have q0_1 := cell_blk G0.out 1
    have q0_2 := cell_blk G0.out 2
    have q0_3 := cell_blk G0.out 3
    have q0_4 := cell_blk G0.out 4
    have q0_5 := cell_blk G0.out 5
    have q0_6 := cell_blk G0.out 6
    have q0_7 := cell_blk G0.out 7
    have q0_8 := cell_blk G0.out 8
    have q0_9 := cell_blk G0.out 9
    have q0_10 := cell_blk G0.out 10
    have q0_l := lt_blk G0.out
    have q1_0 := cell_blk G1.out 0
    have q1_1 := cell_blk G1.out 1
    have q1_2 := cell_blk G1.out 2
    have q1_l := lt_blk G1.out
    have q2_0 := cell_blk G2.out 0
    have q2_1 := cell_blk G2.out 1
    have q2_2 := cell_blk G2.out 2
    have q2_l := lt_blk G2.out
    go_wp2_with fail
    refine (HS.out _ (Nat.le_trans hB HB3.out.size) (HT.out.on HB3.out hB)).mono ?_
    rintro e w4 ⟨rfl, hb4⟩
    clear q0_0 q0_1 q0_2 q0_3 q0_4 q0_5 q0_6 q0_7 q0_8 q0_9 q0_10 q1_0 q1_1 q1_2 q2_0 q2_1 q2_2 q0_l q1_l q2_l
    have X := hide (heap1 w4 (vecO t))
    have hb4 := hb4.trans (X.out.2.2.mono hb4.size)
    have G0 := hide (below_blk hb4 G0.out (lt_blk G0.out))
    have G1 := hide (below_blk hb4 G1.out (lt_blk G1.out))
    have G2 := hide (below_blk hb4 G2.out (lt_blk G2.out))
    have G3 := hide X.out.1
    have HB4 := hide (Below.trans (HB3.out) (hb4.mono (HB3.out).size))
    clear hb4 X
    have q0_0 := cell_blk G0.out 0
    have q0_1 := cell_blk G0.out 1
    have q0_2 := cell_blk G0.out 2
    have q0_3 := cell_blk G0.out 3
    have q0_4 := cell_blk G0.out 4
    have q0_5 := cell_blk G0.out 5
    have q0_6 := cell_blk G0.out 6
    have q0_7 := cell_blk G0.out 7
    have q0_8 := cell_blk G0.out 8
    have q0_9 := cell_blk G0.out 9
    have q0_10 := cell_blk G0.out 10
    have q0_l := lt_blk G0.out
    have q1_0 := cell_blk G1.out 0
    have q1_1 := cell_blk G1.out 1
    have q1_2 := cell_blk G1.out 2
    have q1_l := lt_blk G1.out
    have q2_0 := cell_blk G2.out 0
    have q2_1 := cell_blk G2.out 1
    have q2_2 := cell_blk G2.out 2
    have q2_l := lt_blk G2.out
    have q3_0 := cell_blk G3.out 0
    have q3_1 := cell_blk G3.out 1
    have q3_2 := cell_blk G3.out 2
    have q3_l := lt_blk G3.out
    go_wp2_with fail
    refine (HP.out _ (Nat.le_trans hB HB4.out.size) (HT.out.on HB4.out hB)).mono ?_
    rintro e w5 ⟨rfl, hb5⟩
    clear q0_0 q0_1 q0_2 q0_3 q0_4 q0_5 q0_6 q0_7 q0_8 q0_9 q0_10 q1_0 q1_1 q1_2 q2_0 q2_1 q2_2 q3_0 q3_1 q3_2 q0_l q1_l q2_l q3_l
    have G0 := hide (below_blk hb5 G0.out (lt_blk G0.out))
    have G1 := hide (below_blk hb5 G1.out (lt_blk G1.out))
    have G2 := hide (below_blk hb5 G2.out (lt_blk G2.out))
    have G3 := hide (below_blk hb5 G3.out (lt_blk G3.out))
    have HB5 := hide (Below.trans (HB4.out) (hb5.mono (HB4.out).size))
    clear hb5
    have q0_0 := cell_blk G0.out 0
    have q0_1 := cell_blk G0.out 1
    have q0_2 := cell_blk G0.out 2
    have q0_3 := cell_blk G0.out 3
    have q0_4 := cell_blk G0.out 4
    have q0_5 := cell_blk G0.out 5
    have q0_6 := cell_blk G0.out 6
    have q0_7 := cell_blk G0.out 7
    have q0_8 := cell_blk G0.out 8
    have q0_9 := cell_blk G0.out 9
    have q0_10 := cell_blk G0.out 10
    have q0_l := lt_blk G0.out
    have q1_0 := cell_blk G1.out 0
    have q1_1 := cell_blk G1.out 1
    have q1_2 := cell_blk G1.out 2
    have q1_l := lt_blk G1.out
    have q2_0 := cell_blk G2.out 0
    have q2_1 := cell_blk G2.out 1
    have q2_2 := cell_blk G2.out 2
    have q2_l := lt_blk G2.out
    have q3_0 := cell_blk G3.out 0
    have q3_1 := cell_blk G3.out 1
    have q3_2 := cell_blk G3.out 2
    have q3_l := lt_blk G3.out
    go_wp2_with fail
    refine bodyPost_ret (results_tmp2 rfl _ _ _) rfl ?_
    exact ⟨rfl, HB5.out⟩
  · skip
    go_enter Tryz.func26, Tryz.ntmps26
    go_wp2_with fail
    refine (HD.out _ (Nat.le_trans hB X0.out.2.2.2.size) (HT.out.on X0.out.2.2.2 hB)).mono ?_
    rintro e w1 ⟨rfl, hb1⟩
    have X := hide (heap1 w1 (vecO d))
    have hb1 := hb1.trans (X.out.2.2.mono hb1.size)
    have G0 := hide (below_blk hb1 (X0.out.1) (lt_blk (X0.out.1)))
    have G1 := hide (below_blk hb1 (X0.out.2.1) (lt_blk (X0.out.2.1)))
    have G2 := hide X.out.1
    have HB1 := hide (Below.trans (X0.out.2.2.2) (hb1.mono (X0.out.2.2.2).size))
    clear hb1 X
    have q0_0 := cell_blk G0.out 0
    have q0_1 := cell_blk G0.out 1
    have q0_2 := cell_blk G0.out 2
    have q0_3 := cell_blk G0.out 3
    have q0_4 := cell_blk G0.out 4
    have q0_5 := cell_blk G0.out 5
    have q0_6 := cell_blk G0.out 6
    have q0_7 := cell_blk G0.out 7
    have q0_8 := cell_blk G0.out 8
    have q0_9 := cell_blk G0.out 9
    have q0_10 := cell_blk G0.out 10
    have q0_l := lt_blk G0.out
    have q1_0 := cell_blk G1.out 0
    have q1_1 := cell_blk G1.out 1
    have q1_2 := cell_blk G1.out 2
    have q1_l := lt_blk G1.out
    have q2_0 := cell_blk G2.out 0
    have q2_1 := cell_blk G2.out 1
    have q2_2 := cell_blk G2.out 2
    have q2_l := lt_blk G2.out
    go_wp2_with fail
    refine (HQ.out _ (Nat.le_trans hB HB1.out.size) (HT.out.on HB1.out hB)).mono ?_
    rintro e w2 ⟨rfl, hb2⟩
    clear q0_0 q0_1 q0_2 q0_3 q0_4 q0_5 q0_6 q0_7 q0_8 q0_9 q0_10 q1_0 q1_1 q1_2 q2_0 q2_1 q2_2 q0_l q1_l q2_l
    have G0 := hide (below_blk hb2 G0.out (lt_blk G0.out))
    have G1 := hide (below_blk hb2 G1.out (lt_blk G1.out))
    have G2 := hide (below_blk hb2 G2.out (lt_blk G2.out))
    have HB2 := hide (Below.trans (HB1.out) (hb2.mono (HB1.out).size))
    clear hb2
    have q0_0 := cell_blk G0.out 0
    have q0_1 := cell_blk G0.out 1
    have q0_2 := cell_blk G0.out 2
    have q0_3 := cell_blk G0.out 3
    have q0_4 := cell_blk G0.out 4
    have q0_5 := cell_blk G0.out 5
    have q0_6 := cell_blk G0.out 6
    have q0_7 := cell_blk G0.out 7
    have q0_8 := cell_blk G0.out 8
    have q0_9 := cell_blk G0.out 9
    have q0_10 := cell_blk G0.out 10
    have q0_l := lt_blk G0.out
    have q1_0 := cell_blk G1.out 0
    have q1_1 := cell_blk G1.out 1
    have q1_2 := cell_blk G1.out 2
    have q1_l := lt_blk G1.out
    have q2_0 := cell_blk G2.out 0
    have q2_1 := cell_blk G2.out 1
    have q2_2 := cell_blk G2.out 2
    have q2_l := lt_blk G2.out
    go_wp2_with fail
    refine (HL.out _ (Nat.le_trans hB HB2.out.size) (HT.out.on HB2.out hB)).mono ?_
    rintro e w3 ⟨rfl, hb3⟩
    clear q0_0 q0_1 q0_2 q0_3 q0_4 q0_5 q0_6 q0_7 q0_8 q0_9 q0_10 q1_0 q1_1 q1_2 q2_0 q2_1 q2_2 q0_l q1_l q2_l
    have G0 := hide (below_blk hb3 G0.out (lt_blk G0.out))
    have G1 := hide (below_blk hb3 G1.out (lt_blk G1.out))
    have G2 := hide (below_blk hb3 G2.out (lt_blk G2.out))
    have HB3 := hide (Below.trans (HB2.out) (hb3.mono (HB2.out).size))
    clear hb3
    have q0_0 := cell_blk G0.out 0
    have q0_1 := cell_blk G0.out 1
    have q0_2 := cell_blk G0.out 2
    have q0_3 := cell_blk G0.out 3
    have q0_4 := cell_blk G0.out 4
    have q0_5 := cell_blk G0.out 5
    have q0_6 := cell_blk G0.out 6
    have q0_7 := cell_blk G0.out 7
    have q0_8 := cell_blk G0.out 8
    have q0_9 := cell_blk G0.out 9
    have q0_10 := cell_blk G0.out 10
    have q0_l := lt_blk G0.out
    have q1_0 := cell_blk G1.out 0
    have q1_1 := cell_blk G1.out 1
    have q1_2 := cell_blk G1.out 2
    have q1_l := lt_blk G1.out
    have q2_0 := cell_blk G2.out 0
    have q2_1 := cell_blk G2.out 1
    have q2_2 := cell_blk G2.out 2
    have q2_l := lt_blk G2.out
    go_wp2_with fail
    refine (HS.out _ (Nat.le_trans hB HB3.out.size) (HT.out.on HB3.out hB)).mono ?_
    rintro e w4 ⟨rfl, hb4⟩
    clear q0_0 q0_1 q0_2 q0_3 q0_4 q0_5 q0_6 q0_7 q0_8 q0_9 q0_10 q1_0 q1_1 q1_2 q2_0 q2_1 q2_2 q0_l q1_l q2_l
    have X := hide (heap1 w4 (vecO t))
    have hb4 := hb4.trans (X.out.2.2.mono hb4.size)
    have G0 := hide (below_blk hb4 G0.out (lt_blk G0.out))
    have G1 := hide (below_blk hb4 G1.out (lt_blk G1.out))
    have G2 := hide (below_blk hb4 G2.out (lt_blk G2.out))
    have G3 := hide X.out.1
    have HB4 := hide (Below.trans (HB3.out) (hb4.mono (HB3.out).size))
    clear hb4 X
    have q0_0 := cell_blk G0.out 0
    have q0_1 := cell_blk G0.out 1
    have q0_2 := cell_blk G0.out 2
    have q0_3 := cell_blk G0.out 3
    have q0_4 := cell_blk G0.out 4
    have q0_5 := cell_blk G0.out 5
    have q0_6 := cell_blk G0.out 6
    have q0_7 := cell_blk G0.out 7
    have q0_8 := cell_blk G0.out 8
    have q0_9 := cell_blk G0.out 9
    have q0_10 := cell_blk G0.out 10
    have q0_l := lt_blk G0.out
    have q1_0 := cell_blk G1.out 0
    have q1_1 := cell_blk G1.out 1
    have q1_2 := cell_blk G1.out 2
    have q1_l := lt_blk G1.out
    have q2_0 := cell_blk G2.out 0
    have q2_1 := cell_blk G2.out 1
    have q2_2 := cell_blk G2.out 2
    have q2_l := lt_blk G2.out
    have q3_0 := cell_blk G3.out 0
    have q3_1 := cell_blk G3.out 1
    have q3_2 := cell_blk G3.out 2
    have q3_l := lt_blk G3.out
    go_wp2_with fail
    refine (HP.out _ (Nat.le_trans hB HB4.out.size) (HT.out.on HB4.out hB)).mono ?_
    rintro e w5 ⟨rfl, hb5⟩
    clear q0_0 q0_1 q0_2 q0_3 q0_4 q0_5 q0_6 q0_7 q0_8 q0_9 q0_10 q1_0 q1_1 q1_2 q2_0 q2_1 q2_2 q3_0 q3_1 q3_2 q0_l q1_l q2_l q3_l
    have G0 := hide (below_blk hb5 G0.out (lt_blk G0.out))
    have G1 := hide (below_blk hb5 G1.out (lt_blk G1.out))
    have G2 := hide (below_blk hb5 G2.out (lt_blk G2.out))
    have G3 := hide (below_blk hb5 G3.out (lt_blk G3.out))
    have HB5 := hide (Below.trans (HB4.out) (hb5.mono (HB4.out).size))
    clear hb5
    have q0_0 := cell_blk G0.out 0
    have q0_1 := cell_blk G0.out 1
    have q0_2 := cell_blk G0.out 2
    have q0_3 := cell_blk G0.out 3
    have q0_4 := cell_blk G0.out 4
    have q0_5 := cell_blk G0.out 5
    have q0_6 := cell_blk G0.out 6
    have q0_7 := cell_blk G0.out 7
    have q0_8 := cell_blk G0.out 8
    have q0_9 := cell_blk G0.out 9
    have q0_10 := cell_blk G0.out 10
    have q0_l := lt_blk G0.out
    have q1_0 := cell_blk G1.out 0
    have q1_1 := cell_blk G1.out 1
    have q1_2 := cell_blk G1.out 2
    have q1_l := lt_blk G1.out
    have q2_0 := cell_blk G2.out 0
    have q2_1 := cell_blk G2.out 1
    have q2_2 := cell_blk G2.out 2
    have q2_l := lt_blk G2.out
    have q3_0 := cell_blk G3.out 0
    have q3_1 := cell_blk G3.out 1
    have q3_2 := cell_blk G3.out 2
    have q3_l := lt_blk G3.out
    go_wp2_with fail
    refine (HW1.out _ (Nat.le_trans hB HB5.out.size) (HT.out.on HB5.out hB)).mono ?_
    rintro e w6 ⟨rfl, hb6⟩
    clear q0_0 q0_1 q0_2 q0_3 q0_4 q0_5 q0_6 q0_7 q0_8 q0_9 q0_10 q1_0 q1_1 q1_2 q2_0 q2_1 q2_2 q3_0 q3_1 q3_2 q0_l q1_l q2_l q3_l
    have G0 := hide (below_blk hb6 G0.out (lt_blk G0.out))
    have G1 := hide (below_blk hb6 G1.out (lt_blk G1.out))
    have G2 := hide (below_blk hb6 G2.out (lt_blk G2.out))
    have G3 := hide (below_blk hb6 G3.out (lt_blk G3.out))
    have HB6 := hide (Below.trans (HB5.out) (hb6.mono (HB5.out).size))
    clear hb6
    have q0_0 := cell_blk G0.out 0
    have q0_1 := cell_blk G0.out 1
    have q0_2 := cell_blk G0.out 2
    have q0_3 := cell_blk G0.out 3
    have q0_4 := cell_blk G0.out 4
    have q0_5 := cell_blk G0.out 5
    have q0_6 := cell_blk G0.out 6
    have q0_7 := cell_blk G0.out 7
    have q0_8 := cell_blk G0.out 8
    have q0_9 := cell_blk G0.out 9
    have q0_10 := cell_blk G0.out 10
    have q0_l := lt_blk G0.out
    have q1_0 := cell_blk G1.out 0
    have q1_1 := cell_blk G1.out 1
    have q1_2 := cell_blk G1.out 2
    have q1_l := lt_blk G1.out
    have q2_0 := cell_blk G2.out 0
    have q2_1 := cell_blk G2.out 1
    have q2_2 := cell_blk G2.out 2
    have q2_l := lt_blk G2.out
    have q3_0 := cell_blk G3.out 0
    have q3_1 := cell_blk G3.out 1
    have q3_2 := cell_blk G3.out 2
    have q3_l := lt_blk G3.out
    go_wp2_with fail
    refine bodyPost_ret (results_tmp2 rfl _ _ _) rfl ?_
    exact ⟨rfl, HB6.out⟩
  · skip
    go_enter Tryz.func26, Tryz.ntmps26
    go_wp2_with fail
    refine (HD.out _ (Nat.le_trans hB X0.out.2.2.2.size) (HT.out.on X0.out.2.2.2 hB)).mono ?_
    rintro e w1 ⟨rfl, hb1⟩
    have X := hide (heap1 w1 (vecO d))
    have hb1 := hb1.trans (X.out.2.2.mono hb1.size)
    have G0 := hide (below_blk hb1 (X0.out.1) (lt_blk (X0.out.1)))
    have G1 := hide (below_blk hb1 (X0.out.2.1) (lt_blk (X0.out.2.1)))
    have G2 := hide X.out.1
    have HB1 := hide (Below.trans (X0.out.2.2.2) (hb1.mono (X0.out.2.2.2).size))
    clear hb1 X
    have q0_0 := cell_blk G0.out 0
    have q0_1 := cell_blk G0.out 1
    have q0_2 := cell_blk G0.out 2
    have q0_3 := cell_blk G0.out 3
    have q0_4 := cell_blk G0.out 4
    have q0_5 := cell_blk G0.out 5
    have q0_6 := cell_blk G0.out 6
    have q0_7 := cell_blk G0.out 7
    have q0_8 := cell_blk G0.out 8
    have q0_9 := cell_blk G0.out 9
    have q0_10 := cell_blk G0.out 10
    have q0_l := lt_blk G0.out
    have q1_0 := cell_blk G1.out 0
    have q1_1 := cell_blk G1.out 1
    have q1_2 := cell_blk G1.out 2
    have q1_l := lt_blk G1.out
    have q2_0 := cell_blk G2.out 0
    have q2_1 := cell_blk G2.out 1
    have q2_2 := cell_blk G2.out 2
    have q2_l := lt_blk G2.out
    go_wp2_with fail
    refine (HQ.out _ (Nat.le_trans hB HB1.out.size) (HT.out.on HB1.out hB)).mono ?_
    rintro e w2 ⟨rfl, hb2⟩
    clear q0_0 q0_1 q0_2 q0_3 q0_4 q0_5 q0_6 q0_7 q0_8 q0_9 q0_10 q1_0 q1_1 q1_2 q2_0 q2_1 q2_2 q0_l q1_l q2_l
    have G0 := hide (below_blk hb2 G0.out (lt_blk G0.out))
    have G1 := hide (below_blk hb2 G1.out (lt_blk G1.out))
    have G2 := hide (below_blk hb2 G2.out (lt_blk G2.out))
    have HB2 := hide (Below.trans (HB1.out) (hb2.mono (HB1.out).size))
    clear hb2
    have q0_0 := cell_blk G0.out 0
    have q0_1 := cell_blk G0.out 1
    have q0_2 := cell_blk G0.out 2
    have q0_3 := cell_blk G0.out 3
    have q0_4 := cell_blk G0.out 4
    have q0_5 := cell_blk G0.out 5
    have q0_6 := cell_blk G0.out 6
    have q0_7 := cell_blk G0.out 7
    have q0_8 := cell_blk G0.out 8
    have q0_9 := cell_blk G0.out 9
    have q0_10 := cell_blk G0.out 10
    have q0_l := lt_blk G0.out
    have q1_0 := cell_blk G1.out 0
    have q1_1 := cell_blk G1.out 1
    have q1_2 := cell_blk G1.out 2
    have q1_l := lt_blk G1.out
    have q2_0 := cell_blk G2.out 0
    have q2_1 := cell_blk G2.out 1
    have q2_2 := cell_blk G2.out 2
    have q2_l := lt_blk G2.out
    go_wp2_with fail
    refine (HL.out _ (Nat.le_trans hB HB2.out.size) (HT.out.on HB2.out hB)).mono ?_
    rintro e w3 ⟨rfl, hb3⟩
    clear q0_0 q0_1 q0_2 q0_3 q0_4 q0_5 q0_6 q0_7 q0_8 q0_9 q0_10 q1_0 q1_1 q1_2 q2_0 q2_1 q2_2 q0_l q1_l q2_l
    have G0 := hide (below_blk hb3 G0.out (lt_blk G0.out))
    have G1 := hide (below_blk hb3 G1.out (lt_blk G1.out))
    have G2 := hide (below_blk hb3 G2.out (lt_blk G2.out))
    have HB3 := hide (Below.trans (HB2.out) (hb3.mono (HB2.out).size))
    clear hb3
    have q0_0 := cell_blk G0.out 0
    have q0_1 := cell_blk G0.out 1
    have q0_2 := cell_blk G0.out 2
    have q0_3 := cell_blk G0.out 3
    have q0_4 := cell_blk G0.out 4
    have q0_5 := cell_blk G0.out 5
    have q0_6 := cell_blk G0.out 6
    have q0_7 := cell_blk G0.out 7
    have q0_8 := cell_blk G0.out 8
    have q0_9 := cell_blk G0.out 9
    have q0_10 := cell_blk G0.out 10
    have q0_l := lt_blk G0.out
    have q1_0 := cell_blk G1.out 0
    have q1_1 := cell_blk G1.out 1
    have q1_2 := cell_blk G1.out 2
    have q1_l := lt_blk G1.out
    have q2_0 := cell_blk G2.out 0
    have q2_1 := cell_blk G2.out 1
    have q2_2 := cell_blk G2.out 2
    have q2_l := lt_blk G2.out
    go_wp2_with fail
    refine (HS.out _ (Nat.le_trans hB HB3.out.size) (HT.out.on HB3.out hB)).mono ?_
    rintro e w4 ⟨rfl, hb4⟩
    clear q0_0 q0_1 q0_2 q0_3 q0_4 q0_5 q0_6 q0_7 q0_8 q0_9 q0_10 q1_0 q1_1 q1_2 q2_0 q2_1 q2_2 q0_l q1_l q2_l
    have X := hide (heap1 w4 (vecO t))
    have hb4 := hb4.trans (X.out.2.2.mono hb4.size)
    have G0 := hide (below_blk hb4 G0.out (lt_blk G0.out))
    have G1 := hide (below_blk hb4 G1.out (lt_blk G1.out))
    have G2 := hide (below_blk hb4 G2.out (lt_blk G2.out))
    have G3 := hide X.out.1
    have HB4 := hide (Below.trans (HB3.out) (hb4.mono (HB3.out).size))
    clear hb4 X
    have q0_0 := cell_blk G0.out 0
    have q0_1 := cell_blk G0.out 1
    have q0_2 := cell_blk G0.out 2
    have q0_3 := cell_blk G0.out 3
    have q0_4 := cell_blk G0.out 4
    have q0_5 := cell_blk G0.out 5
    have q0_6 := cell_blk G0.out 6
    have q0_7 := cell_blk G0.out 7
    have q0_8 := cell_blk G0.out 8
    have q0_9 := cell_blk G0.out 9
    have q0_10 := cell_blk G0.out 10
    have q0_l := lt_blk G0.out
    have q1_0 := cell_blk G1.out 0
    have q1_1 := cell_blk G1.out 1
    have q1_2 := cell_blk G1.out 2
    have q1_l := lt_blk G1.out
    have q2_0 := cell_blk G2.out 0
    have q2_1 := cell_blk G2.out 1
    have q2_2 := cell_blk G2.out 2
    have q2_l := lt_blk G2.out
    have q3_0 := cell_blk G3.out 0
    have q3_1 := cell_blk G3.out 1
    have q3_2 := cell_blk G3.out 2
    have q3_l := lt_blk G3.out
    go_wp2_with fail
    refine (HP.out _ (Nat.le_trans hB HB4.out.size) (HT.out.on HB4.out hB)).mono ?_
    rintro e w5 ⟨rfl, hb5⟩
    clear q0_0 q0_1 q0_2 q0_3 q0_4 q0_5 q0_6 q0_7 q0_8 q0_9 q0_10 q1_0 q1_1 q1_2 q2_0 q2_1 q2_2 q3_0 q3_1 q3_2 q0_l q1_l q2_l q3_l
    have G0 := hide (below_blk hb5 G0.out (lt_blk G0.out))
    have G1 := hide (below_blk hb5 G1.out (lt_blk G1.out))
    have G2 := hide (below_blk hb5 G2.out (lt_blk G2.out))
    have G3 := hide (below_blk hb5 G3.out (lt_blk G3.out))
    have HB5 := hide (Below.trans (HB4.out) (hb5.mono (HB4.out).size))
    clear hb5
    have q0_0 := cell_blk G0.out 0
    have q0_1 := cell_blk G0.out 1
    have q0_2 := cell_blk G0.out 2
    have q0_3 := cell_blk G0.out 3
    have q0_4 := cell_blk G0.out 4
    have q0_5 := cell_blk G0.out 5
    have q0_6 := cell_blk G0.out 6
    have q0_7 := cell_blk G0.out 7
    have q0_8 := cell_blk G0.out 8
    have q0_9 := cell_blk G0.out 9
    have q0_10 := cell_blk G0.out 10
    have q0_l := lt_blk G0.out
    have q1_0 := cell_blk G1.out 0
    have q1_1 := cell_blk G1.out 1
    have q1_2 := cell_blk G1.out 2
    have q1_l := lt_blk G1.out
    have q2_0 := cell_blk G2.out 0
    have q2_1 := cell_blk G2.out 1
    have q2_2 := cell_blk G2.out 2
    have q2_l := lt_blk G2.out
    have q3_0 := cell_blk G3.out 0
    have q3_1 := cell_blk G3.out 1
    have q3_2 := cell_blk G3.out 2
    have q3_l := lt_blk G3.out
    go_wp2_with fail
    refine (HW1.out _ (Nat.le_trans hB HB5.out.size) (HT.out.on HB5.out hB)).mono ?_
    rintro e w6 ⟨rfl, hb6⟩
    clear q0_0 q0_1 q0_2 q0_3 q0_4 q0_5 q0_6 q0_7 q0_8 q0_9 q0_10 q1_0 q1_1 q1_2 q2_0 q2_1 q2_2 q3_0 q3_1 q3_2 q0_l q1_l q2_l q3_l
    have G0 := hide (below_blk hb6 G0.out (lt_blk G0.out))
    have G1 := hide (below_blk hb6 G1.out (lt_blk G1.out))
    have G2 := hide (below_blk hb6 G2.out (lt_blk G2.out))
    have G3 := hide (below_blk hb6 G3.out (lt_blk G3.out))
    have HB6 := hide (Below.trans (HB5.out) (hb6.mono (HB5.out).size))
    clear hb6
    have q0_0 := cell_blk G0.out 0
    have q0_1 := cell_blk G0.out 1
    have q0_2 := cell_blk G0.out 2
    have q0_3 := cell_blk G0.out 3
    have q0_4 := cell_blk G0.out 4
    have q0_5 := cell_blk G0.out 5
    have q0_6 := cell_blk G0.out 6
    have q0_7 := cell_blk G0.out 7
    have q0_8 := cell_blk G0.out 8
    have q0_9 := cell_blk G0.out 9
    have q0_10 := cell_blk G0.out 10
    have q0_l := lt_blk G0.out
    have q1_0 := cell_blk G1.out 0
    have q1_1 := cell_blk G1.out 1
    have q1_2 := cell_blk G1.out 2
    have q1_l := lt_blk G1.out
    have q2_0 := cell_blk G2.out 0
    have q2_1 := cell_blk G2.out 1
    have q2_2 := cell_blk G2.out 2
    have q2_l := lt_blk G2.out
    have q3_0 := cell_blk G3.out 0
    have q3_1 := cell_blk G3.out 1
    have q3_2 := cell_blk G3.out 2
    have q3_l := lt_blk G3.out
    go_wp2_with fail
    refine (HW2.out _ (Nat.le_trans hB HB6.out.size) (HT.out.on HB6.out hB)).mono ?_
    rintro e w7 ⟨rfl, hb7⟩
    clear q0_0 q0_1 q0_2 q0_3 q0_4 q0_5 q0_6 q0_7 q0_8 q0_9 q0_10 q1_0 q1_1 q1_2 q2_0 q2_1 q2_2 q3_0 q3_1 q3_2 q0_l q1_l q2_l q3_l
    have G0 := hide (below_blk hb7 G0.out (lt_blk G0.out))
    have G1 := hide (below_blk hb7 G1.out (lt_blk G1.out))
    have G2 := hide (below_blk hb7 G2.out (lt_blk G2.out))
    have G3 := hide (below_blk hb7 G3.out (lt_blk G3.out))
    have HB7 := hide (Below.trans (HB6.out) (hb7.mono (HB6.out).size))
    clear hb7
    have q0_0 := cell_blk G0.out 0
    have q0_1 := cell_blk G0.out 1
    have q0_2 := cell_blk G0.out 2
    have q0_3 := cell_blk G0.out 3
    have q0_4 := cell_blk G0.out 4
    have q0_5 := cell_blk G0.out 5
    have q0_6 := cell_blk G0.out 6
    have q0_7 := cell_blk G0.out 7
    have q0_8 := cell_blk G0.out 8
    have q0_9 := cell_blk G0.out 9
    have q0_10 := cell_blk G0.out 10
    have q0_l := lt_blk G0.out
    have q1_0 := cell_blk G1.out 0
    have q1_1 := cell_blk G1.out 1
    have q1_2 := cell_blk G1.out 2
    have q1_l := lt_blk G1.out
    have q2_0 := cell_blk G2.out 0
    have q2_1 := cell_blk G2.out 1
    have q2_2 := cell_blk G2.out 2
    have q2_l := lt_blk G2.out
    have q3_0 := cell_blk G3.out 0
    have q3_1 := cell_blk G3.out 1
    have q3_2 := cell_blk G3.out 2
    have q3_l := lt_blk G3.out
    go_wp2_with fail
    refine bodyPost_ret (results_tmp2 rfl _ _ _) rfl ?_
    exact ⟨rfl, HB7.out⟩
  · skip
    go_enter Tryz.func26, Tryz.ntmps26
    go_wp2_with fail
    refine (HD.out _ (Nat.le_trans hB X0.out.2.2.2.size) (HT.out.on X0.out.2.2.2 hB)).mono ?_
    rintro e w1 ⟨rfl, hb1⟩
    have X := hide (heap1 w1 (vecO d))
    have hb1 := hb1.trans (X.out.2.2.mono hb1.size)
    have G0 := hide (below_blk hb1 (X0.out.1) (lt_blk (X0.out.1)))
    have G1 := hide (below_blk hb1 (X0.out.2.1) (lt_blk (X0.out.2.1)))
    have G2 := hide X.out.1
    have HB1 := hide (Below.trans (X0.out.2.2.2) (hb1.mono (X0.out.2.2.2).size))
    clear hb1 X
    have q0_0 := cell_blk G0.out 0
    have q0_1 := cell_blk G0.out 1
    have q0_2 := cell_blk G0.out 2
    have q0_3 := cell_blk G0.out 3
    have q0_4 := cell_blk G0.out 4
    have q0_5 := cell_blk G0.out 5
    have q0_6 := cell_blk G0.out 6
    have q0_7 := cell_blk G0.out 7
    have q0_8 := cell_blk G0.out 8
    have q0_9 := cell_blk G0.out 9
    have q0_10 := cell_blk G0.out 10
    have q0_l := lt_blk G0.out
    have q1_0 := cell_blk G1.out 0
    have q1_1 := cell_blk G1.out 1
    have q1_2 := cell_blk G1.out 2
    have q1_l := lt_blk G1.out
    have q2_0 := cell_blk G2.out 0
    have q2_1 := cell_blk G2.out 1
    have q2_2 := cell_blk G2.out 2
    have q2_l := lt_blk G2.out
    go_wp2_with fail
    refine (HQ.out _ (Nat.le_trans hB HB1.out.size) (HT.out.on HB1.out hB)).mono ?_
    rintro e w2 ⟨rfl, hb2⟩
    clear q0_0 q0_1 q0_2 q0_3 q0_4 q0_5 q0_6 q0_7 q0_8 q0_9 q0_10 q1_0 q1_1 q1_2 q2_0 q2_1 q2_2 q0_l q1_l q2_l
    have G0 := hide (below_blk hb2 G0.out (lt_blk G0.out))
    have G1 := hide (below_blk hb2 G1.out (lt_blk G1.out))
    have G2 := hide (below_blk hb2 G2.out (lt_blk G2.out))
    have HB2 := hide (Below.trans (HB1.out) (hb2.mono (HB1.out).size))
    clear hb2
    have q0_0 := cell_blk G0.out 0
    have q0_1 := cell_blk G0.out 1
    have q0_2 := cell_blk G0.out 2
    have q0_3 := cell_blk G0.out 3
    have q0_4 := cell_blk G0.out 4
    have q0_5 := cell_blk G0.out 5
    have q0_6 := cell_blk G0.out 6
    have q0_7 := cell_blk G0.out 7
    have q0_8 := cell_blk G0.out 8
    have q0_9 := cell_blk G0.out 9
    have q0_10 := cell_blk G0.out 10
    have q0_l := lt_blk G0.out
    have q1_0 := cell_blk G1.out 0
    have q1_1 := cell_blk G1.out 1
    have q1_2 := cell_blk G1.out 2
    have q1_l := lt_blk G1.out
    have q2_0 := cell_blk G2.out 0
    have q2_1 := cell_blk G2.out 1
    have q2_2 := cell_blk G2.out 2
    have q2_l := lt_blk G2.out
    go_wp2_with fail
    refine (HL.out _ (Nat.le_trans hB HB2.out.size) (HT.out.on HB2.out hB)).mono ?_
    rintro e w3 ⟨rfl, hb3⟩
    clear q0_0 q0_1 q0_2 q0_3 q0_4 q0_5 q0_6 q0_7 q0_8 q0_9 q0_10 q1_0 q1_1 q1_2 q2_0 q2_1 q2_2 q0_l q1_l q2_l
    have G0 := hide (below_blk hb3 G0.out (lt_blk G0.out))
    have G1 := hide (below_blk hb3 G1.out (lt_blk G1.out))
    have G2 := hide (below_blk hb3 G2.out (lt_blk G2.out))
    have HB3 := hide (Below.trans (HB2.out) (hb3.mono (HB2.out).size))
    clear hb3
    have q0_0 := cell_blk G0.out 0
    have q0_1 := cell_blk G0.out 1
    have q0_2 := cell_blk G0.out 2
    have q0_3 := cell_blk G0.out 3
    have q0_4 := cell_blk G0.out 4
    have q0_5 := cell_blk G0.out 5
    have q0_6 := cell_blk G0.out 6
    have q0_7 := cell_blk G0.out 7
    have q0_8 := cell_blk G0.out 8
    have q0_9 := cell_blk G0.out 9
    have q0_10 := cell_blk G0.out 10
    have q0_l := lt_blk G0.out
    have q1_0 := cell_blk G1.out 0
    have q1_1 := cell_blk G1.out 1
    have q1_2 := cell_blk G1.out 2
    have q1_l := lt_blk G1.out
    have q2_0 := cell_blk G2.out 0
    have q2_1 := cell_blk G2.out 1
    have q2_2 := cell_blk G2.out 2
    have q2_l := lt_blk G2.out
    go_wp2_with fail
    refine (HS.out _ (Nat.le_trans hB HB3.out.size) (HT.out.on HB3.out hB)).mono ?_
    rintro e w4 ⟨rfl, hb4⟩
    clear q0_0 q0_1 q0_2 q0_3 q0_4 q0_5 q0_6 q0_7 q0_8 q0_9 q0_10 q1_0 q1_1 q1_2 q2_0 q2_1 q2_2 q0_l q1_l q2_l
    have X := hide (heap1 w4 (vecO t))
    have hb4 := hb4.trans (X.out.2.2.mono hb4.size)
    have G0 := hide (below_blk hb4 G0.out (lt_blk G0.out))
    have G1 := hide (below_blk hb4 G1.out (lt_blk G1.out))
    have G2 := hide (below_blk hb4 G2.out (lt_blk G2.out))
    have G3 := hide X.out.1
    have HB4 := hide (Below.trans (HB3.out) (hb4.mono (HB3.out).size))
    clear hb4 X
    have q0_0 := cell_blk G0.out 0
    have q0_1 := cell_blk G0.out 1
    have q0_2 := cell_blk G0.out 2
    have q0_3 := cell_blk G0.out 3
    have q0_4 := cell_blk G0.out 4
    have q0_5 := cell_blk G0.out 5
    have q0_6 := cell_blk G0.out 6
    have q0_7 := cell_blk G0.out 7
    have q0_8 := cell_blk G0.out 8
    have q0_9 := cell_blk G0.out 9
    have q0_10 := cell_blk G0.out 10
    have q0_l := lt_blk G0.out
    have q1_0 := cell_blk G1.out 0
    have q1_1 := cell_blk G1.out 1
    have q1_2 := cell_blk G1.out 2
    have q1_l := lt_blk G1.out
    have q2_0 := cell_blk G2.out 0
    have q2_1 := cell_blk G2.out 1
    have q2_2 := cell_blk G2.out 2
    have q2_l := lt_blk G2.out
    have q3_0 := cell_blk G3.out 0
    have q3_1 := cell_blk G3.out 1
    have q3_2 := cell_blk G3.out 2
    have q3_l := lt_blk G3.out
    go_wp2_with fail
    refine (HP.out _ (Nat.le_trans hB HB4.out.size) (HT.out.on HB4.out hB)).mono ?_
    rintro e w5 ⟨rfl, hb5⟩
    clear q0_0 q0_1 q0_2 q0_3 q0_4 q0_5 q0_6 q0_7 q0_8 q0_9 q0_10 q1_0 q1_1 q1_2 q2_0 q2_1 q2_2 q3_0 q3_1 q3_2 q0_l q1_l q2_l q3_l
    have G0 := hide (below_blk hb5 G0.out (lt_blk G0.out))
    have G1 := hide (below_blk hb5 G1.out (lt_blk G1.out))
    have G2 := hide (below_blk hb5 G2.out (lt_blk G2.out))
    have G3 := hide (below_blk hb5 G3.out (lt_blk G3.out))
    have HB5 := hide (Below.trans (HB4.out) (hb5.mono (HB4.out).size))
    clear hb5
    have q0_0 := cell_blk G0.out 0
    have q0_1 := cell_blk G0.out 1
    have q0_2 := cell_blk G0.out 2
    have q0_3 := cell_blk G0.out 3
    have q0_4 := cell_blk G0.out 4
    have q0_5 := cell_blk G0.out 5
    have q0_6 := cell_blk G0.out 6
    have q0_7 := cell_blk G0.out 7
    have q0_8 := cell_blk G0.out 8
    have q0_9 := cell_blk G0.out 9
    have q0_10 := cell_blk G0.out 10
    have q0_l := lt_blk G0.out
    have q1_0 := cell_blk G1.out 0
    have q1_1 := cell_blk G1.out 1
    have q1_2 := cell_blk G1.out 2
    have q1_l := lt_blk G1.out
    have q2_0 := cell_blk G2.out 0
    have q2_1 := cell_blk G2.out 1
    have q2_2 := cell_blk G2.out 2
    have q2_l := lt_blk G2.out
    have q3_0 := cell_blk G3.out 0
    have q3_1 := cell_blk G3.out 1
    have q3_2 := cell_blk G3.out 2
    have q3_l := lt_blk G3.out
    go_wp2_with fail
    refine (HW1.out _ (Nat.le_trans hB HB5.out.size) (HT.out.on HB5.out hB)).mono ?_
    rintro e w6 ⟨rfl, hb6⟩
    clear q0_0 q0_1 q0_2 q0_3 q0_4 q0_5 q0_6 q0_7 q0_8 q0_9 q0_10 q1_0 q1_1 q1_2 q2_0 q2_1 q2_2 q3_0 q3_1 q3_2 q0_l q1_l q2_l q3_l
    have G0 := hide (below_blk hb6 G0.out (lt_blk G0.out))
    have G1 := hide (below_blk hb6 G1.out (lt_blk G1.out))
    have G2 := hide (below_blk hb6 G2.out (lt_blk G2.out))
    have G3 := hide (below_blk hb6 G3.out (lt_blk G3.out))
    have HB6 := hide (Below.trans (HB5.out) (hb6.mono (HB5.out).size))
    clear hb6
    have q0_0 := cell_blk G0.out 0
    have q0_1 := cell_blk G0.out 1
    have q0_2 := cell_blk G0.out 2
    have q0_3 := cell_blk G0.out 3
    have q0_4 := cell_blk G0.out 4
    have q0_5 := cell_blk G0.out 5
    have q0_6 := cell_blk G0.out 6
    have q0_7 := cell_blk G0.out 7
    have q0_8 := cell_blk G0.out 8
    have q0_9 := cell_blk G0.out 9
    have q0_10 := cell_blk G0.out 10
    have q0_l := lt_blk G0.out
    have q1_0 := cell_blk G1.out 0
    have q1_1 := cell_blk G1.out 1
    have q1_2 := cell_blk G1.out 2
    have q1_l := lt_blk G1.out
    have q2_0 := cell_blk G2.out 0
    have q2_1 := cell_blk G2.out 1
    have q2_2 := cell_blk G2.out 2
    have q2_l := lt_blk G2.out
    have q3_0 := cell_blk G3.out 0
    have q3_1 := cell_blk G3.out 1
    have q3_2 := cell_blk G3.out 2
    have q3_l := lt_blk G3.out
    go_wp2_with fail
    refine (HW2.out _ (Nat.le_trans hB HB6.out.size) (HT.out.on HB6.out hB)).mono ?_
    rintro e w7 ⟨rfl, hb7⟩
    clear q0_0 q0_1 q0_2 q0_3 q0_4 q0_5 q0_6 q0_7 q0_8 q0_9 q0_10 q1_0 q1_1 q1_2 q2_0 q2_1 q2_2 q3_0 q3_1 q3_2 q0_l q1_l q2_l q3_l
    have G0 := hide (below_blk hb7 G0.out (lt_blk G0.out))
    have G1 := hide (below_blk hb7 G1.out (lt_blk G1.out))
    have G2 := hide (below_blk hb7 G2.out (lt_blk G2.out))
    have G3 := hide (below_blk hb7 G3.out (lt_blk G3.out))
    have HB7 := hide (Below.trans (HB6.out) (hb7.mono (HB6.out).size))
    clear hb7
    have q0_0 := cell_blk G0.out 0
    have q0_1 := cell_blk G0.out 1
    have q0_2 := cell_blk G0.out 2
    have q0_3 := cell_blk G0.out 3
    have q0_4 := cell_blk G0.out 4
    have q0_5 := cell_blk G0.out 5
    have q0_6 := cell_blk G0.out 6
    have q0_7 := cell_blk G0.out 7
    have q0_8 := cell_blk G0.out 8
    have q0_9 := cell_blk G0.out 9
    have q0_10 := cell_blk G0.out 10
    have q0_l := lt_blk G0.out
    have q1_0 := cell_blk G1.out 0
    have q1_1 := cell_blk G1.out 1
    have q1_2 := cell_blk G1.out 2
    have q1_l := lt_blk G1.out
    have q2_0 := cell_blk G2.out 0
    have q2_1 := cell_blk G2.out 1
    have q2_2 := cell_blk G2.out 2
    have q2_l := lt_blk G2.out
    have q3_0 := cell_blk G3.out 0
    have q3_1 := cell_blk G3.out 1
    have q3_2 := cell_blk G3.out 2
    have q3_l := lt_blk G3.out
    go_wp2_with fail
    refine (HW3.out _ (Nat.le_trans hB HB7.out.size) (HT.out.on HB7.out hB)).mono ?_
    rintro e w8 ⟨rfl, hb8⟩
    clear q0_0 q0_1 q0_2 q0_3 q0_4 q0_5 q0_6 q0_7 q0_8 q0_9 q0_10 q1_0 q1_1 q1_2 q2_0 q2_1 q2_2 q3_0 q3_1 q3_2 q0_l q1_l q2_l q3_l
    have G0 := hide (below_blk hb8 G0.out (lt_blk G0.out))
    have G1 := hide (below_blk hb8 G1.out (lt_blk G1.out))
    have G2 := hide (below_blk hb8 G2.out (lt_blk G2.out))
    have G3 := hide (below_blk hb8 G3.out (lt_blk G3.out))
    have HB8 := hide (Below.trans (HB7.out) (hb8.mono (HB7.out).size))
    clear hb8
    have q0_0 := cell_blk G0.out 0
    have q0_1 := cell_blk G0.out 1
    have q0_2 := cell_blk G0.out 2
    have q0_3 := cell_blk G0.out 3
    have q0_4 := cell_blk G0.out 4
    have q0_5 := cell_blk G0.out 5
    have q0_6 := cell_blk G0.out 6
    have q0_7 := cell_blk G0.out 7
    have q0_8 := cell_blk G0.out 8
    have q0_9 := cell_blk G0.out 9
    have q0_10 := cell_blk G0.out 10
    have q0_l := lt_blk G0.out
    have q1_0 := cell_blk G1.out 0
    have q1_1 := cell_blk G1.out 1
    have q1_2 := cell_blk G1.out 2
    have q1_l := lt_blk G1.out
    have q2_0 := cell_blk G2.out 0
    have q2_1 := cell_blk G2.out 1
    have q2_2 := cell_blk G2.out 2
    have q2_l := lt_blk G2.out
    have q3_0 := cell_blk G3.out 0
    have q3_1 := cell_blk G3.out 1
    have q3_2 := cell_blk G3.out 2
    have q3_l := lt_blk G3.out
    go_wp2_with fail
    refine bodyPost_ret (results_tmp2 rfl _ _ _) rfl ?_
    exact ⟨rfl, HB8.out⟩
end Go.Proofs.YtbfojhneajedmaaGreatDoor
namespace Go.Proofs.YtbfojhneajedmaaGreatDoor
open Go.RowKit Go.KP Go.KI Go.Shelf
attribute [local go_sem] Oper.semAt_some

theorem set_alloc (w : World) (a b : Obj) : ({ w.alloc a with heap := (w.alloc a).heap.setIfInBounds w.heap.size b } : World) = w.alloc b := by
  have h : (w.alloc a).heap.setIfInBounds w.heap.size b = (w.alloc b).heap := by
    rw [← World.alloc_eq w a, ← World.alloc_eq w b]
    apply Array.ext
    · simp
    · intro i h1 h2
      rw [Array.getElem_setIfInBounds (by simpa using h2)]
      by_cases h : w.heap.size = i
      · subst h
        simp
      · rw [if_neg h]
        simp at h1 h2
        rw [Array.getElem_push_lt (by omega), Array.getElem_push_lt (by omega)]
  show World.mk _ _ _ _ _ = _
  rw [h]
  rfl
abbrev ent (k v : Int) (c : Nat) : MapEntry := { key := .int .i64 k, val := .int .i64 v, born := c }
set_option maxRecDepth 100000 in
theorem map_push {w : World} {clock : Nat} {es : Array MapEntry} {k v : Int} (hf : Instr.findNow (.int .i64) (.int .i64 k) es.toList 0 = some none) :
    (Instr.mapUpdate 50 (.map (some w.heap.size)) (.int .i64 k) (.int .i64 v)).run Tryz.prog (w.alloc (.map es clock)) = .ok () (w.alloc (.map (es.push (ent k v clock)) (clock + 1))) := by
  have hm := Tryz.underlying50
  have hk := Tryz.underlying3
  have hb : (w.alloc (.map es clock)).heap[w.heap.size]? = some (.map es clock) := heap_alloc_new w _
  have hc : (Instr.checkKey false 10000 3 (.int .i64 k)).run Tryz.prog (w.alloc (.map es clock)) = .ok () (w.alloc (.map es clock)) := MapKept.run_checkKey (k := .int .i64 k) hk (by simp [MapKept.IsKey]) false 9999
  rw [← set_alloc w (.map es clock) (.map (es.push (ent k v clock)) (clock + 1))]
  simp [Instr.mapUpdate, run_underlying hm, MapKept.run_getObj_map hb, hc, MapKept.run_findKey hk hf, MapKept.run_setObj_map _ hb, Result.andThen]
set_option maxRecDepth 100000 in
theorem map_get {w : World} {clock : Nat} {es : Array MapEntry} {k : Int} (v : Value) (ok : Bool) (hne : es.isEmpty = false) (hf : ∃ o, Instr.findNow (.int .i64) (.int .i64 k) es.toList 0 = some o ∧ (match o with | some (_, x) => v = x ∧ ok = true | none => v = .int .i64 0 ∧ ok = false)) :
    (Instr.lookup 50 (.map (some w.heap.size)) (.int .i64 k) true).run Tryz.prog (w.alloc (.map es clock)) = .ok (.tuple #[v, .bool ok]) (w.alloc (.map es clock)) := by
  have hm := Tryz.underlying50
  have hk := Tryz.underlying3
  have hb : (w.alloc (.map es clock)).heap[w.heap.size]? = some (.map es clock) := heap_alloc_new w _
  have hc : (Instr.checkKey false 10000 3 (.int .i64 k)).run Tryz.prog (w.alloc (.map es clock)) = .ok () (w.alloc (.map es clock)) := MapKept.run_checkKey (k := .int .i64 k) hk (by simp [MapKept.IsKey]) false 9999
  obtain ⟨o, h1, h2⟩ := hf
  cases o with
  | none =>
    obtain ⟨rfl, rfl⟩ := h2
    simp [Instr.lookup, run_underlying hm, MapKept.run_getObj_map hb, hne, hc, MapKept.run_findKey hk h1, Result.andThen]
  | some p =>
    obtain ⟨i, x⟩ := p
    obtain ⟨rfl, rfl⟩ := h2
    simp [Instr.lookup, run_underlying hm, MapKept.run_getObj_map hb, hne, hc, MapKept.run_findKey hk h1, Result.andThen]
theorem same_i64 (n m : Int) : Instr.sameNow (.int .i64) (.int .i64 n) (.int .i64 m) = some (n == m) := by simp [Instr.sameNow]
/-- The three kinds. -/
abbrev kinds3 : Array MapEntry := #[ent 1 8 0, ent 2 6 1, ent 3 7 2]
/-- The kind of the members along lines of a kind; 0 if there is none. -/
def kindP (n : Int) : Int := if n = 1 then 8 else if n = 2 then 6 else if n = 3 then 7 else 0
set_option maxRecDepth 100000 in
theorem hkindOf_any (n : Int) (w : World) :
    Calls Tryz.prog 76 #[.int .i64 n] w (Ret w (.tuple #[.int .i64 (kindP n), .bool (decide (kindP n ≠ 0))])) := by
  have hway : (n = 1 ∧ kindP n = 8) ∨ (n = 2 ∧ kindP n = 6) ∨ (n = 3 ∧ kindP n = 7) ∨ (n ≠ 1 ∧ n ≠ 2 ∧ n ≠ 3 ∧ kindP n = 0) := by
    unfold kindP
    by_cases h1 : n = 1
    · exact .inl ⟨h1, if_pos h1⟩
    · rw [if_neg h1]
      by_cases h2 : n = 2
      · exact .inr (.inl ⟨h2, if_pos h2⟩)
      · rw [if_neg h2]
        by_cases h3 : n = 3
        · exact .inr (.inr (.inl ⟨h3, if_pos h3⟩))
        · exact .inr (.inr (.inr ⟨h1, h2, h3, if_neg h3⟩))
  obtain ⟨V, hV⟩ : ∃ V, V = kindP n := ⟨_, rfl⟩
  rw [← hV] at hway ⊢
  clear hV
  have hlook : (Instr.lookup 50 (.map (some w.heap.size)) (.int .i64 n) true).run Tryz.prog (w.alloc (.map kinds3 3)) = .ok (.tuple #[.int .i64 V, .bool (decide (V ≠ 0))]) (w.alloc (.map kinds3 3)) := by
    refine map_get _ _ rfl ?_
    rcases hway with ⟨rfl, rfl⟩ | ⟨rfl, rfl⟩ | ⟨rfl, rfl⟩ | ⟨h1, h2, h3, rfl⟩
    · exact ⟨some (0, .int .i64 8), by simp [Instr.findNow, same_i64], rfl, rfl⟩
    · exact ⟨some (1, .int .i64 6), by simp [Instr.findNow, same_i64], rfl, rfl⟩
    · exact ⟨some (2, .int .i64 7), by simp [Instr.findNow, same_i64], rfl, rfl⟩
    · have e1 : (n == 1) = false := by simpa using h1
      have e2 : (n == 2) = false := by simpa using h2
      have e3 : (n == 3) = false := by simpa using h3
      exact ⟨none, by simp [Instr.findNow, same_i64, e1, e2, e3], rfl, rfl⟩
  have hmk : (Instr.makeMap 50 none).run Tryz.prog w = .ok (.map (some w.heap.size)) (w.alloc (.map #[] 0)) := rfl
  have hu1 : (Instr.mapUpdate 50 (.map (some w.heap.size)) (.int .i64 1) (.int .i64 8)).run Tryz.prog (w.alloc (.map #[] 0)) = .ok () (w.alloc (.map #[ent 1 8 0] 1)) := map_push (by simp [Instr.findNow])
  have hu2 : (Instr.mapUpdate 50 (.map (some w.heap.size)) (.int .i64 2) (.int .i64 6)).run Tryz.prog (w.alloc (.map #[ent 1 8 0] 1)) = .ok () (w.alloc (.map #[ent 1 8 0, ent 2 6 1] 2)) := map_push (by simp [Instr.findNow, same_i64])
  have hu3 : (Instr.mapUpdate 50 (.map (some w.heap.size)) (.int .i64 3) (.int .i64 7)).run Tryz.prog (w.alloc (.map #[ent 1 8 0, ent 2 6 1] 2)) = .ok () (w.alloc (.map kinds3 3)) := map_push (by simp [Instr.findNow, same_i64])
  obtain ⟨M, hM⟩ : ∃ M, M = w.alloc (.map kinds3 3) := ⟨_, rfl⟩
  have HM := hide (show Below w.heap.size w M by rw [hM]; exact (heap1 w (.map kinds3 3)).2.2)
  rw [← hM] at hlook hu3
  clear hway hM
  obtain ⟨b, hb⟩ : ∃ b, b = decide (V ≠ 0) := ⟨_, rfl⟩
  rw [← hb] at hlook ⊢
  clear hb
  go_enter Tryz.func76, Tryz.ntmps76
  go_wp2_with fail
  refine bodyPost_ret (results_tmp2 rfl _ _ _) rfl ?_
  exact ⟨rfl, HM.out⟩
end Go.Proofs.YtbfojhneajedmaaGreatDoor
namespace Go.Proofs.YtbfojhneajedmaaGreatDoor
open Go.RowKit Go.KP Go.KI Go.Shelf
attribute [local go_sem] Oper.semAt_some

abbrev lineV (n : Int) (a b : V3) (l r : Int) : Value := .agg #[.int .i64 n, .string (T a.x), .string (T a.y), .string (T a.z), .string (T b.x), .string (T b.y), .string (T b.z), .int .i64 l, .int .i64 r]
abbrev lineO (n : Int) (a b : V3) (l r : Int) : Obj := .cells #[.int .i64 n, .string (T a.x), .string (T a.y), .string (T a.z), .string (T b.x), .string (T b.y), .string (T b.z), .int .i64 l, .int .i64 r] 47
abbrev mem0 : Obj := .cells #[.int .i64 0, .int .i64 0, .int .i64 0, .string ⟨#[]⟩, .string ⟨#[]⟩, .string ⟨#[]⟩, .string ⟨#[]⟩, .string ⟨#[]⟩, .string ⟨#[]⟩, .int .i64 0, .int .i64 0] 26
theorem set_at {w : World} {b i : Nat} {cs : Array Value} {t : TypeId} {v : Value} (h : w.heap[b]? = some (.cells cs t (0, 0))) : (w.setCell ⟨b, i, none⟩ v).heap[b]? = some (.cells (cs.setIfInBounds i v) t (0, 0)) := by
  simp only [World.setCell, Array.getElem?_modify, h]
  simp
/-- Eleven cells set. -/
def put11 (w : World) (b : Nat) (v0 v1 v2 v3 v4 v5 v6 v7 v8 v9 v10 : Value) : World := ((((((((((w.setCell ⟨b, 0, none⟩ v0).setCell ⟨b, 1, none⟩ v1).setCell ⟨b, 2, none⟩ v2).setCell ⟨b, 3, none⟩ v3).setCell ⟨b, 4, none⟩ v4).setCell ⟨b, 5, none⟩ v5).setCell ⟨b, 6, none⟩ v6).setCell ⟨b, 7, none⟩ v7).setCell ⟨b, 8, none⟩ v8).setCell ⟨b, 9, none⟩ v9).setCell ⟨b, 10, none⟩ v10
theorem put11_at {w : World} {b : Nat} {u0 u1 u2 u3 u4 u5 u6 u7 u8 u9 u10 : Value} {t : TypeId} (h : w.heap[b]? = some (.cells #[u0, u1, u2, u3, u4, u5, u6, u7, u8, u9, u10] t (0, 0))) (v0 v1 v2 v3 v4 v5 v6 v7 v8 v9 v10 : Value) :
    (put11 w b v0 v1 v2 v3 v4 v5 v6 v7 v8 v9 v10).heap[b]? = some (.cells #[v0, v1, v2, v3, v4, v5, v6, v7, v8, v9, v10] t (0, 0)) := by
  have s0 := set_at (i := 0) (v := v0) h
  rw [show (#[u0, u1, u2, u3, u4, u5, u6, u7, u8, u9, u10] : Array Value).setIfInBounds 0 v0 = #[v0, u1, u2, u3, u4, u5, u6, u7, u8, u9, u10] from rfl] at s0
  have s1 := set_at (i := 1) (v := v1) s0
  rw [show (#[v0, u1, u2, u3, u4, u5, u6, u7, u8, u9, u10] : Array Value).setIfInBounds 1 v1 = #[v0, v1, u2, u3, u4, u5, u6, u7, u8, u9, u10] from rfl] at s1
  have s2 := set_at (i := 2) (v := v2) s1
  rw [show (#[v0, v1, u2, u3, u4, u5, u6, u7, u8, u9, u10] : Array Value).setIfInBounds 2 v2 = #[v0, v1, v2, u3, u4, u5, u6, u7, u8, u9, u10] from rfl] at s2
  have s3 := set_at (i := 3) (v := v3) s2
  rw [show (#[v0, v1, v2, u3, u4, u5, u6, u7, u8, u9, u10] : Array Value).setIfInBounds 3 v3 = #[v0, v1, v2, v3, u4, u5, u6, u7, u8, u9, u10] from rfl] at s3
  have s4 := set_at (i := 4) (v := v4) s3
  rw [show (#[v0, v1, v2, v3, u4, u5, u6, u7, u8, u9, u10] : Array Value).setIfInBounds 4 v4 = #[v0, v1, v2, v3, v4, u5, u6, u7, u8, u9, u10] from rfl] at s4
  have s5 := set_at (i := 5) (v := v5) s4
  rw [show (#[v0, v1, v2, v3, v4, u5, u6, u7, u8, u9, u10] : Array Value).setIfInBounds 5 v5 = #[v0, v1, v2, v3, v4, v5, u6, u7, u8, u9, u10] from rfl] at s5
  have s6 := set_at (i := 6) (v := v6) s5
  rw [show (#[v0, v1, v2, v3, v4, v5, u6, u7, u8, u9, u10] : Array Value).setIfInBounds 6 v6 = #[v0, v1, v2, v3, v4, v5, v6, u7, u8, u9, u10] from rfl] at s6
  have s7 := set_at (i := 7) (v := v7) s6
  rw [show (#[v0, v1, v2, v3, v4, v5, v6, u7, u8, u9, u10] : Array Value).setIfInBounds 7 v7 = #[v0, v1, v2, v3, v4, v5, v6, v7, u8, u9, u10] from rfl] at s7
  have s8 := set_at (i := 8) (v := v8) s7
  rw [show (#[v0, v1, v2, v3, v4, v5, v6, v7, u8, u9, u10] : Array Value).setIfInBounds 8 v8 = #[v0, v1, v2, v3, v4, v5, v6, v7, v8, u9, u10] from rfl] at s8
  have s9 := set_at (i := 9) (v := v9) s8
  rw [show (#[v0, v1, v2, v3, v4, v5, v6, v7, v8, u9, u10] : Array Value).setIfInBounds 9 v9 = #[v0, v1, v2, v3, v4, v5, v6, v7, v8, v9, u10] from rfl] at s9
  have s10 := set_at (i := 10) (v := v10) s9
  rw [show (#[v0, v1, v2, v3, v4, v5, v6, v7, v8, v9, u10] : Array Value).setIfInBounds 10 v10 = #[v0, v1, v2, v3, v4, v5, v6, v7, v8, v9, v10] from rfl] at s10
  exact s10
theorem put11_below {n b : Nat} {w w1 : World} (h : Below n w w1) (hb : n ≤ b) (v0 v1 v2 v3 v4 v5 v6 v7 v8 v9 v10 : Value) : Below n w (put11 w1 b v0 v1 v2 v3 v4 v5 v6 v7 v8 v9 v10) :=
  ((((((((((h.setCell (p := ⟨b, 0, none⟩) hb v0).setCell (p := ⟨b, 1, none⟩) hb v1).setCell (p := ⟨b, 2, none⟩) hb v2).setCell (p := ⟨b, 3, none⟩) hb v3).setCell (p := ⟨b, 4, none⟩) hb v4).setCell (p := ⟨b, 5, none⟩) hb v5).setCell (p := ⟨b, 6, none⟩) hb v6).setCell (p := ⟨b, 7, none⟩) hb v7).setCell (p := ⟨b, 8, none⟩) hb v8).setCell (p := ⟨b, 9, none⟩) hb v9).setCell (p := ⟨b, 10, none⟩) hb v10
theorem exit_memE {f : Func} {R : Ending → World → Prop} {a : Act} {W : World} {b : Nat} {t u : Tmp} {v0 v1 v2 v9 v10 : Int} {v3 v4 v5 v6 v7 v8 : ByteArray} {v : Value} (hf : f.results = #[.cell t 26, .tmp u]) (hb : W.heap[b]? = some (.cells #[.int .i64 v0, .int .i64 v1, .int .i64 v2, .string v3, .string v4, .string v5, .string v6, .string v7, .string v8, .int .i64 v9, .int .i64 v10] 26 (0, 0))) (h2 : a.tmps[t]? = some (.pointer (some ⟨b, 0, none⟩))) (h3 : a.tmps[u]? = some v) (hd : a.defers = []) (hR : R (.returned (.tuple #[.agg #[.int .i64 v0, .int .i64 v1, .int .i64 v2, .string v3, .string v4, .string v5, .string v6, .string v7, .string v8, .int .i64 v9, .int .i64 v10], v])) W) :
    bodyPost Tryz.prog f R .ret a W := by
  have hcell := fun o => cell_blk hb o
  refine bodyPost_ret ?_ hd hR
  simp [results, hf, go_sem, hcell, h2, h3]
set_option maxRecDepth 100000 in
set_option maxHeartbeats 8000000 in
theorem hOf_to {n l r : Int} {a b : V3} {wd dp : Int} (hk : kindP n ≠ 0) (h : Mem (kindP n) l r a b wd dp) (B : Nat) (w : World) (hB : B ≤ w.heap.size) (hT : PQ B w) :
    Calls Tryz.prog 30 #[lineV n a b l r, .int .i64 wd, .int .i64 dp] w (Ret w (.tuple #[memV (kindP n) l r a b wd dp, .int .i64 0])) := by
  have HT := hide hT
  have HK := hide (fun w => hkindOf_any n w)
  rw [decide_eq_true hk] at HK
  have HC := hide (fun w hB hT => hCheck_ok h B w hB hT)
  obtain ⟨k, hkk⟩ : ∃ k, k = kindP n := ⟨_, rfl⟩
  rw [← hkk] at HK HC ⊢
  have X0 := hide (heap2 w (lineO n a b l r) mem0)
  clear hkk hk h hT
  go_enter Tryz.func30, Tryz.ntmps30
  go_wp2_with fail
  refine (HK.out _).mono ?_
  rintro e w1 ⟨rfl, hb1⟩
  have G1 := hide (below_blk hb1 X0.out.1 (lt_blk X0.out.1))
  have G2 := hide (below_blk hb1 X0.out.2.1 (lt_blk X0.out.2.1))
  have HB1 := hide (X0.out.2.2.2.trans (hb1.mono X0.out.2.2.2.size))
  clear hb1
  have k1 := cell_blk G1.out 1
  have k2 := cell_blk G1.out 2
  have k3 := cell_blk G1.out 3
  have k4 := cell_blk G1.out 4
  have k5 := cell_blk G1.out 5
  have k6 := cell_blk G1.out 6
  have k7 := cell_blk G1.out 7
  have k8 := cell_blk G1.out 8
  have l1 := lt_blk G1.out
  go_wp2_with fail
  have X1 := hide (heap1 w1 (memO k l r a b wd dp))
  have HB2 := hide (HB1.out.trans (X1.out.2.2.mono HB1.out.size))
  refine (HC.out _ (Nat.le_trans hB HB2.out.size) (HT.out.on HB2.out hB)).mono ?_
  rintro e w3 ⟨rfl, hb3⟩
  have G3 := hide (below_blk hb3 X1.out.1 (lt_blk X1.out.1))
  have G4 := hide (below_blk hb3 (below_blk X1.out.2.2 G2.out (lt_blk G2.out)) (Nat.lt_of_lt_of_le (lt_blk G2.out) X1.out.2.2.size))
  have HB3 := hide (HB2.out.trans (hb3.mono HB2.out.size))
  clear hb3 k1 k2 k3 k4 k5 k6 k7 k8 l1 G1 G2
  have c := fun o => cell_blk G3.out o
  have l3 := lt_blk G3.out
  have d := fun o => cell_blk G4.out o
  have f := fun o => froz_blk G4.out o
  have l4 := lt_blk G4.out
  go_wp2_with fail
  exact exit_memE rfl (put11_at G4.out _ _ _ _ _ _ _ _ _ _ _) rfl rfl rfl ⟨rfl, put11_below HB3.out (show w.heap.size ≤ w.heap.size + 1 by omega) _ _ _ _ _ _ _ _ _ _ _⟩
end Go.Proofs.YtbfojhneajedmaaGreatDoor
namespace Go.KP
open Go
/-- **A region that draws its order: quiet in the class C.** -/
theorem region_class {P : Program} {C : World → Prop} {id : Nat} {Q : Exit → Act → World → Prop} {a : Act} {w : World} {l : List Oper} (hm : P.follows .mixedOrders = true) (hno : Region.noSelect l.toArray = true)
    (hlex : Region.lexFrom .any l.toArray l.length 0 (Array.replicate l.length false) = true) (hC : C { w with drawn := w.drawn + 1 })
    (h : wpQuiet P l.toArray C (fun a' => ∀ w', C w' → Q .normal a' w') l a) : (Code.region id l.toArray true).wp P Q a w := by
  refine wp_region_any hm ?_
  have h1 := wpAnyQ_lex (P := P) (C := C) (md := .any) hno l 0 (Array.replicate l.length false) a (by simp) hlex h
  have e : l.toArray.size = l.length := by simp
  rw [e]
  exact wpAny_of_quiet (C := C) (Q := fun a' => ∀ w', C w' → Q .normal a' w') (fun _ w' hw h => h w' hw) _ _ _ _ hC h1
end Go.KP
