/-
  The reference's integers: Divide of short numbers, by zero, of bad texts.; The reference's integers: Divide of long numbers walked.; The reference's integers: Gcd walked; both Gcds of bad texts.; The reference's rational numbers: Check walked.; Vectors of texts; the reference's check of a vector walked; results that may be missing.; Members of any kind: why one is none; the program's Check walked.; Vectors: Compare walked.
-/
import Derived.Test.YtbfojhneajedmaaGreatDoorM9
import Derived.Test.YtbfojhneajedmaaGreatDoorM14
import Derived.Test.YtbfojhneajedmaaGreatDoorM5
import Derived.Test.YtbfojhneajedmaaGreatDoorM12
import Derived.Test.YtbfojhneajedmaaGreatDoorM13
namespace Go.Proofs.YtbfojhneajedmaaGreatDoor
open Go.RowKit Go.KP Go.KI Go.Shelf
attribute [local go_sem] Oper.semAt_some

set_option maxRecDepth 100000 in
set_option maxHeartbeats 2000000 in
theorem rDivide_small (s t : ByteArray) (B : Nat) (w : World) (c1 : chkI s.data.toList = 0) (c2 : chkI t.data.toList = 0) (hs : s.size ≤ 17) (ht : t.size ≤ 17) (h0 : t.data.toList ≠ [48]) (hB : B ≤ w.heap.size) (hT : P10 B w) :
    Calls Tryz.prog 213 #[.string s, .string t] w (Ret w (tripV (Lib.itoa ((valI s.data.toList).fdiv (valI t.data.toList))) (Lib.itoa ((valI s.data.toList).fmod (valI t.data.toList))) 0)) := by
  have H1 := hide (rboth_any s t (by omega) (by omega) w)
  have hb0 : bothI s.data.toList t.data.toList = 0 := by unfold bothI; rw [if_pos c1, c2]
  rw [hb0] at H1
  have HT := hide hT
  have H2 := hide (fun w => rtwo_yes s t c1 c2 hs ht w)
  have v1 := short_val (n := 17) c1 (by rw [bytes_len]; exact hs) (by omega)
  have v2 := short_val (n := 17) c2 (by rw [bytes_len]; exact ht) (by omega)
  rw [pow17] at v1 v2
  have hy0 : valI t.data.toList ≠ 0 := by
    intro e
    have := (chk_ok c2).1
    rw [e, itoa_zero] at this
    exact h0 this
  have hq : (t.toList == [48]) = false := by rw [ByteArray.toList_eq]; simpa using h0
  obtain ⟨x, hx⟩ : ∃ x, x = valI s.data.toList := ⟨_, rfl⟩
  obtain ⟨y, hy⟩ : ∃ y, y = valI t.data.toList := ⟨_, rfl⟩
  rw [← hx, ← hy] at H2 ⊢
  rw [← hx] at v1
  rw [← hy] at v2 hy0
  have r1 := natAbs_tmod_lt x hy0
  have q1 := natAbs_tdiv_le x y
  have hyq : (y == 0) = false := by simpa using hy0
  clear c1 c2 hs ht h0 hT hx hy hb0
  go_enter Tryz.func213, Tryz.ntmps213
  go_wp2_with fail
  refine H1.out.mono ?_
  rintro e w1 ⟨rfl, hb1⟩
  have HB1 := hide hb1
  clear hb1 H1
  go_wp2_with fail
  refine (H2.out _).mono ?_
  rintro e w2 ⟨rfl, hb2⟩
  have HB2 := hide (HB1.out.trans (hb2.mono HB1.out.size))
  clear hb2 H2 HB1
  go_wp2_with fail
  go_quiet (fail)
  obtain ⟨w3, hw3⟩ : ∃ w3, w3 = w2.drewN nq := ⟨_, rfl⟩
  rw [← hw3]
  have HB3 := hide (show Below w.heap.size w w3 by rw [hw3]; exact ⟨HB2.out.os, HB2.out.tape, HB2.out.output, HB2.out.size, HB2.out.block⟩)
  clear hw3 HB2
  have FS := hide (floor_same (x := x) hy0); have FL := hide (floor_less (x := x) hy0)
  obtain ⟨q, hq2⟩ : ∃ q, q = x.tdiv y := ⟨_, rfl⟩
  obtain ⟨r, hr2⟩ : ∃ r, r = x.tmod y := ⟨_, rfl⟩
  rw [← hq2] at q1
  rw [← hr2] at r1
  rw [← hq2, ← hr2] at FS FL ⊢
  clear hq2 hr2 hyq hy0 hq
  obtain ⟨g, hg⟩ : ∃ g, g = x.fdiv y := ⟨_, rfl⟩
  obtain ⟨h, hh⟩ : ∃ h, h = x.fmod y := ⟨_, rfl⟩
  rw [← hg, ← hh] at FS FL
  have HG := hide hg; have HH := hide hh
  clear hg hh
  by_cases hr0 : r = 0
  · obtain ⟨f1, f2⟩ := FS.out (.inl hr0)
    have t1 : (r != 0) = false := by simp [hr0]
    have F1 := hide (f1.trans HG.out); have F2 := hide (f2.trans HH.out)
    clear hr0 f1 f2
    go_wp2_with fail
    refine (itoa_any q (by omega) (by omega) B _ (HT.out.on HB3.out hB)).mono ?_
    rintro e w4 ⟨rfl, hb4⟩
    have HB4 := hide (HB3.out.trans (hb4.mono HB3.out.size))
    clear hb4 HB3
    go_wp2_with fail
    refine (itoa_any r (by omega) (by omega) B _ (HT.out.on HB4.out hB)).mono ?_
    rintro e w5 ⟨rfl, hb5⟩
    have HB5 := hide (HB4.out.trans (hb5.mono HB4.out.size))
    clear hb5 HB4
    go_wp2_with fail
    refine bodyPost_ret (results_tmp3' rfl _ _ _) rfl ?_
    exact ⟨by rw [← F1.out, ← F2.out]; rfl, HB5.out⟩
  · have t1 : (r != 0) = true := by simpa using hr0
    by_cases h1 : r < 0
    · by_cases h2 : y < 0
      · obtain ⟨f1, f2⟩ := FS.out (.inr ⟨fun _ => h2, fun _ => h1⟩)
        have F1 := hide (f1.trans HG.out); have F2 := hide (f2.trans HH.out)
        clear hr0 f1 f2
        go_wp2_with fail
        refine (itoa_any q (by omega) (by omega) B _ (HT.out.on HB3.out hB)).mono ?_
        rintro e w4 ⟨rfl, hb4⟩
        have HB4 := hide (HB3.out.trans (hb4.mono HB3.out.size))
        clear hb4 HB3
        go_wp2_with fail
        refine (itoa_any r (by omega) (by omega) B _ (HT.out.on HB4.out hB)).mono ?_
        rintro e w5 ⟨rfl, hb5⟩
        have HB5 := hide (HB4.out.trans (hb5.mono HB4.out.size))
        clear hb5 HB4
        go_wp2_with fail
        refine bodyPost_ret (results_tmp3' rfl _ _ _) rfl ?_
        exact ⟨by rw [← F1.out, ← F2.out]; rfl, HB5.out⟩
      · obtain ⟨f1, f2⟩ := FL.out hr0 (fun e => h2 (e.1 h1))
        have F1 := hide (f1.trans HG.out); have F2 := hide (f2.trans HH.out)
        have t2 : (y < 0) = False := eq_false h2
        clear hr0 f1 f2 h2
        go_wp2_with fail
        refine (itoa_any (q-1) (by omega) (by omega) B _ (HT.out.on HB3.out hB)).mono ?_
        rintro e w4 ⟨rfl, hb4⟩
        have HB4 := hide (HB3.out.trans (hb4.mono HB3.out.size))
        clear hb4 HB3
        go_wp2_with fail
        refine (itoa_any (r+y) (by omega) (by omega) B _ (HT.out.on HB4.out hB)).mono ?_
        rintro e w5 ⟨rfl, hb5⟩
        have HB5 := hide (HB4.out.trans (hb5.mono HB4.out.size))
        clear hb5 HB4
        go_wp2_with fail
        refine bodyPost_ret (results_tmp3' rfl _ _ _) rfl ?_
        exact ⟨by rw [← F1.out, ← F2.out]; rfl, HB5.out⟩
    · by_cases h2 : y < 0
      · obtain ⟨f1, f2⟩ := FL.out hr0 (fun e => h1 (e.2 h2))
        have F1 := hide (f1.trans HG.out); have F2 := hide (f2.trans HH.out)
        have t2 : (r < 0) = False := eq_false h1
        clear hr0 f1 f2 h1
        go_wp2_with fail
        refine (itoa_any (q-1) (by omega) (by omega) B _ (HT.out.on HB3.out hB)).mono ?_
        rintro e w4 ⟨rfl, hb4⟩
        have HB4 := hide (HB3.out.trans (hb4.mono HB3.out.size))
        clear hb4 HB3
        go_wp2_with fail
        refine (itoa_any (r+y) (by omega) (by omega) B _ (HT.out.on HB4.out hB)).mono ?_
        rintro e w5 ⟨rfl, hb5⟩
        have HB5 := hide (HB4.out.trans (hb5.mono HB4.out.size))
        clear hb5 HB4
        go_wp2_with fail
        refine bodyPost_ret (results_tmp3' rfl _ _ _) rfl ?_
        exact ⟨by rw [← F1.out, ← F2.out]; rfl, HB5.out⟩
      · obtain ⟨f1, f2⟩ := FS.out (.inr ⟨fun e => absurd e h1, fun e => absurd e h2⟩)
        have F1 := hide (f1.trans HG.out); have F2 := hide (f2.trans HH.out)
        have t2 : (r < 0) = False := eq_false h1
        have t3 : (y < 0) = False := eq_false h2
        clear hr0 f1 f2 h1 h2
        go_wp2_with fail
        refine (itoa_any q (by omega) (by omega) B _ (HT.out.on HB3.out hB)).mono ?_
        rintro e w4 ⟨rfl, hb4⟩
        have HB4 := hide (HB3.out.trans (hb4.mono HB3.out.size))
        clear hb4 HB3
        go_wp2_with fail
        refine (itoa_any r (by omega) (by omega) B _ (HT.out.on HB4.out hB)).mono ?_
        rintro e w5 ⟨rfl, hb5⟩
        have HB5 := hide (HB4.out.trans (hb5.mono HB4.out.size))
        clear hb5 HB4
        go_wp2_with fail
        refine bodyPost_ret (results_tmp3' rfl _ _ _) rfl ?_
        exact ⟨by rw [← F1.out, ← F2.out]; rfl, HB5.out⟩
end Go.Proofs.YtbfojhneajedmaaGreatDoor
namespace Go.Proofs.YtbfojhneajedmaaGreatDoor
open Go.RowKit Go.KP Go.KI Go.Shelf
attribute [local go_sem] Oper.semAt_some

theorem row1 {w : World} : LimbAt (w.alloc (.cells #[.int .i64 1] 3)).heap.size (w.alloc (.cells #[.int .i64 1] 3)) (.slice (some ⟨w.heap.size, 0, none⟩) ([1] : List Nat).length 1) [1] := row_limbs (heap_alloc_new w (rowO [1])) (by simp [maxLen])
theorem norm1 : Norm 1000000 [1] := ⟨fun z hz => by simp only [List.mem_singleton] at hz; omega, .inr (by simp [lat])⟩
/-- The blocks of Divide behind the division: quotient, rest, divisor. -/
structure RDivSt (nb b : Nat) (mq mr my : Bool) (vq vr vy : Value) (W : World) : Prop where
  q : W.heap[b]? = some (bigO mq vq)
  r : W.heap[b + 1]? = some (bigO mr vr)
  y : W.heap[nb + 1]? = some (bigO my vy)
  lt : nb + 1 < b
theorem RDivSt.on {nb b : Nat} {mq mr my : Bool} {vq vr vy : Value} {W W2 : World} (h : RDivSt nb b mq mr my vq vr vy W) (hb : Below W.heap.size W W2) : RDivSt nb b mq mr my vq vr vy W2 :=
  ⟨below_blk hb h.q (lt_blk h.q), below_blk hb h.r (lt_blk h.r), below_blk hb h.y (lt_blk h.y), h.lt⟩
theorem RDivSt.cells {nb b : Nat} {mq mr my : Bool} {vq vr vy : Value} {W : World} (h : RDivSt nb b mq mr my vq vr vy W) :
    (W.cell? ⟨b, 0, none⟩ = some (.bool mq) ∧ W.cell? ⟨b, 1, none⟩ = some vq) ∧ (W.cell? ⟨b + 1, 0, none⟩ = some (.bool mr) ∧ W.cell? ⟨b + 1, 1, none⟩ = some vr) ∧ (W.cell? ⟨nb + 1, 0, none⟩ = some (.bool my) ∧ W.cell? ⟨nb + 1, 1, none⟩ = some vy) ∧
    (W.frozen? ⟨b, 0, none⟩ = false ∧ W.frozen? ⟨b, 1, none⟩ = false) ∧ (W.frozen? ⟨b + 1, 0, none⟩ = false ∧ W.frozen? ⟨b + 1, 1, none⟩ = false) ∧ b < W.heap.size ∧ b + 1 < W.heap.size ∧ nb + 1 < W.heap.size :=
  ⟨⟨cell_blk h.q 0, cell_blk h.q 1⟩, ⟨cell_blk h.r 0, cell_blk h.r 1⟩, ⟨cell_blk h.y 0, cell_blk h.y 1⟩, ⟨froz_blk h.q 0, froz_blk h.q 1⟩, ⟨froz_blk h.r 0, froz_blk h.r 1⟩, lt_blk h.q, lt_blk h.r, lt_blk h.y⟩
theorem RDivSt.setq {nb b : Nat} {mq mr my : Bool} {vq vr vy : Value} {W : World} (h : RDivSt nb b mq mr my vq vr vy W) (m : Bool) (v : Value) :
    RDivSt nb b m mr my v vr vy ((W.setCell ⟨b, 0, none⟩ (.bool m)).setCell ⟨b, 1, none⟩ v) ∧ Below b W ((W.setCell ⟨b, 0, none⟩ (.bool m)).setCell ⟨b, 1, none⟩ v) := by
  obtain ⟨s1, s2⟩ := set2 h.q (.bool m) v
  have := h.lt
  exact ⟨⟨s1, (setCell_other (by omega)).trans ((setCell_other (by omega)).trans h.r), (setCell_other (by omega)).trans ((setCell_other (by omega)).trans h.y), h.lt⟩, s2⟩
theorem RDivSt.setr {nb b : Nat} {mq mr my : Bool} {vq vr vy : Value} {W : World} (h : RDivSt nb b mq mr my vq vr vy W) (m : Bool) (v : Value) :
    RDivSt nb b mq m my vq v vy ((W.setCell ⟨b + 1, 0, none⟩ (.bool m)).setCell ⟨b + 1, 1, none⟩ v) ∧ Below b W ((W.setCell ⟨b + 1, 0, none⟩ (.bool m)).setCell ⟨b + 1, 1, none⟩ v) := by
  obtain ⟨s1, s2⟩ := set2 h.r (.bool m) v
  have := h.lt
  exact ⟨⟨(setCell_other (by omega)).trans ((setCell_other (by omega)).trans h.q), s1, (setCell_other (by omega)).trans ((setCell_other (by omega)).trans h.y), h.lt⟩, s2.mono (by omega)⟩
/-- A row that is none of the numbers' blocks stays where a number is set. -/
theorem OwnL.setNum {base nb : Nat} {W : World} {v u : Value} {m : Bool} {l : List Nat} (h : OwnL base W v l) (hb : W.heap[nb]? = some (bigO m u)) (m2 : Bool) (u2 : Value) : OwnL base ((W.setCell ⟨nb, 0, none⟩ (.bool m2)).setCell ⟨nb, 1, none⟩ u2) v l :=
  owns_stay h (fun r hr => by
    have := own_ne_big h hb r hr
    rw [setCell_other (by omega), setCell_other (by omega)])
set_option maxRecDepth 100000 in
set_option maxHeartbeats 16000000 in
theorem rDivide_long (s t : ByteArray) (w : World) (c1 : chkI s.data.toList = 0) (c2 : chkI t.data.toList = 0) (hl : ¬ (s.size ≤ 17 ∧ t.size ≤ 17)) (h0 : t.data.toList ≠ [48]) :
    Calls Tryz.prog 213 #[.string s, .string t] w (Ret w (tripV (Lib.itoa ((valI s.data.toList).fdiv (valI t.data.toList))) (Lib.itoa ((valI s.data.toList).fmod (valI t.data.toList))) 0)) := by
  have l1' := (chk_digs c1).2
  have l2' := (chk_digs c2).2
  rw [bytes_len] at l1' l2'
  have H1 := hide (rboth_any s t (by omega) (by omega) w)
  have hb0 : bothI s.data.toList t.data.toList = 0 := by unfold bothI; rw [if_pos c1, c2]
  rw [hb0] at H1
  have hy0 := chk_nz c2 h0
  have hq : (t.toList == [48]) = false := by rw [ByteArray.toList_eq]; simpa using h0
  have FQ := hide (res_fit (fits_of_le (chk_ok c1).2 (fdiv_natAbs_le (x := valI s.data.toList) hy0)))
  have H2 := hide (fun w => rtwo_no s t c1 hl w)
  have R1 := hide (fun w => rread_good s c1 w)
  have R2 := hide (fun w => rread_good t c2 w)
  obtain ⟨QS, hQS⟩ : ∃ u, u = strB (Lib.itoa ((valI s.data.toList).fdiv (valI t.data.toList))) := ⟨_, rfl⟩
  obtain ⟨RS, hRS⟩ : ∃ u, u = strB (Lib.itoa ((valI s.data.toList).fmod (valI t.data.toList))) := ⟨_, rfl⟩
  rw [tripV, ← hQS, ← hRS]
  have HQS := hide hQS; have HRS := hide hRS
  clear c1 c2 hl h0 hb0 l1' l2' hQS hRS
  go_enter Tryz.func213, Tryz.ntmps213
  go_wp2_with fail
  refine H1.out.mono ?_
  rintro e w1 ⟨rfl, hb1⟩
  have HB1 := hide hb1
  clear hb1 H1
  go_wp2_with fail
  refine (H2.out _).mono ?_
  rintro e w2 ⟨x0, y0, rfl, hb2⟩
  have HB2 := hide (HB1.out.trans (hb2.mono HB1.out.size))
  clear hb2 H2 HB1
  go_wp2_with fail
  refine (R1.out _).mono ?_
  rintro e w3 ⟨m1, v1, l1, rfl, hb3, o1, n1, q1, k1⟩
  have HB3 := hide (HB2.out.trans (hb3.mono HB2.out.size))
  have O1 := hide o1; have N1 := hide n1; have Q1 := hide q1
  clear hb3 HB2 R1 o1 n1 q1
  go_wp2_with fail
  refine (R2.out _).mono ?_
  rintro e w4 ⟨m2, v2, l2, rfl, hb4, o2, n2, q2, k2⟩
  have HB4 := hide (HB3.out.trans (hb4.mono HB3.out.size))
  have O1' := hide (O1.out.keep hb4)
  have O2 := hide o2; have N2 := hide n2; have Q2 := hide q2
  clear hb4 HB3 R2 o2 n2 q2 O1
  obtain ⟨av1, cv1, hvf, _, _⟩ := O1'.out.form
  subst hvf
  obtain ⟨av2, cv2, hvf, _, _⟩ := O2.out.form
  subst hvf
  have hl2 : l2 ≠ [] := by
    intro e
    have h := Q2.out
    rw [e] at h
    apply hy0
    rw [← h]
    cases m2 <;> rfl
  have hly : 0 < lv 1000000 l2 := by
    rcases Nat.eq_zero_or_pos (lv 1000000 l2) with h | h
    · exact absurd ((N2.out.zero (by omega)).1 h) hl2
    · exact h
  obtain ⟨g0, g1, gs0, gb0⟩ := heap2 w4 (bigO m1 (.slice av1 l1.length cv1)) (bigO m2 (.slice av2 l2.length cv2))
  obtain ⟨w5, hw5⟩ : ∃ w5, (w4.alloc (bigO m1 (.slice av1 l1.length cv1))).alloc (bigO m2 (.slice av2 l2.length cv2)) = w5 := ⟨_, rfl⟩
  rw [hw5] at g0 g1 gs0 gb0
  have c1 := cell_blk g0 1
  have c3 := cell_blk g1 1
  have HDV := hide (rdivide_any (.slice av1 l1.length cv1) (.slice av2 l2.length cv2) l1 l2 w5.heap.size w5 (LimbAt.of_own (O1'.out.keep gb0)) (LimbAt.of_own (O2.out.keep gb0)) (Nat.le_refl _) N1.out.lt N2.out hl2 (by omega) (by omega))
  have O2' := hide (O2.out.keep gb0)
  have HB5 := hide (HB4.out.trans (gb0.mono HB4.out.size)); have G0 := hide g0; have G1 := hide g1
  have hs5 : w4.heap.size + 1 < w5.heap.size := by omega
  have FL := hide (floor_long m1 m2 (a := lv 1000000 l1) hly)
  rw [Q1.out, Q2.out] at FL
  have HW5 := hide hw5
  clear g0 g1 gs0 gb0 O1' O2 HB4 hy0 hw5
  go_wp2_with fail
  rw [HW5.out]
  clear HW5
  obtain ⟨nb, hnb⟩ : ∃ nb, nb = w4.heap.size := ⟨_, rfl⟩
  rw [← hnb] at c1 c3 G0 G1 hs5 ⊢
  have HNB := hide hnb
  clear hnb
  refine HDV.out.mono ?_
  rintro e w6 ⟨vq, vr, q, r, rfl, hb6, oq, or_, nq, nr, eq, er, lq⟩
  obtain ⟨aq, cq, hvf, _, _⟩ := oq.form
  subst hvf
  obtain ⟨ar, cr, hvf, _, _⟩ := or_.form
  subst hvf
  have HBZ := hide (HB5.out.trans (hb6.mono HB5.out.size))
  have G0Z := hide (below_blk hb6 G0.out (by omega))
  have G1Z := hide (below_blk hb6 G1.out (by omega))
  have O2Z := hide (O2'.out.keep hb6)
  have hs6 : nb + 1 < w6.heap.size := Nat.lt_of_lt_of_le hs5 hb6.size
  have lr : r.length ≤ l2.length := norm_le_b (by omega) nr N2.out.lt (by rw [er]; exact Nat.le_of_lt (Nat.mod_lt _ hly))
  have OQ := hide oq; have OR := hide or_; have NQ := hide nq; have NR := hide nr; have ER := hide er
  rw [← eq, ← er] at FL
  clear hb6 oq or_ nq nr eq er c1 c3 HB5 G0 G1 O2' HDV
  have z0 := cell_blk G0Z.out 0
  have z1 := cell_blk G1Z.out 0
  have zA : ∀ o1 o2 : Obj, ((w6.alloc o1).alloc o2).cell? ⟨nb, 0, none⟩ = some (.bool m1) := fun o1 o2 => (cell_alloc (by simp; omega)).trans ((cell_alloc (by omega)).trans z0)
  have zB : ∀ o1 o2 : Obj, ((w6.alloc o1).alloc o2).cell? ⟨nb + 1, 0, none⟩ = some (.bool m2) := fun o1 o2 => (cell_alloc (by simp; omega)).trans ((cell_alloc (by omega)).trans z1)
  have hqc : (q = [] ∧ (0 < q.length) = False) ∨ (q ≠ [] ∧ 0 < q.length) := by
    by_cases h : q = []
    · exact .inl ⟨h, eq_false (by rw [h]; simp)⟩
    · exact .inr ⟨h, List.length_pos_iff.2 h⟩
  have hrc : (r = [] ∧ (0 < r.length) = False) ∨ (r ≠ [] ∧ 0 < r.length) := by
    by_cases h : r = []
    · exact .inl ⟨h, eq_false (by rw [h]; simp)⟩
    · exact .inr ⟨h, List.length_pos_iff.2 h⟩
  by_cases had : m1 ≠ m2 ∧ r ≠ []
  · obtain ⟨hm, hr⟩ := had
    have hr1 : lv 1000000 r ≠ 0 := fun e => hr ((NR.out.zero (by omega)).1 e)
    obtain ⟨f1, f2⟩ := FL.out.2 hm hr1
    have hm2 : m2 = !m1 := by cases m1 <;> cases m2 <;> simp_all
    have hrl : 0 < r.length := List.length_pos_iff.2 hr
    have hlt : lv 1000000 r ≤ lv 1000000 l2 := by
      rw [ER.out]
      exact Nat.le_of_lt (Nat.mod_lt _ hly)
    have HZ1 := hide (show -((lv 1000000 q : Nat) : Int) + -1 = (valI s.data.toList).fdiv (valI t.data.toList) by
      rw [← f1, hm2]
      cases m1 <;> simp [valS] <;> omega)
    have HZ2 := hide (show valS m1 (lv 1000000 r) + valS m2 (lv 1000000 l2) = (valI s.data.toList).fmod (valI t.data.toList) by
      rw [← f2, hm2]
      exact valS_sub2 m1 hlt)
    have HF0 := hide (fun (a b : Bool) => heap2 w6 (bigO a (.slice aq q.length cq)) (bigO b (.slice ar r.length cr)))
    have HST := hide (fun (sq sr : Bool) => show RDivSt nb w6.heap.size sq sr m2 (.slice aq q.length cq) (.slice ar r.length cr) (.slice av2 l2.length cv2) ((w6.alloc (bigO sq (.slice aq q.length cq))).alloc (bigO sr (.slice ar r.length cr))) from
      ⟨(heap2 w6 _ _).1, (heap2 w6 _ _).2.1, below_blk (heap2 w6 _ _).2.2.2 G1Z.out hs6, hs6⟩)
    have HA := hide (fun (sq sr : Bool) (h : valS sq (lv 1000000 q) = -((lv 1000000 q : Nat) : Int)) => show Calls Tryz.prog 228 #[numV sq (.slice aq q.length cq), numV true (.slice (some ⟨w6.heap.size + 1 + 1, 0, none⟩) 1 1)] (((w6.alloc (bigO sq (.slice aq q.length cq))).alloc (bigO sr (.slice ar r.length cr))).alloc (.cells #[.int .i64 1] 3))
        (fun e W2 => ∃ m3 a3 c3 l3, e = .returned (numV m3 (.slice a3 l3.length c3)) ∧ Hid (RDivSt nb w6.heap.size sq sr m2 (.slice aq q.length cq) (.slice ar r.length cr) (.slice av2 l2.length cv2) W2 ∧ Below w6.heap.size w6 W2 ∧ OwnL w6.heap.size W2 (.slice a3 l3.length c3) l3 ∧ Norm 1000000 l3 ∧ valS m3 (lv 1000000 l3) = (valI s.data.toList).fdiv (valI t.data.toList)) ∧ l3.length ≤ 200) by
      have hb6 : Below w6.heap.size w6 (((w6.alloc (bigO sq (.slice aq q.length cq))).alloc (bigO sr (.slice ar r.length cr))).alloc (.cells #[.int .i64 1] 3)) := (heap2 w6 _ _).2.2.2.alloc (heap2 w6 _ _).2.2.2.size _
      have h1 := row1 (w := (w6.alloc (bigO sq (.slice aq q.length cq))).alloc (bigO sr (.slice ar r.length cr)))
      rw [(heap2 w6 _ _).2.2.1] at h1
      refine (radd_any sq true aq (some ⟨w6.heap.size + 1 + 1, 0, none⟩) cq 1 q [1] _ (.of_own (OQ.out.keep hb6)) h1 NQ.out norm1 (by omega) (by simp)).mono ?_
      rintro e W2 ⟨m3, v3, l3, rfl, hb3, o3, n3, q3, k3⟩
      obtain ⟨a3, c3, hvf, _, _⟩ := o3.form
      subst hvf
      refine ⟨m3, a3, c3, l3, rfl, ⟨?_, hb6.trans (hb3.mono hb6.size), o3.mono hb6.size, n3, ?_⟩, by simp at k3; omega⟩
      · exact ((HST.out sq sr).on ((Below.refl _ _).alloc (Nat.le_refl _) _)).on hb3
      · rw [q3, h, ← HZ1.out]
        rfl)
    have HC := hide (fun (sr : Bool) (W : World) (hb : Below w6.heap.size w6 W) => radd_any sr m2 ar av2 cr cv2 r l2 W (.of_own (OR.out.keep hb)) (.of_own (O2Z.out.keep hb)) NR.out N2.out (by omega) (by omega))
    clear FL hrc f1 f2 hr1 hlt
    subst hm2
    rcases hqc with ⟨hq0, hqi⟩ | ⟨hq0, hqi⟩ <;> cases m1
    all_goals
      have HQ0 := hide hq0
      clear hq0 hr hm
      go_wp2_with fail
      refine (HA.out _ _ (by first | rfl | (rw [HQ0.out]; rfl))).mono ?_
      rintro e w7 ⟨m3, a3, c3, l3, rfl, hst, k3⟩
      have ST := hide hst.out.1; have HB7 := hide hst.out.2.1; have O3 := hide hst.out.2.2.1; have N3 := hide hst.out.2.2.2.1; have Q3 := hide hst.out.2.2.2.2
      obtain ⟨⟨e1, e2⟩, ⟨e3, e4⟩, ⟨e5, e6⟩, ⟨e7, e8⟩, ⟨e9, e10⟩, e11, e12, e13⟩ := ST.out.cells
      clear hst HA zA zB z0 z1
      have ne1 : (w6.heap.size = w6.heap.size + 1) = False := eq_false (by omega)
      have ne2 : (w6.heap.size = nb + 1) = False := eq_false (by omega)
      go_wp2_with fail
      have ST8 := hide (ST.out.setq m3 (.slice a3 l3.length c3)).1
      have HB8 := hide (HB7.out.trans (ST.out.setq m3 (.slice a3 l3.length c3)).2)
      have O8 := hide (O3.out.setNum ST.out.q m3 (.slice a3 l3.length c3))
      obtain ⟨w8, hw8⟩ : ∃ w8, (w7.setCell ⟨w6.heap.size, 0, none⟩ (.bool m3)).setCell ⟨w6.heap.size, 1, none⟩ (.slice a3 l3.length c3) = w8 := ⟨_, rfl⟩
      rw [hw8] at ST8 HB8 O8 ⊢
      clear hw8 e1 e2 e3 e4 e5 e6 e7 e8 e9 e10 e11 e12 e13 ST HB7 O3 ne1 ne2
      refine (HC.out _ w8 HB8.out).mono ?_
      rintro e w9 ⟨m4, v4, l4, rfl, hb9, o4, n4, q4, k4⟩
      obtain ⟨a4, c4, hvf, _, _⟩ := o4.form
      subst hvf
      have ST9 := hide (ST8.out.on hb9)
      have HB9 := hide (HB8.out.trans (hb9.mono HB8.out.size)); have O9 := hide (O8.out.keep hb9)
      have O4 := hide (o4.mono HB8.out.size); have N4 := hide n4
      have Q4 := hide (q4.trans HZ2.out)
      have hk4 : l4.length ≤ 100 := by omega
      obtain ⟨⟨e1, e2⟩, ⟨e3, e4⟩, ⟨e5, e6⟩, ⟨e7, e8⟩, ⟨e9, e10⟩, e11, e12, e13⟩ := ST9.out.cells
      have ne3 : (w6.heap.size + 1 = w6.heap.size) = False := eq_false (by omega)
      clear hb9 o4 n4 q4 k4 ST8 HB8 O8 HC
      go_wp2_with fail
      clear e1 e2 e3 e4 e5 e6 e7 e8 e9 e10 e11 e12 e13 ne3
      have STA := hide (ST9.out.setr m4 (.slice a4 l4.length c4)).1
      have HBA := hide (HB9.out.trans (ST9.out.setr m4 (.slice a4 l4.length c4)).2)
      have O3A := hide (O9.out.setNum ST9.out.r m4 (.slice a4 l4.length c4))
      have O4A := hide (O4.out.setNum ST9.out.r m4 (.slice a4 l4.length c4))
      obtain ⟨wA, hwA⟩ : ∃ wA, (w9.setCell ⟨w6.heap.size + 1, 0, none⟩ (.bool m4)).setCell ⟨w6.heap.size + 1, 1, none⟩ (.slice a4 l4.length c4) = wA := ⟨_, rfl⟩
      rw [hwA] at STA HBA O3A O4A ⊢
      clear hwA ST9 HB9 O9 O4
      have hres := rresult_any m3 (.slice a3 l3.length c3) l3 wA.heap.size wA (.of_own O3A.out) (Nat.le_refl _) N3.out (by omega)
      rw [Q3.out, FQ.out.1, FQ.out.2, pairV, ← HQS.out] at hres
      refine hres.mono ?_
      clear hres
      rintro e wB ⟨rfl, hbB⟩
      have STB := hide (STA.out.on hbB)
      have HBB := hide (HBA.out.trans (hbB.mono HBA.out.size)); have O4B := hide (O4A.out.keep hbB)
      obtain ⟨⟨e1, e2⟩, ⟨e3, e4⟩, ⟨e5, e6⟩, ⟨e7, e8⟩, ⟨e9, e10⟩, e11, e12, e13⟩ := STB.out.cells
      clear hbB STA HBA O3A O4A
      go_wp2_with fail
      have hwr := rwrite_any m4 (.slice a4 l4.length c4) l4 wB.heap.size wB (.of_own O4B.out) (Nat.le_refl _) N4.out (by omega)
      rw [Q4.out, ← HRS.out] at hwr
      refine hwr.mono ?_
      clear hwr e1 e2 e3 e4 e5 e6 e7 e8 e9 e10 e11 e12 e13
      rintro e wC ⟨rfl, hbC⟩
      have HBC := hide (HBZ.out.trans ((HBB.out.trans (hbC.mono HBB.out.size)).mono HBZ.out.size))
      clear hbC
      go_wp2_with fail
      refine bodyPost_ret (results_tmp3' rfl _ _ _) rfl ?_
      exact ⟨rfl, HBC.out⟩
  · have hz : valS (!(m1 == m2)) (lv 1000000 q) = (valI s.data.toList).fdiv (valI t.data.toList) ∧ valS m1 (lv 1000000 r) = (valI s.data.toList).fmod (valI t.data.toList) := by
      by_cases hm : m1 = m2
      · obtain ⟨f1, f2⟩ := FL.out.1 (.inl hm)
        exact ⟨f1, by rw [← hm] at f2; exact f2⟩
      · have hr : r = [] := by
          rcases hrc with h | h
          · exact h.1
          · exact absurd ⟨hm, h.1⟩ had
        obtain ⟨f1, f2⟩ := FL.out.1 (.inr (by rw [hr]; rfl))
        refine ⟨f1, ?_⟩
        rw [← f2, hr]
        cases m1 <;> cases m2 <;> rfl
    have HZ := hide hz; have HAD := hide had
    have HR1 := hide (fun (m : Bool) (W : World) (hb : Below w6.heap.size w6 W) (hm : valS m (lv 1000000 q) = (valI s.data.toList).fdiv (valI t.data.toList)) => show Calls Tryz.prog 227 #[numV m (.slice aq q.length cq)] W (Ret W (.tuple #[.string QS, .int .i64 0])) by
      have h := rresult_any m (.slice aq q.length cq) q W.heap.size W (.of_own (OQ.out.keep hb)) (Nat.le_refl _) NQ.out (by omega)
      rw [hm, FQ.out.1, FQ.out.2, pairV, ← HQS.out] at h
      exact h)
    have HR2 := hide (fun (m : Bool) (W : World) (hb : Below w6.heap.size w6 W) (hm : valS m (lv 1000000 r) = (valI s.data.toList).fmod (valI t.data.toList)) => show Calls Tryz.prog 224 #[numV m (.slice ar r.length cr)] W (Ret W (.string RS)) by
      have h := rwrite_any m (.slice ar r.length cr) r W.heap.size W (.of_own (OR.out.keep hb)) (Nat.le_refl _) NR.out (by omega)
      rw [hm, ← HRS.out] at h
      exact h)
    have HF0 := hide (fun (a b : Bool) => heap2 w6 (bigO a (.slice aq q.length cq)) (bigO b (.slice ar r.length cr)))
    clear hz had FL
    rcases hqc with ⟨hq0, hqi⟩ | ⟨hq0, hqi⟩ <;> rcases hrc with ⟨hr0, hri⟩ | ⟨hr0, hri⟩ <;> cases m1 <;> cases m2
    all_goals first | (exfalso; exact HAD.out ⟨by decide, hr0⟩) | skip
    all_goals
      have HQ0 := hide hq0; have HR0 := hide hr0
      clear hq0 hr0
      go_wp2_with fail
    all_goals
      refine (HR1.out _ _ (HF0.out _ _).2.2.2 (by first | exact HZ.out.1 | (have := HZ.out.1; rw [HQ0.out] at this ⊢; simpa [lv, valS] using this))).mono ?_
      rintro e w7 ⟨rfl, hb7⟩
      have C7 := hide (below_blk hb7 (HF0.out _ _).2.1 (lt_blk (HF0.out _ _).2.1))
      have HB7 := hide ((HF0.out _ _).2.2.2.trans (hb7.mono (HF0.out _ _).2.2.2.size))
      have cz0 := cell_blk C7.out 0
      have cz1 := cell_blk C7.out 1
      clear hb7 zA zB z0 z1
      go_wp2_with fail
      refine (HR2.out _ _ HB7.out (by first | exact HZ.out.2 | (have := HZ.out.2; rw [HR0.out] at this ⊢; simpa [lv, valS] using this))).mono ?_
      rintro e w8 ⟨rfl, hb8⟩
      have HB8 := hide (HBZ.out.trans ((HB7.out.trans (hb8.mono HB7.out.size)).mono HBZ.out.size))
      clear hb8 cz0 cz1
      go_wp2_with fail
      refine bodyPost_ret (results_tmp3' rfl _ _ _) rfl ?_
      exact ⟨rfl, HB8.out⟩
end Go.Proofs.YtbfojhneajedmaaGreatDoor
namespace Go.Proofs.YtbfojhneajedmaaGreatDoor
open Go.RowKit Go.KP Go.KI Go.Shelf
attribute [local go_sem] Oper.semAt_some

theorem rfield_limbs (m : Bool) (v : Value) (w : World) : (Instr.field 247 (numV m v) 1).run Tryz.prog w = .ok v w := by kernel_rfl
set_option maxRecDepth 100000 in
set_option maxHeartbeats 2000000 in
theorem rGcd_small (s t : ByteArray) (B : Nat) (w : World) (c1 : chkI s.data.toList = 0) (c2 : chkI t.data.toList = 0) (hs : s.size ≤ 17) (ht : t.size ≤ 17) (hB : B ≤ w.heap.size) (hT : P10 B w) :
    Calls Tryz.prog 175 #[.string s, .string t] w (Ret w (pairV (Lib.itoa ((Nat.gcd (valI s.data.toList).natAbs (valI t.data.toList).natAbs : Nat) : Int)) 0)) := by
  have H1 := hide (rboth_any s t (by omega) (by omega) w)
  have hb0 : bothI s.data.toList t.data.toList = 0 := by unfold bothI; rw [if_pos c1, c2]
  rw [hb0] at H1
  have HT := hide hT
  have H2 := hide (fun w => rtwo_yes s t c1 c2 hs ht w)
  have v1 := short_val (n := 17) c1 (by rw [bytes_len]; exact hs) (by omega)
  have v2 := short_val (n := 17) c2 (by rw [bytes_len]; exact ht) (by omega)
  rw [pow17] at v1 v2
  obtain ⟨x, hx⟩ : ∃ x, x = valI s.data.toList := ⟨_, rfl⟩
  obtain ⟨y, hy⟩ : ∃ y, y = valI t.data.toList := ⟨_, rfl⟩
  rw [← hx, ← hy] at H2 ⊢
  rw [← hx] at v1
  rw [← hy] at v2
  obtain ⟨G, hG⟩ : ∃ G, G = Nat.gcd x.natAbs y.natAbs := ⟨_, rfl⟩
  rw [← hG]
  have HG := hide hG
  have V1 := hide v1; have V2 := hide v2
  clear c1 c2 hs ht hT hx hy hb0 hG v1 v2
  go_enter Tryz.func175, Tryz.ntmps175
  go_wp2_with fail
  refine H1.out.mono ?_
  rintro e w1 ⟨rfl, hb1⟩
  have HB1 := hide hb1
  clear hb1 H1
  go_wp2_with fail
  refine (H2.out _).mono ?_
  rintro e w2 ⟨rfl, hb2⟩
  have HB2 := hide (HB1.out.trans (hb2.mono HB1.out.size))
  clear hb2 H2 HB1
  go_wp2_with fail
  go_loopw [7, 8] (fun a b wr => ∃ p q : Int, a = .int .i64 p ∧ b = .int .i64 q ∧ p.natAbs < 100000000000000000 ∧ q.natAbs < 100000000000000000 ∧ Hid (Nat.gcd p.natAbs q.natAbs = G ∧ Below w.heap.size w wr)) (fun _ b _ => (intOf b).natAbs)
  case atStart => exact ⟨x, y, rfl, rfl, V1.out, V2.out, HG.out.symm, HB2.out⟩
  case round =>
    obtain ⟨p, q, rfl, rfl, hp, hq, hin⟩ := hrel
    have IN := hide hin.out
    clear hin
    by_cases hq0 : q = 0
    · subst hq0
      have hqq : ((0 : Int) != 0) = false := rfl
      have hG : (p.natAbs : Nat) = G := by have := IN.out.1; simpa using this
      have GG := hide hG
      clear hq hG
      go_wp2_with fail
      have hmx : max p (-p) = (G : Int) := by have := GG.out; omega
      rw [hmx]
      have hG1 : (G : Int) ≤ 9223372036854775807 := by have := GG.out; omega
      clear hmx hqq
      refine (itoa_any G (by omega) hG1 B _ (HT.out.on IN.out.2 hB)).mono ?_
      rintro e w3 ⟨rfl, hb3⟩
      have HB3 := hide (IN.out.2.trans (hb3.mono IN.out.2.size))
      clear hb3
      go_wp2_with fail
      refine bodyPost_ret (results_tmp2 rfl _ _ _) rfl ?_
      exact ⟨rfl, HB3.out⟩
    · have hqq : (q != 0) = true := by simpa using hq0
      have hyq : (q == 0) = false := by simpa using hq0
      have hr := natAbs_tmod_lt p hq0
      have hgc : Nat.gcd q.natAbs (p.tmod q).natAbs = G := by
        rw [Int.natAbs_tmod, ← IN.out.1, Nat.gcd_comm q.natAbs, ← Nat.gcd_rec, Nat.gcd_comm]
      have GG := hide hgc
      clear hq0 hgc
      go_wp2_with fail
      go_quiet (fail)
      clear hyq hqq
      go_wp2_with fail
      go_roundw
      case rel => exact ⟨q, p.tmod q, rfl, rfl, hq, by omega, GG.out, ⟨IN.out.2.os, IN.out.2.tape, IN.out.2.output, IN.out.2.size, IN.out.2.block⟩⟩
      case measure => simpa [intOf] using hr
set_option maxRecDepth 100000 in
set_option maxHeartbeats 4000000 in
theorem rGcd_long (s t : ByteArray) (w : World) (c1 : chkI s.data.toList = 0) (c2 : chkI t.data.toList = 0) (hl : ¬ (s.size ≤ 17 ∧ t.size ≤ 17)) :
    Calls Tryz.prog 175 #[.string s, .string t] w (Ret w (pairV (Lib.itoa ((Nat.gcd (valI s.data.toList).natAbs (valI t.data.toList).natAbs : Nat) : Int)) 0)) := by
  have l1' := (chk_digs c1).2
  have l2' := (chk_digs c2).2
  rw [bytes_len] at l1' l2'
  have H1 := hide (rboth_any s t (by omega) (by omega) w)
  have hb0 : bothI s.data.toList t.data.toList = 0 := by unfold bothI; rw [if_pos c1, c2]
  rw [hb0] at H1
  have H2 := hide (fun w => rtwo_no s t c1 hl w)
  have R1 := hide (fun w => rread_good s c1 w)
  have R2 := hide (fun w => rread_good t c2 w)
  obtain ⟨G, hG⟩ : ∃ G, G = Nat.gcd (valI s.data.toList).natAbs (valI t.data.toList).natAbs := ⟨_, rfl⟩
  rw [← hG]
  have HG := hide hG
  clear c1 c2 hl hb0 l1' l2' hG
  go_enter Tryz.func175, Tryz.ntmps175
  go_wp2_with fail
  refine H1.out.mono ?_
  rintro e w1 ⟨rfl, hb1⟩
  have HB1 := hide hb1
  clear hb1 H1
  go_wp2_with fail
  refine (H2.out _).mono ?_
  rintro e w2 ⟨x0, y0, rfl, hb2⟩
  have HB2 := hide (HB1.out.trans (hb2.mono HB1.out.size))
  clear hb2 H2 HB1
  go_wp2_with fail
  refine (R1.out _).mono ?_
  rintro e w3 ⟨m1, a1, l1, rfl, hb3, o1, n1, q1, k1⟩
  have HB3 := hide (HB2.out.trans (hb3.mono HB2.out.size))
  have O1 := hide o1; have N1 := hide n1; have Q1 := hide q1
  obtain ⟨av1, cv1, hvf, _, _⟩ := o1.form
  subst hvf
  clear hb3 HB2 R1 o1 n1 q1
  have hf1 := fun w => rfield_limbs m1 (.slice av1 l1.length cv1) w
  go_wp2_with fail
  clear hf1
  refine (R2.out _).mono ?_
  rintro e w4 ⟨m2, a2, l2, rfl, hb4, o2, n2, q2, k2⟩
  have HB4 := hide (HB3.out.trans (hb4.mono HB3.out.size))
  have O1' := hide (O1.out.keep hb4)
  have O2 := hide o2; have N2 := hide n2; have Q2 := hide q2
  obtain ⟨av2, cv2, hvf, _, _⟩ := o2.form
  subst hvf
  clear hb4 HB3 R2 o2 n2 q2 O1
  have hf2 := fun w => rfield_limbs m2 (.slice av2 l2.length cv2) w
  have HG2 := hide (show Nat.gcd (lv 1000000 l1) (lv 1000000 l2) = G by
    rw [HG.out, ← Q1.out, ← Q2.out, valS_abs, valS_abs])
  go_wp2_with fail
  clear hf2
  go_loopw [10, 11] (fun p q wr => ∃ (ap : Option Addr) (cp : Nat) (aq : Option Addr) (cq : Nat) (x y : List Nat), p = .slice ap x.length cp ∧ q = .slice aq y.length cq ∧ x.length ≤ 60 ∧ y.length ≤ 60 ∧ Hid (LimbAt wr.heap.size wr (.slice ap x.length cp) x ∧ LimbAt wr.heap.size wr (.slice aq y.length cq) y ∧ Norm 1000000 x ∧ Norm 1000000 y ∧ Nat.gcd (lv 1000000 x) (lv 1000000 y) = G ∧ Below w.heap.size w wr)) (fun _ q wr => lv 1000000 (limbsAt wr q))
  case atStart => exact ⟨av1, cv1, av2, cv2, l1, l2, rfl, rfl, k1, k2, LimbAt.of_own O1'.out, LimbAt.of_own O2.out, N1.out, N2.out, HG2.out, HB4.out⟩
  case round =>
    clear k1 k2
    obtain ⟨ap, cp, aq, cq, x, y, rfl, rfl, hx, hy, hin⟩ := hrel
    have I1 := hide hin.out.1; have I2 := hide hin.out.2.1; have N3 := hide hin.out.2.2.1; have N4 := hide hin.out.2.2.2.1; have GG := hide hin.out.2.2.2.2.1; have HBW := hide hin.out.2.2.2.2.2
    clear hin
    by_cases hy0 : y = []
    · subst hy0
      have hz : valS false (lv 1000000 x) = (G : Int) := by
        have := GG.out
        rw [lv_nil, Nat.gcd_zero_right] at this
        rw [this]
        rfl
      have HR := hide (rwrite_any false (.slice ap x.length cp) x wr.heap.size wr I1.out (Nat.le_refl _) N3.out (by omega))
      rw [hz] at HR
      clear hz
      go_wp2_with fail
      refine HR.out.mono ?_
      rintro e w5 ⟨rfl, hb5⟩
      have HB5 := hide (HBW.out.trans (hb5.mono HBW.out.size))
      clear hb5 HR
      go_wp2_with fail
      refine bodyPost_ret (results_tmp2 rfl _ _ _) rfl ?_
      exact ⟨rfl, HB5.out⟩
    · have hyl : 0 < (y.length : Int) := by
        have := List.length_pos_iff.2 hy0
        omega
      have HD := hide (rdivide_any (.slice ap x.length cp) (.slice aq y.length cq) x y wr.heap.size wr I1.out I2.out (Nat.le_refl _) N3.out.lt N4.out hy0 (by omega) (by omega))
      have hyp : 0 < lv 1000000 y := by
        rcases Nat.eq_zero_or_pos (lv 1000000 y) with h | h
        · exact absurd ((N4.out.zero (by omega)).1 h) hy0
        · exact h
      have HYP := hide hyp
      clear hy0 hyp
      go_wp2_with fail
      refine HD.out.mono ?_
      rintro e w5 ⟨vq, vr, q, r, rfl, hb5, oq, or_, nq, nr, eq, er, lq⟩
      obtain ⟨ar, cr, hvf, _, _⟩ := or_.form
      subst hvf
      have hrlt : lv 1000000 r < lv 1000000 y := by rw [er]; exact Nat.mod_lt _ HYP.out
      have hrl : r.length ≤ 60 := by
        have := norm_le_b (by omega) nr N4.out.lt (Nat.le_of_lt hrlt)
        omega
      have HB5 := hide (HBW.out.trans (hb5.mono HBW.out.size))
      have J2 := hide ((I2.out.below hb5 (Nat.le_refl _)).mono hb5.size)
      have HE := hide (show Nat.gcd (lv 1000000 y) (lv 1000000 r) = G by rw [er, ← GG.out, Nat.gcd_comm (lv 1000000 y), ← Nat.gcd_rec, Nat.gcd_comm])
      have OR := hide (LimbAt.of_own or_); have NR := hide nr; have HLT := hide hrlt
      clear hb5 oq or_ nq nr eq er lq HD hrlt
      go_wp2_with fail
      go_roundw
      case rel => exact ⟨aq, cq, ar, cr, y, r, rfl, rfl, hy, hrl, J2.out, OR.out, N4.out, NR.out, HE.out, HB5.out⟩
      case measure =>
        rw [limbsAt_eq OR.out, limbsAt_eq I2.out]
        exact HLT.out
end Go.Proofs.YtbfojhneajedmaaGreatDoor
namespace Go.KI
open Go
theorem cut2 (l : List UInt8) : digs (numT l) = ahead 47 (digs l) ∧ (47 ∈ l ↔ 47 ∈ digs l) ∧ denT l = behind 47 (digs l) ∧ ((numT l).head? = some 45 ↔ isNeg l = true) := by
  cases l with
  | nil => exact ⟨rfl, Iff.rfl, rfl, by decide⟩
  | cons c r =>
    by_cases h : c = 45
    · subst h
      have e1 : digs (45 :: r) = r := rfl
      have e2 : numT (45 :: r) = 45 :: numT r := rfl
      have e3 : denT (45 :: r) = denT r := rfl
      rw [e1, e2, e3]
      exact ⟨rfl, by simp, rfl, by simp [isNeg]⟩
    · have e1 : digs (c :: r) = c :: r := by simp [digs, h]
      rw [e1]
      by_cases h47 : c = 47
      · subst h47
        exact ⟨rfl, Iff.rfl, rfl, by simp [isNeg, numT]⟩
      · have e2 : numT (c :: r) = c :: numT r := by
          unfold numT
          rw [List.takeWhile_cons, if_pos (by simpa using h47)]
        refine ⟨?_, Iff.rfl, rfl, ?_⟩
        · rw [e2]
          show (if c = 45 then _ else _) = _
          rw [if_neg h, ← e2]
          rfl
        · rw [e2]
          simp [isNeg]
theorem valI_abs (l : List UInt8) : (valI l).natAbs = dv (digs l) := by
  unfold valI
  split <;> simp
/-- The check by what split returns. -/
theorem chkQ_cut (l nn dd : List UInt8) (h1 : nn = ahead 47 (digs l)) (h2 : dd = if 47 ∈ digs l then behind 47 (digs l) else []) :
    chkQ l = if ¬ numeral nn ∨ (47 ∈ digs l ∧ (¬ numeral dd ∨ dd = [48] ∨ dd = [49])) ∨ (isNeg l = true ∧ nn = [48]) then 11 else if 300 < nn.length ∨ 300 < dd.length then 4 else if 47 ∈ digs l ∧ Nat.gcd (dv nn) (dv dd) ≠ 1 then 11 else 0 := by
  obtain ⟨c1, c2, c3, c4⟩ := cut2 l
  have hcut : cutOK l ↔ ¬ (¬ numeral nn ∨ (47 ∈ digs l ∧ (¬ numeral dd ∨ dd = [48] ∨ dd = [49])) ∨ (isNeg l = true ∧ nn = [48])) := by
    unfold cutOK
    rw [chkI_11, c1, c2, c3, c4, ← h1]
    by_cases hs : 47 ∈ digs l
    · rw [if_pos hs] at h2
      rw [← h2]
      constructor
      · rintro a (b | b | b)
        · exact a (.inl (.inl b))
        · exact a (.inr b)
        · exact a (.inl (.inr b))
      · rintro a ((b | b) | b)
        · exact a (.inl b)
        · exact a (.inr (.inr b))
        · exact a (.inr (.inl b))
    · constructor
      · rintro a (b | b | b)
        · exact a (.inl (.inl b))
        · exact absurd b.1 hs
        · exact a (.inl (.inr b))
      · rintro a ((b | b) | b)
        · exact a (.inl b)
        · exact a (.inr (.inr b))
        · exact absurd b.1 hs
  by_cases hc : cutOK l
  · rw [if_neg (hcut.1 hc), chkQ_form hc, c1, ← h1, valI_abs, c1, ← h1]
    unfold denS
    by_cases hs : 47 ∈ digs l
    · have hs2 := c2.2 hs
      rw [if_pos hs] at h2
      simp only [hs, hs2, if_true, true_and, c3, ← h2]
    · have hs2 : ¬ 47 ∈ l := fun e => hs (c2.1 e)
      rw [if_neg hs] at h2
      simp [hs, hs2, h2]
  · rw [if_pos (Decidable.not_not.1 fun e => hc (hcut.2 e))]
    unfold chkQ
    rw [if_pos (Decidable.not_not.1 hc)]
theorem numeral_ok {l : List UInt8} (h : numeral l) (hl : l.length ≤ 300) : chkI l = 0 ∧ valI l = ((dv l : Nat) : Int) := by
  have e := numeral_dec h
  obtain ⟨u, hu⟩ : ∃ u, u = dv l := ⟨_, rfl⟩
  rw [← hu] at e ⊢
  rw [e] at hl ⊢
  rw [← Lib.itoa_nonneg]
  exact ⟨chk_fits (fits_nat.2 hl), val_itoa _⟩
end Go.KI
namespace Go.Proofs.YtbfojhneajedmaaGreatDoor
open Go.RowKit Go.KP Go.KI Go.Shelf
attribute [local go_sem] Oper.semAt_some

theorem rGcd_num (s t : ByteArray) (h1 : numeral s.data.toList) (h2 : numeral t.data.toList) (l1 : s.size ≤ 300) (l2 : t.size ≤ 300) (B : Nat) (w : World) (hB : B ≤ w.heap.size) (hT : P10 B w) :
    Calls Tryz.prog 175 #[.string s, .string t] w (Ret w (.tuple #[.string (strB (Lib.decDigits (Nat.gcd (dv s.data.toList) (dv t.data.toList)))), .int .i64 0])) := by
  obtain ⟨c1, v1⟩ := numeral_ok h1 (by rw [bytes_len]; exact l1)
  obtain ⟨c2, v2⟩ := numeral_ok h2 (by rw [bytes_len]; exact l2)
  have e : pairV (Lib.itoa ((Nat.gcd (valI s.data.toList).natAbs (valI t.data.toList).natAbs : Nat) : Int)) 0 = .tuple #[.string (strB (Lib.decDigits (Nat.gcd (dv s.data.toList) (dv t.data.toList)))), .int .i64 0] := by
    rw [v1, v2, Int.natAbs_natCast, Int.natAbs_natCast, Lib.itoa_nonneg]
  rw [← e]
  by_cases hl : s.size ≤ 17 ∧ t.size ≤ 17
  · exact rGcd_small s t B w c1 c2 hl.1 hl.2 hB hT
  · exact rGcd_long s t w c1 c2 hl
theorem list_test {s : ByteArray} {l m : List UInt8} (h : s.data.toList = l) : (s.toList == m) = decide (l = m) := by
  by_cases e : l = m
  · rw [(lit_eq h).1 e, decide_eq_true e]
  · rw [(lit_eq h).2 e, decide_eq_false e]
set_option maxRecDepth 100000 in
set_option maxHeartbeats 8000000 in
theorem r2Check_any (s : ByteArray) (hs : s.size ≤ 1000000) (B : Nat) (w : World) (hB : B ≤ w.heap.size) (hT : PQ B w) :
    Calls Tryz.prog 109 #[.string s] w (Ret w (.int .i64 (chkQ s.data.toList))) := by
  have HT := hide hT
  clear hT
  obtain ⟨V, hV⟩ : ∃ V, V = chkQ s.data.toList := ⟨_, rfl⟩
  rw [← hV]
  have HS := hide (fun w => r2split_any s hs w)
  obtain ⟨nn, hnn⟩ : ∃ x, x = KI.ahead 47 (digs s.data.toList) := ⟨_, rfl⟩
  obtain ⟨dd, hdd⟩ : ∃ x, x = (if 47 ∈ digs s.data.toList then KI.behind 47 (digs s.data.toList) else []) := ⟨_, rfl⟩
  rw [chkQ_cut _ nn dd hnn hdd] at hV
  have hld : (digs s.data.toList).length ≤ s.size := by
    rw [digs_drop, List.length_drop, bytes_len]
    omega
  have hln : nn.length ≤ 1000000 := by
    have : nn.length ≤ (digs s.data.toList).length := by
      rw [hnn]
      exact List.Sublist.length_le (List.takeWhile_sublist _)
    omega
  have hlm : dd.length ≤ 1000000 := by
    have : dd.length ≤ (digs s.data.toList).length := by
      rw [hdd]
      split
      · exact List.Sublist.length_le ((List.drop_sublist _ _).trans (List.dropWhile_sublist _))
      · exact Nat.zero_le _
    omega
  have hd0 : decide (47 ∈ digs s.data.toList) = false → dd = [] := by
    intro h
    rw [hdd, if_neg (by simpa using h)]
  obtain ⟨neg, hneg⟩ : ∃ x, x = isNeg s.data.toList := ⟨_, rfl⟩
  obtain ⟨sl, hsl⟩ : ∃ x, x = decide (47 ∈ digs s.data.toList) := ⟨_, rfl⟩
  unfold splitR at HS
  rw [← hnn, ← hdd, ← hneg, ← hsl] at HS
  rw [← hsl] at hd0
  have hsl2 : 47 ∈ digs s.data.toList ↔ sl = true := by rw [hsl, decide_eq_true_iff]
  simp only [hsl2, ← hneg] at hV
  clear hsl hsl2 hneg hdd hnn hld hs
  obtain ⟨NN, hNN⟩ : ∃ x, x = strB nn := ⟨_, rfl⟩
  obtain ⟨DD, hDD⟩ : ∃ x, x = strB dd := ⟨_, rfl⟩
  have e1 : NN.data.toList = nn := by rw [hNN, strB_list]
  have e2 : DD.data.toList = dd := by rw [hDD, strB_list]
  rw [← hNN, ← hDD] at HS
  have hNs : NN.size = nn.length := by rw [← e1, bytes_len]
  have hDs : DD.size = dd.length := by rw [← e2, bytes_len]
  clear hNN hDD
  rw [← e1] at hV
  rw [← e2] at hV hd0
  rw [bytes_len, bytes_len] at hV
  have hDz : sl = false → DD.size = 0 := by
    intro h
    have := hd0 h
    rw [← bytes_len, this]
    rfl
  have HD1 := hide (fun b hb w => r2digits_any NN (by omega) b hb w)
  have HD2 := hide (fun b hb w => r2digits_any DD (by omega) b hb w)
  have tn := list_test (s := NN) (m := [48]) rfl
  have td := list_test (s := DD) (m := [48]) rfl
  have tu := list_test (s := DD) (m := [49]) rfl
  clear hNs hDs hln hlm e1 e2 hd0
  by_cases n1 : numeral NN.data.toList
  rotate_left
  · rw [if_pos (.inl n1)] at hV
    subst hV
    have HE1 := hide (HD1.out false (by simpa using n1))
    clear n1 hDz tn td tu HD1 HD2
    go_enter Tryz.func109, Tryz.ntmps109
    go_wp2_with fail
    refine (HS.out _).mono ?_
    rintro e w1 ⟨rfl, hb1⟩
    have HB1 := hide hb1
    clear hb1
    go_wp2_with fail
    refine (HE1.out _).mono ?_
    rintro e w2 ⟨rfl, hb2⟩
    have HB2 := hide (HB1.out.trans (hb2.mono HB1.out.size))
    clear hb2
    go_wp2_with fail
    go_ret
    exact ⟨rfl, HB2.out⟩
  have HE1 := hide (HD1.out true (by simpa using n1))
  clear HD1
  cases sl
  · have hz := hDz rfl
    have z1 : (300 < DD.size) = False := eq_false (by omega)
    have z1i : ((300 : Int) < (DD.size : Int)) = False := eq_false (by omega)
    by_cases hz : neg = true ∧ NN.data.toList = [48]
    · rw [if_pos (.inr (.inr hz))] at hV
      subst hV
      obtain ⟨rfl, h48⟩ := hz
      rw [decide_eq_true h48] at tn
      clear n1 hDz td tu HD2 h48 hz
      go_enter Tryz.func109, Tryz.ntmps109
      go_wp2_with fail
      refine (HS.out _).mono ?_
      rintro e w1 ⟨rfl, hb1⟩
      have HB1 := hide hb1
      clear hb1
      go_wp2_with fail
      refine (HE1.out _).mono ?_
      rintro e w2 ⟨rfl, hb2⟩
      have HB2 := hide (HB1.out.trans (hb2.mono HB1.out.size))
      clear hb2
      go_wp2_with fail
      go_ret
      exact ⟨rfl, HB2.out⟩
    rw [if_neg (by rintro (a | a | a); · exact a n1
                   · exact Bool.noConfusion a.1
                   · exact hz a)] at hV
    have hneg : neg = false ∨ (neg = true ∧ (NN.toList == [48]) = false) := by
      cases neg
      · exact .inl rfl
      · refine .inr ⟨rfl, ?_⟩
        rw [tn, decide_eq_false_iff_not]
        exact fun e => hz ⟨rfl, e⟩
    clear tn
    by_cases g1 : 300 < NN.size
    · rw [if_pos (.inl g1)] at hV
      subst hV
      have g1i : (300 : Int) < (NN.size : Int) := by omega
      clear n1 hDz td tu HD2 hz z1 z1i
      rcases hneg with rfl | ⟨rfl, tn⟩
      all_goals
        go_enter Tryz.func109, Tryz.ntmps109
        go_wp2_with fail
        refine (HS.out _).mono ?_
        rintro e w1 ⟨rfl, hb1⟩
        have HB1 := hide hb1
        clear hb1
        go_wp2_with fail
        refine (HE1.out _).mono ?_
        rintro e w2 ⟨rfl, hb2⟩
        have HB2 := hide (HB1.out.trans (hb2.mono HB1.out.size))
        clear hb2
        go_wp2_with fail
        go_ret
        exact ⟨rfl, HB2.out⟩
    · rw [if_neg (by omega), if_neg (by rintro ⟨a, _⟩; cases a)] at hV
      subst hV
      have g1i : ((300 : Int) < (NN.size : Int)) = False := eq_false (by omega)
      have g1n : (300 < NN.size) = False := eq_false g1
      clear n1 hDz td tu HD2 hz g1
      rcases hneg with rfl | ⟨rfl, tn⟩
      all_goals
        go_enter Tryz.func109, Tryz.ntmps109
        go_wp2_with fail
        refine (HS.out _).mono ?_
        rintro e w1 ⟨rfl, hb1⟩
        have HB1 := hide hb1
        clear hb1
        go_wp2_with fail
        refine (HE1.out _).mono ?_
        rintro e w2 ⟨rfl, hb2⟩
        have HB2 := hide (HB1.out.trans (hb2.mono HB1.out.size))
        clear hb2
        go_wp2_with fail
        go_ret
        exact ⟨rfl, HB2.out⟩
  clear hDz
  by_cases n2 : numeral DD.data.toList
  rotate_left
  · rw [if_pos (.inr (.inl ⟨rfl, .inl n2⟩))] at hV
    subst hV
    have HE2 := hide (HD2.out false (by simpa using n2))
    clear n1 n2 tn td tu HD2
    go_enter Tryz.func109, Tryz.ntmps109
    go_wp2_with fail
    refine (HS.out _).mono ?_
    rintro e w1 ⟨rfl, hb1⟩
    have HB1 := hide hb1
    clear hb1
    go_wp2_with fail
    refine (HE1.out _).mono ?_
    rintro e w2 ⟨rfl, hb2⟩
    have HB2 := hide (HB1.out.trans (hb2.mono HB1.out.size))
    clear hb2
    go_wp2_with fail
    refine (HE2.out _).mono ?_
    rintro e w3 ⟨rfl, hb3⟩
    have HB3 := hide (HB2.out.trans (hb3.mono HB2.out.size))
    clear hb3
    go_wp2_with fail
    go_ret
    exact ⟨rfl, HB3.out⟩
  have HE2 := hide (HD2.out true (by simpa using n2))
  clear HD2
  by_cases d0 : DD.data.toList = [48]
  · rw [if_pos (.inr (.inl ⟨rfl, .inr (.inl d0)⟩))] at hV
    subst hV
    rw [decide_eq_true d0] at td
    clear n1 n2 tn tu d0
    go_enter Tryz.func109, Tryz.ntmps109
    go_wp2_with fail
    refine (HS.out _).mono ?_
    rintro e w1 ⟨rfl, hb1⟩
    have HB1 := hide hb1
    clear hb1
    go_wp2_with fail
    refine (HE1.out _).mono ?_
    rintro e w2 ⟨rfl, hb2⟩
    have HB2 := hide (HB1.out.trans (hb2.mono HB1.out.size))
    clear hb2
    go_wp2_with fail
    refine (HE2.out _).mono ?_
    rintro e w3 ⟨rfl, hb3⟩
    have HB3 := hide (HB2.out.trans (hb3.mono HB2.out.size))
    clear hb3
    go_wp2_with fail
    go_ret
    exact ⟨rfl, HB3.out⟩
  rw [decide_eq_false d0] at td
  by_cases d1 : DD.data.toList = [49]
  · rw [if_pos (.inr (.inl ⟨rfl, .inr (.inr d1)⟩))] at hV
    subst hV
    rw [decide_eq_true d1] at tu
    clear n1 n2 tn d0 d1
    go_enter Tryz.func109, Tryz.ntmps109
    go_wp2_with fail
    refine (HS.out _).mono ?_
    rintro e w1 ⟨rfl, hb1⟩
    have HB1 := hide hb1
    clear hb1
    go_wp2_with fail
    refine (HE1.out _).mono ?_
    rintro e w2 ⟨rfl, hb2⟩
    have HB2 := hide (HB1.out.trans (hb2.mono HB1.out.size))
    clear hb2
    go_wp2_with fail
    refine (HE2.out _).mono ?_
    rintro e w3 ⟨rfl, hb3⟩
    have HB3 := hide (HB2.out.trans (hb3.mono HB2.out.size))
    clear hb3
    go_wp2_with fail
    go_ret
    exact ⟨rfl, HB3.out⟩
  rw [decide_eq_false d1] at tu
  by_cases hz : neg = true ∧ NN.data.toList = [48]
  · rw [if_pos (.inr (.inr hz))] at hV
    subst hV
    obtain ⟨rfl, h48⟩ := hz
    rw [decide_eq_true h48] at tn
    clear n1 n2 h48 d0 d1
    go_enter Tryz.func109, Tryz.ntmps109
    go_wp2_with fail
    refine (HS.out _).mono ?_
    rintro e w1 ⟨rfl, hb1⟩
    have HB1 := hide hb1
    clear hb1
    go_wp2_with fail
    refine (HE1.out _).mono ?_
    rintro e w2 ⟨rfl, hb2⟩
    have HB2 := hide (HB1.out.trans (hb2.mono HB1.out.size))
    clear hb2
    go_wp2_with fail
    refine (HE2.out _).mono ?_
    rintro e w3 ⟨rfl, hb3⟩
    have HB3 := hide (HB2.out.trans (hb3.mono HB2.out.size))
    clear hb3
    go_wp2_with fail
    go_ret
    exact ⟨rfl, HB3.out⟩
  rw [if_neg (by rintro (a | a | a); · exact a n1
                 · rcases a.2 with b | b | b
                   · exact b n2
                   · exact d0 b
                   · exact d1 b
                 · exact hz a)] at hV
  have hneg : neg = false ∨ (neg = true ∧ (NN.toList == [48]) = false) := by
    cases neg
    · exact .inl rfl
    · refine .inr ⟨rfl, ?_⟩
      rw [tn, decide_eq_false_iff_not]
      exact fun e => hz ⟨rfl, e⟩
  clear tn hz d0 d1
  by_cases g1 : 300 < NN.size
  · rw [if_pos (.inl g1)] at hV
    subst hV
    have g1i : (300 : Int) < (NN.size : Int) := by omega
    clear n1 n2
    rcases hneg with rfl | ⟨rfl, tn⟩
    all_goals
      go_enter Tryz.func109, Tryz.ntmps109
      go_wp2_with fail
      refine (HS.out _).mono ?_
      rintro e w1 ⟨rfl, hb1⟩
      have HB1 := hide hb1
      clear hb1
      go_wp2_with fail
      refine (HE1.out _).mono ?_
      rintro e w2 ⟨rfl, hb2⟩
      have HB2 := hide (HB1.out.trans (hb2.mono HB1.out.size))
      clear hb2
      go_wp2_with fail
      refine (HE2.out _).mono ?_
      rintro e w3 ⟨rfl, hb3⟩
      have HB3 := hide (HB2.out.trans (hb3.mono HB2.out.size))
      clear hb3
      go_wp2_with fail
      go_ret
      exact ⟨rfl, HB3.out⟩
  have g1i : ((300 : Int) < (NN.size : Int)) = False := eq_false (by omega)
  have g1n : (300 < NN.size) = False := eq_false g1
  by_cases g2 : 300 < DD.size
  · rw [if_pos (.inr g2)] at hV
    subst hV
    have g2i : (300 : Int) < (DD.size : Int) := by omega
    clear n1 n2 g1
    rcases hneg with rfl | ⟨rfl, tn⟩
    all_goals
      go_enter Tryz.func109, Tryz.ntmps109
      go_wp2_with fail
      refine (HS.out _).mono ?_
      rintro e w1 ⟨rfl, hb1⟩
      have HB1 := hide hb1
      clear hb1
      go_wp2_with fail
      refine (HE1.out _).mono ?_
      rintro e w2 ⟨rfl, hb2⟩
      have HB2 := hide (HB1.out.trans (hb2.mono HB1.out.size))
      clear hb2
      go_wp2_with fail
      refine (HE2.out _).mono ?_
      rintro e w3 ⟨rfl, hb3⟩
      have HB3 := hide (HB2.out.trans (hb3.mono HB2.out.size))
      clear hb3
      go_wp2_with fail
      go_ret
      exact ⟨rfl, HB3.out⟩
  have g2i : ((300 : Int) < (DD.size : Int)) = False := eq_false (by omega)
  have g2n : (300 < DD.size) = False := eq_false g2
  rw [if_neg (by omega)] at hV
  by_cases k9 : NN.size ≤ 9 ∧ DD.size ≤ 9
  · obtain ⟨k1, k2⟩ := k9
    have k1i : (NN.size : Int) ≤ 9 := by omega
    have k2i : (DD.size : Int) ≤ 9 := by omega
    have a1 : ∀ c ∈ NN.data.toList, isDg c = true := List.all_eq_true.1 n1.2.1
    have a2 : ∀ c ∈ DD.data.toList, isDg c = true := List.all_eq_true.1 n2.2.1
    have HM1 := hide (fun w => r2small_any NN a1 (by omega) w)
    have HM2 := hide (fun w => r2small_any DD a2 (by omega) w)
    have l1 : dv NN.data.toList < 10 ^ 9 := Nat.lt_of_lt_of_le (dv_lt _ a1) (Nat.pow_le_pow_right (by omega) (by rw [bytes_len]; omega))
    have l2 : dv DD.data.toList < 10 ^ 9 := Nat.lt_of_lt_of_le (dv_lt _ a2) (Nat.pow_le_pow_right (by omega) (by rw [bytes_len]; omega))
    have HG := hide (fun w => r2gcd_any (dv NN.data.toList) (dv DD.data.toList) (by omega) (by omega) w)
    obtain ⟨x, hx⟩ : ∃ x, x = dv NN.data.toList := ⟨_, rfl⟩
    obtain ⟨y, hy⟩ : ∃ x, x = dv DD.data.toList := ⟨_, rfl⟩
    obtain ⟨g, hg⟩ : ∃ g, g = Nat.gcd x y := ⟨_, rfl⟩
    rw [← hx] at HM1 HG hV
    rw [← hy] at HM2 HG hV
    rw [← hg] at HG
    simp only [← hg] at hV
    have hw : (g = 1 ∧ V = 0) ∨ (((g : Int) == 1) = false ∧ V = 11) := by
      by_cases h : g = 1
      · exact .inl ⟨h, by rw [hV, if_neg]; exact fun e => e.2 h⟩
      · refine .inr ⟨?_, by rw [hV, if_pos ⟨trivial, h⟩]⟩
        simp only [beq_eq_false_iff_ne, ne_eq]
        omega
    clear hV hg hx hy l1 l2 a1 a2 n1 n2 g1 g2 k1 k2
    rcases hw with ⟨rfl, rfl⟩ | ⟨hg1, rfl⟩ <;> rcases hneg with rfl | ⟨rfl, tn⟩
    all_goals
      go_enter Tryz.func109, Tryz.ntmps109
      go_wp2_with fail
      refine (HS.out _).mono ?_
      rintro e w1 ⟨rfl, hb1⟩
      have HB1 := hide hb1
      clear hb1
      go_wp2_with fail
      refine (HE1.out _).mono ?_
      rintro e w2 ⟨rfl, hb2⟩
      have HB2 := hide (HB1.out.trans (hb2.mono HB1.out.size))
      clear hb2
      go_wp2_with fail
      refine (HE2.out _).mono ?_
      rintro e w3 ⟨rfl, hb3⟩
      have HB3 := hide (HB2.out.trans (hb3.mono HB2.out.size))
      clear hb3
      go_wp2_with fail
      refine (HM1.out _).mono ?_
      rintro e w4 ⟨rfl, hb4⟩
      have HB4 := hide (HB3.out.trans (hb4.mono HB3.out.size))
      clear hb4
      go_wp2_with fail
      refine (HM2.out _).mono ?_
      rintro e w5 ⟨rfl, hb5⟩
      have HB5 := hide (HB4.out.trans (hb5.mono HB4.out.size))
      clear hb5
      go_wp2_with fail
      refine (HG.out _).mono ?_
      rintro e w6 ⟨rfl, hb6⟩
      have HB6 := hide (HB5.out.trans (hb6.mono HB5.out.size))
      clear hb6
      go_wp2_with fail
      go_ret
      exact ⟨rfl, HB6.out⟩
  · have HG := hide (fun w hB hT => rGcd_num NN DD n1 n2 (by omega) (by omega) B w hB hT)
    obtain ⟨x, hx⟩ : ∃ x, x = dv NN.data.toList := ⟨_, rfl⟩
    obtain ⟨y, hy⟩ : ∃ x, x = dv DD.data.toList := ⟨_, rfl⟩
    obtain ⟨g, hg⟩ : ∃ g, g = Nat.gcd x y := ⟨_, rfl⟩
    rw [← hx, ← hy] at HG hV
    rw [← hg] at HG
    simp only [← hg] at hV
    have hko : ((NN.size : Int) ≤ 9) = False ∨ ((NN.size : Int) ≤ 9 ∧ ((DD.size : Int) ≤ 9) = False) := by
      by_cases a : NN.size ≤ 9
      · exact .inr ⟨by omega, eq_false (by omega)⟩
      · exact .inl (eq_false (by omega))
    obtain ⟨G, hG⟩ : ∃ G, G = strB (Lib.decDigits g) := ⟨_, rfl⟩
    have hGl : G.data.toList = Lib.decDigits g := by rw [hG, strB_list]
    have hw : ((G.toList == [49]) = true ∧ V = 0) ∨ ((G.toList == [49]) = false ∧ V = 11) := by
      rw [list_test hGl]
      by_cases h : g = 1
      · exact .inl ⟨by rw [h, one_dec]; rfl, by rw [hV, if_neg]; exact fun e => e.2 h⟩
      · refine .inr ⟨?_, by rw [hV, if_pos ⟨trivial, h⟩]⟩
        rw [decide_eq_false_iff_not]
        intro e
        rw [← one_dec] at e
        exact h (dec_inj e)
    rw [← hG] at HG
    clear hV hg hx hy hG hGl n1 n2 g1 g2 k9
    rcases hko with k1i | ⟨k1i, k2i⟩ <;> rcases hw with ⟨hg1, rfl⟩ | ⟨hg1, rfl⟩ <;> rcases hneg with rfl | ⟨rfl, tn⟩
    all_goals
      go_enter Tryz.func109, Tryz.ntmps109
      go_wp2_with fail
      refine (HS.out _).mono ?_
      rintro e w1 ⟨rfl, hb1⟩
      have HB1 := hide hb1
      clear hb1
      go_wp2_with fail
      refine (HE1.out _).mono ?_
      rintro e w2 ⟨rfl, hb2⟩
      have HB2 := hide (HB1.out.trans (hb2.mono HB1.out.size))
      clear hb2
      go_wp2_with fail
      refine (HE2.out _).mono ?_
      rintro e w3 ⟨rfl, hb3⟩
      have HB3 := hide (HB2.out.trans (hb3.mono HB2.out.size))
      clear hb3
      go_wp2_with fail
      refine (HG.out _ (Nat.le_trans hB HB3.out.size) (HT.out.p10.on HB3.out hB)).mono ?_
      rintro e w4 ⟨rfl, hb4⟩
      have HB4 := hide (HB3.out.trans (hb4.mono HB3.out.size))
      clear hb4
      go_wp2_with fail
      go_ret
      exact ⟨rfl, HB4.out⟩
end Go.Proofs.YtbfojhneajedmaaGreatDoor
namespace Go.Proofs.YtbfojhneajedmaaGreatDoor
open Go.RowKit Go.KP Go.KI Go.Shelf
attribute [local go_sem] Oper.semAt_some

set_option maxRecDepth 100000 in
set_option maxHeartbeats 4000000 in
theorem r9Check_any (a b c : ByteArray) (ha : a.size ≤ 1000000) (hb : b.size ≤ 1000000) (hc : c.size ≤ 1000000) (B : Nat) (w : World) (hB : B ≤ w.heap.size) (hT : PQ B w) :
    Calls Tryz.prog 70 #[spotV a b c] w (Ret w (.int .i64 (chk3 a.data.toList b.data.toList c.data.toList))) := by
  have HT := hide hT
  have H1 := hide (fun w hB hT => r2Check_any a ha B w hB hT)
  have H2 := hide (fun w hB hT => r2Check_any b hb B w hB hT)
  have H3 := hide (fun w hB hT => r2Check_any c hc B w hB hT)
  obtain ⟨V, hV⟩ : ∃ V, V = chk3 a.data.toList b.data.toList c.data.toList := ⟨_, rfl⟩
  rw [← hV]
  unfold chk3 at hV
  obtain ⟨x, hx⟩ : ∃ x, x = chkQ a.data.toList := ⟨_, rfl⟩
  obtain ⟨y, hy⟩ : ∃ x, x = chkQ b.data.toList := ⟨_, rfl⟩
  obtain ⟨z, hz⟩ : ∃ x, x = chkQ c.data.toList := ⟨_, rfl⟩
  rw [← hx] at H1 hV
  rw [← hy] at H2 hV
  rw [← hz] at H3 hV
  clear hx hy hz ha hb hc hT
  have X0 := hide (heap1 w (spotO a b c))
  have hcs : ((x != 0) = true ∧ V = x) ∨ (x = 0 ∧ (y != 0) = true ∧ V = y) ∨ (x = 0 ∧ y = 0 ∧ V = z) := by
    by_cases h : x = 0
    · rw [if_neg (by simpa using h)] at hV
      by_cases h2 : y = 0
      · rw [if_neg (by simpa using h2)] at hV
        exact .inr (.inr ⟨h, h2, hV⟩)
      · rw [if_pos h2] at hV
        exact .inr (.inl ⟨h, by simpa using h2, hV⟩)
    · rw [if_pos h] at hV
      exact .inl ⟨by simpa using h, hV⟩
  clear hV
  rcases hcs with ⟨hx, rfl⟩ | ⟨rfl, hy, rfl⟩ | ⟨rfl, rfl, rfl⟩
  all_goals
    go_enter Tryz.func70, Tryz.ntmps70
    go_wp2_with fail
    refine (H1.out _ (Nat.le_trans hB X0.out.2.2.size) (HT.out.on X0.out.2.2 hB)).mono ?_
    rintro e w1 ⟨rfl, hb1⟩
    have A1 := hide (below_blk hb1 X0.out.1 (lt_blk X0.out.1))
    have HB1 := hide (X0.out.2.2.trans (hb1.mono X0.out.2.2.size))
    have a1 := cell_blk A1.out 1
    have al := lt_blk A1.out
    clear hb1
    go_wp2_with fail
    first
    | (go_ret; exact ⟨rfl, HB1.out⟩)
    | skip
  · refine (H2.out _ (Nat.le_trans hB HB1.out.size) (HT.out.on HB1.out hB)).mono ?_
    rintro e w2 ⟨rfl, hb2⟩
    have HB2 := hide (HB1.out.trans (hb2.mono HB1.out.size))
    clear hb2
    go_wp2_with fail
    go_ret
    exact ⟨rfl, HB2.out⟩
  · refine (H2.out _ (Nat.le_trans hB HB1.out.size) (HT.out.on HB1.out hB)).mono ?_
    rintro e w2 ⟨rfl, hb2⟩
    have A2 := hide (below_blk hb2 A1.out (lt_blk A1.out))
    have HB2 := hide (HB1.out.trans (hb2.mono HB1.out.size))
    clear hb2 a1 al
    have a2 := cell_blk A2.out 2
    have al := lt_blk A2.out
    go_wp2_with fail
    refine (H3.out _ (Nat.le_trans hB HB2.out.size) (HT.out.on HB2.out hB)).mono ?_
    rintro e w3 ⟨rfl, hb3⟩
    have HB3 := hide (HB2.out.trans (hb3.mono HB2.out.size))
    clear hb3
    go_wp2_with fail
    go_ret
    exact ⟨rfl, HB3.out⟩
/-- Three texts. -/
structure S3 where
  x : ByteArray
  y : ByteArray
  z : ByteArray
theorem txt_rat {s : ByteArray} {p : Nat} (h : chkQ s.data.toList = 0) (hs : s.size ≤ p) (hp : 1 ≤ p) : sz p (valQ s.data.toList) ∧ s = T (valQ s.data.toList) := by
  refine ⟨chkQ_sz h (by rw [bytes_len]; exact hs) hp, T_of (chkQ_ok h).1⟩
theorem vec_of {V : S3} {p : Nat} (hp : 1 ≤ p) (h1 : V.x.size ≤ p) (h2 : V.y.size ≤ p) (h3 : V.z.size ≤ p) (h : chk3 V.x.data.toList V.y.data.toList V.z.data.toList = 0) : ∃ A : V3, szV p A ∧ V = ⟨T A.x, T A.y, T A.z⟩ := by
  obtain ⟨c1, c2, c3⟩ := chk3_zero.1 h
  obtain ⟨s1, e1⟩ := txt_rat c1 h1 hp
  obtain ⟨s2, e2⟩ := txt_rat c2 h2 hp
  obtain ⟨s3, e3⟩ := txt_rat c3 h3 hp
  refine ⟨⟨_, _, _⟩, ⟨s1, s2, s3⟩, ?_⟩
  cases V
  simp only [S3.mk.injEq]
  exact ⟨e1, e2, e3⟩
/-- A result that may be missing, as one pair. -/
def optT : Option Rat → ByteArray
  | some x => T x
  | none => ⟨#[]⟩
def optE : Option Rat → Int
  | some _ => 0
  | none => 4
end Go.Proofs.YtbfojhneajedmaaGreatDoor
namespace Go.Proofs.YtbfojhneajedmaaGreatDoor
open Go.RowKit Go.KP Go.KI Go.Shelf
attribute [local go_sem] Oper.semAt_some

abbrev s3V (a : S3) : Value := spotV a.x a.y a.z
abbrev s3O (a : S3) : Obj := spotO a.x a.y a.z
abbrev memTV (k f o : Int) (a b : S3) (wd dp : Int) : Value := .agg #[.int .i64 k, .int .i64 f, .int .i64 o, .string a.x, .string a.y, .string a.z, .string b.x, .string b.y, .string b.z, .int .i64 wd, .int .i64 dp]
abbrev memTO (k f o : Int) (a b : S3) (wd dp : Int) : Obj := .cells #[.int .i64 k, .int .i64 f, .int .i64 o, .string a.x, .string a.y, .string a.z, .string b.x, .string b.y, .string b.z, .int .i64 wd, .int .i64 dp] 26
/-- The check of a vector of texts. -/
def chkS (a : S3) : Int := chk3 a.x.data.toList a.y.data.toList a.z.data.toList
/-- All three texts are short. -/
def tiny3 (a : S3) : Prop := a.x.size ≤ 30 ∧ a.y.size ≤ 30 ∧ a.z.size ≤ 30
/-- Why a member of short texts is none. -/
def memE (k f o : Int) (a b : S3) (wd dp : Int) : Int :=
  if ¬ (1 ≤ k ∧ k ≤ 12) then 8 else if f < 0 ∨ o < -1 then 19 else if ¬ ((1 ≤ wd ∧ wd ≤ 1000) ∧ (1 ≤ dp ∧ dp ≤ 1000)) then 2
  else if chkS a ≠ 0 then chkS a else if chkS b ≠ 0 then chkS b else if a.x = b.x ∧ a.y = b.y ∧ a.z = b.z then 12 else 0
theorem tiny_vec {a : S3} (h : tiny3 a) (hc : chkS a = 0) : ∃ A : V3, szV 30 A ∧ a = ⟨T A.x, T A.y, T A.z⟩ := vec_of (by omega) h.1 h.2.1 h.2.2 hc
/-- The ways of a check. -/
theorem mem_ways (k f o : Int) (a b : S3) (wd dp : Int) (ha : tiny3 a) (hb : tiny3 b) :
    ((k < 1 ∨ (¬ k < 1 ∧ 12 < k)) ∧ memE k f o a b wd dp = 8) ∨
    (¬ k < 1 ∧ ¬ 12 < k ∧ (f < 0 ∨ (¬ f < 0 ∧ o < -1)) ∧ memE k f o a b wd dp = 19) ∨
    (¬ k < 1 ∧ ¬ 12 < k ∧ ¬ f < 0 ∧ ¬ o < -1 ∧ ((wd < 1 ∨ 1000 < wd) ∨ (1 ≤ wd ∧ wd ≤ 1000 ∧ (dp < 1 ∨ 1000 < dp))) ∧ memE k f o a b wd dp = 2) ∨
    (¬ k < 1 ∧ ¬ 12 < k ∧ ¬ f < 0 ∧ ¬ o < -1 ∧ 1 ≤ wd ∧ wd ≤ 1000 ∧ 1 ≤ dp ∧ dp ≤ 1000 ∧
      ((chkS a ≠ 0 ∧ memE k f o a b wd dp = chkS a) ∨ (chkS a = 0 ∧ chkS b ≠ 0 ∧ memE k f o a b wd dp = chkS b) ∨
        (chkS a = 0 ∧ chkS b = 0 ∧ ∃ A B : V3, szV 30 A ∧ szV 30 B ∧ a = ⟨T A.x, T A.y, T A.z⟩ ∧ b = ⟨T B.x, T B.y, T B.z⟩ ∧ memE k f o a b wd dp = if A = B then 12 else 0))) := by
  by_cases h1 : 1 ≤ k ∧ k ≤ 12
  rotate_left
  · exact .inl ⟨by omega, by unfold memE; rw [if_pos h1]⟩
  by_cases h2 : f < 0 ∨ o < -1
  · exact .inr (.inl ⟨by omega, by omega, by omega, by unfold memE; rw [if_neg (by omega), if_pos h2]⟩)
  by_cases h3 : (1 ≤ wd ∧ wd ≤ 1000) ∧ (1 ≤ dp ∧ dp ≤ 1000)
  rotate_left
  · exact .inr (.inr (.inl ⟨by omega, by omega, by omega, by omega, by omega, by unfold memE; rw [if_neg (by omega), if_neg h2, if_pos h3]⟩))
  refine .inr (.inr (.inr ⟨by omega, by omega, by omega, by omega, by omega, by omega, by omega, by omega, ?_⟩))
  have e : memE k f o a b wd dp = if chkS a ≠ 0 then chkS a else if chkS b ≠ 0 then chkS b else if a.x = b.x ∧ a.y = b.y ∧ a.z = b.z then 12 else 0 := by
    unfold memE
    rw [if_neg (by omega), if_neg h2, if_neg (by omega)]
  by_cases c1 : chkS a = 0
  rotate_left
  · exact .inl ⟨c1, by rw [e, if_pos c1]⟩
  by_cases c2 : chkS b = 0
  rotate_left
  · exact .inr (.inl ⟨c1, c2, by rw [e, if_neg (by simpa using c1), if_pos c2]⟩)
  refine .inr (.inr ⟨c1, c2, ?_⟩)
  rw [e, if_neg (by simpa using c1), if_neg (by simpa using c2)]
  obtain ⟨A, sA, rfl⟩ := tiny_vec ha c1
  obtain ⟨B, sB, rfl⟩ := tiny_vec hb c2
  refine ⟨A, B, sA, sB, rfl, rfl, ?_⟩
  by_cases h : A = B
  · subst h
    rw [if_pos ⟨rfl, rfl, rfl⟩, if_pos rfl]
  · rw [if_neg h, if_neg]
    rintro ⟨e1, e2, e3⟩
    exact h (V3.ext (T_inj e1) (T_inj e2) (T_inj e3))
theorem s3_len {a : S3} (h : tiny3 a) : a.x.size ≤ 1000000 ∧ a.y.size ≤ 1000000 ∧ a.z.size ≤ 1000000 := by
  obtain ⟨h1, h2, h3⟩ := h
  exact ⟨by omega, by omega, by omega⟩
theorem vchk_S {a : S3} (h : tiny3 a) (B : Nat) (w : World) (hB : B ≤ w.heap.size) (hT : PQ B w) : Calls Tryz.prog 68 #[s3V a] w (Ret w (.int .i64 (chkS a))) :=
  vCheck_any a.x a.y a.z (s3_len h).1 (s3_len h).2.1 (s3_len h).2.2 B w hB hT
theorem r9chk_S {a : S3} (h : tiny3 a) (B : Nat) (w : World) (hB : B ≤ w.heap.size) (hT : PQ B w) : Calls Tryz.prog 70 #[s3V a] w (Ret w (.int .i64 (chkS a))) :=
  r9Check_any a.x a.y a.z (s3_len h).1 (s3_len h).2.1 (s3_len h).2.2 B w hB hT
set_option maxRecDepth 100000 in
theorem houtside_yes (n a b : Int) (h : n < a ∨ (¬ n < a ∧ b < n)) (w : World) :
    Calls Tryz.prog 73 #[.int .i64 n, .int .i64 a, .int .i64 b] w (fun e w' => e = .returned (.bool true) ∧ w' = w) := by
  rcases h with g1 | ⟨g0, g2⟩
  · skip
    go_enter Tryz.func73, Tryz.ntmps73
    go_wp2_with fail
    go_ret
    exact ⟨rfl, rfl⟩
  · have g1 := eq_false g0
    clear g0
    go_enter Tryz.func73, Tryz.ntmps73
    go_wp2_with fail
    go_ret
    exact ⟨rfl, rfl⟩
set_option maxRecDepth 100000 in
set_option maxHeartbeats 16000000 in
theorem hCheck_any (k f o : Int) (a b : S3) (wd dp : Int) (ha : tiny3 a) (hb : tiny3 b) (B : Nat) (w : World) (hB : B ≤ w.heap.size) (hT : PQ B w) :
    Calls Tryz.prog 27 #[memTV k f o a b wd dp] w (Ret w (.int .i64 (memE k f o a b wd dp))) := by
  have HT := hide hT
  have X1 := hide (heap1 w (memTO k f o a b wd dp))
  rcases mem_ways k f o a b wd dp ha hb with ⟨h1, e⟩ | ⟨h1, h2, h3, e⟩ | ⟨h1, h2, h3, h4, h5, e⟩ | ⟨h1, h2, h3, h4, h5, h6, h7, h8, h⟩
  · rw [e]
    have HO1 := hide (fun w => houtside_yes k 1 12 (by omega) w)
    clear e h1 ha hb hT
    go_enter Tryz.func27, Tryz.ntmps27
    go_wp2_with fail
    refine (HO1.out _).mono ?_
    rintro e w' ⟨rfl, rfl⟩
    go_wp2_with fail
    go_ret
    exact ⟨rfl, X1.out.2.2⟩
  · rw [e]
    have HO1 := hide (fun w => houtside_no k 1 12 (by omega) (by omega) w)
    clear e h1 h2 ha hb hT
    rcases h3 with g1 | ⟨g0, g2⟩
    · skip
      go_enter Tryz.func27, Tryz.ntmps27
      go_wp2_with fail
      refine (HO1.out _).mono ?_
      rintro e w' ⟨rfl, rfl⟩
      go_wp2_with fail
      go_ret
      exact ⟨rfl, X1.out.2.2⟩
    · have g1 := eq_false g0
      clear g0
      go_enter Tryz.func27, Tryz.ntmps27
      go_wp2_with fail
      refine (HO1.out _).mono ?_
      rintro e w' ⟨rfl, rfl⟩
      go_wp2_with fail
      go_ret
      exact ⟨rfl, X1.out.2.2⟩
  · rw [e]
    have HO1 := hide (fun w => houtside_no k 1 12 (by omega) (by omega) w)
    have g1 := eq_false h3
    have g2 := eq_false h4
    rcases h5 with h5 | ⟨h5, h6, h7⟩
    · have HO2 := hide (fun w => houtside_yes wd 1 1000 (by omega) w)
      clear e h1 h2 h3 h4 h5 ha hb hT
      go_enter Tryz.func27, Tryz.ntmps27
      go_wp2_with fail
      refine (HO1.out _).mono ?_
      rintro e w' ⟨rfl, rfl⟩
      go_wp2_with fail
      refine (HO2.out _).mono ?_
      rintro e w' ⟨rfl, rfl⟩
      go_wp2_with fail
      go_ret
      exact ⟨rfl, X1.out.2.2⟩
    · have HO2 := hide (fun w => houtside_no wd 1 1000 (by omega) (by omega) w)
      have HO3 := hide (fun w => houtside_yes dp 1 1000 (by omega) w)
      clear e h1 h2 h3 h4 h5 h6 h7 ha hb hT
      go_enter Tryz.func27, Tryz.ntmps27
      go_wp2_with fail
      refine (HO1.out _).mono ?_
      rintro e w' ⟨rfl, rfl⟩
      go_wp2_with fail
      refine (HO2.out _).mono ?_
      rintro e w' ⟨rfl, rfl⟩
      go_wp2_with fail
      refine (HO3.out _).mono ?_
      rintro e w' ⟨rfl, rfl⟩
      go_wp2_with fail
      go_ret
      exact ⟨rfl, X1.out.2.2⟩
  · have HO1 := hide (fun w => houtside_no k 1 12 (by omega) (by omega) w)
    have HO2 := hide (fun w => houtside_no wd 1 1000 (by omega) (by omega) w)
    have HO3 := hide (fun w => houtside_no dp 1 1000 (by omega) (by omega) w)
    have g1 := eq_false h3
    have g2 := eq_false h4
    have HC1 := hide (fun w hB hT => vchk_S ha B w hB hT)
    have HC2 := hide (fun w hB hT => vchk_S hb B w hB hT)
    have X0 := hide (heap3 w (memTO k f o a b wd dp) (.cells #[.string a.x, .string a.y, .string a.z, .string b.x, .string b.y, .string b.z] 24) (s3O a))
    clear X1
    rcases h with ⟨c1, e⟩ | ⟨c1, c2, e⟩ | ⟨c1, c2, A, C, sA, sC, rfl, rfl, e⟩
    · rw [e]
      have q1 : (chkS a != 0) = true := by simpa using c1
      obtain ⟨E, hE⟩ : ∃ E, E = chkS a := ⟨_, rfl⟩
      rw [← hE] at HC1 q1 ⊢
      clear e c1 hE h1 h2 h3 h4 h5 h6 h7 h8 ha hb hT
      go_enter Tryz.func27, Tryz.ntmps27
      go_wp2_with fail
      refine (HO1.out _).mono ?_
      rintro e w' ⟨rfl, rfl⟩
      go_wp2_with fail
      refine (HO2.out _).mono ?_
      rintro e w' ⟨rfl, rfl⟩
      go_wp2_with fail
      refine (HO3.out _).mono ?_
      rintro e w' ⟨rfl, rfl⟩
      go_wp2_with fail
      refine wp_loop_rounds 3 ?_
      rw [rounds_succ]
      go_wp2_with fail
      refine (HC1.out _ (Nat.le_trans hB X0.out.2.2.2.2.size) (HT.out.on X0.out.2.2.2.2 hB)).mono ?_
      rintro e w1 ⟨rfl, hb1⟩
      have G1 := hide (below_blk hb1 X0.out.1 (lt_blk X0.out.1))
      have G2 := hide (below_blk hb1 X0.out.2.1 (lt_blk X0.out.2.1))
      have HB1 := hide (X0.out.2.2.2.2.trans (hb1.mono X0.out.2.2.2.2.size))
      clear hb1
      go_wp2_with fail
      go_ret
      exact ⟨rfl, HB1.out⟩
    · rw [e]
      have q1 : (chkS b != 0) = true := by simpa using c2
      rw [c1] at HC1
      obtain ⟨E, hE⟩ : ∃ E, E = chkS b := ⟨_, rfl⟩
      rw [← hE] at HC2 q1 ⊢
      clear e c1 c2 hE h1 h2 h3 h4 h5 h6 h7 h8 ha hb hT
      go_enter Tryz.func27, Tryz.ntmps27
      go_wp2_with fail
      refine (HO1.out _).mono ?_
      rintro e w' ⟨rfl, rfl⟩
      go_wp2_with fail
      refine (HO2.out _).mono ?_
      rintro e w' ⟨rfl, rfl⟩
      go_wp2_with fail
      refine (HO3.out _).mono ?_
      rintro e w' ⟨rfl, rfl⟩
      go_wp2_with fail
      refine wp_loop_rounds 3 ?_
      rw [rounds_succ]
      go_wp2_with fail
      refine (HC1.out _ (Nat.le_trans hB X0.out.2.2.2.2.size) (HT.out.on X0.out.2.2.2.2 hB)).mono ?_
      rintro e w1 ⟨rfl, hb1⟩
      have G1 := hide (below_blk hb1 X0.out.1 (lt_blk X0.out.1))
      have G2 := hide (below_blk hb1 X0.out.2.1 (lt_blk X0.out.2.1))
      have HB1 := hide (X0.out.2.2.2.2.trans (hb1.mono X0.out.2.2.2.2.size))
      clear hb1
      go_wp2_with fail
      have m3 := cell_blk G2.out 3
      have m4 := cell_blk G2.out 4
      have m5 := cell_blk G2.out 5
      have l2 := lt_blk G2.out
      rw [rounds_succ]
      go_wp2_with fail
      have HB1b := hide (HB1.out.trans ((heap1 w1 (s3O b)).2.2.mono HB1.out.size))
      have G1b := hide (below_blk (heap1 w1 (s3O b)).2.2 G1.out (lt_blk G1.out))
      refine (HC2.out _ (Nat.le_trans hB HB1b.out.size) (HT.out.on HB1b.out hB)).mono ?_
      rintro e w2 ⟨rfl, hb2⟩
      have G3 := hide (below_blk hb2 G1b.out (lt_blk G1b.out))
      have HB2 := hide (HB1b.out.trans (hb2.mono HB1b.out.size))
      clear hb2 m3 m4 m5 l2 G1 G2 G1b
      go_wp2_with fail
      go_ret
      exact ⟨rfl, HB2.out⟩
    · by_cases hAC : A = C
      rotate_left
      · rw [e, if_neg hAC]
        have hm : Mem k f o A C wd dp := ⟨by omega, by omega, by omega, by omega, by omega, by omega, by omega, by omega, szV_mono sA (by omega), szV_mono sC (by omega), hAC⟩
        exact hCheck_ok hm B w hB hT
      · rw [e, if_pos hAC]
        subst hAC
        rw [c1] at HC1
        rw [c2] at HC2
        have HL1 := hide (fun w hB hT => hlong_no (szV_mono sA (by omega)) B w hB hT)
        have he := eqSpot_T A A
        rw [decide_eq_true rfl] at he
        clear e c1 c2 h1 h2 h3 h4 h5 h6 h7 h8 ha hb hT sA sC
        go_enter Tryz.func27, Tryz.ntmps27
        go_wp2_with fail
        refine (HO1.out _).mono ?_
        rintro e w' ⟨rfl, rfl⟩
        go_wp2_with fail
        refine (HO2.out _).mono ?_
        rintro e w' ⟨rfl, rfl⟩
        go_wp2_with fail
        refine (HO3.out _).mono ?_
        rintro e w' ⟨rfl, rfl⟩
        go_wp2_with fail
        refine wp_loop_rounds 3 ?_
        rw [rounds_succ]
        go_wp2_with fail
        refine (HC1.out _ (Nat.le_trans hB X0.out.2.2.2.2.size) (HT.out.on X0.out.2.2.2.2 hB)).mono ?_
        rintro e w1 ⟨rfl, hb1⟩
        have G1 := hide (below_blk hb1 X0.out.1 (lt_blk X0.out.1))
        have G2 := hide (below_blk hb1 X0.out.2.1 (lt_blk X0.out.2.1))
        have HB1 := hide (X0.out.2.2.2.2.trans (hb1.mono X0.out.2.2.2.2.size))
        clear hb1
        go_wp2_with fail
        have m3 := cell_blk G2.out 3
        have m4 := cell_blk G2.out 4
        have m5 := cell_blk G2.out 5
        have l2 := lt_blk G2.out
        rw [rounds_succ]
        go_wp2_with fail
        have HB1b := hide (HB1.out.trans ((heap1 w1 (vecO A)).2.2.mono HB1.out.size))
        have G1b := hide (below_blk (heap1 w1 (vecO A)).2.2 G1.out (lt_blk G1.out))
        refine (HC2.out _ (Nat.le_trans hB HB1b.out.size) (HT.out.on HB1b.out hB)).mono ?_
        rintro e w2 ⟨rfl, hb2⟩
        have G3 := hide (below_blk hb2 G1b.out (lt_blk G1b.out))
        have HB2 := hide (HB1b.out.trans (hb2.mono HB1b.out.size))
        clear hb2 m3 m4 m5 l2 G1 G2 G1b
        go_wp2_with fail
        have k3 := cell_blk G3.out 3
        have k4 := cell_blk G3.out 4
        have k5 := cell_blk G3.out 5
        have l1 := lt_blk G3.out
        rw [rounds_succ]
        go_wp2_with fail
        refine (HL1.out _ (Nat.le_trans hB HB2.out.size) (HT.out.on HB2.out hB)).mono ?_
        rintro e w3 ⟨rfl, hb3⟩
        have G4 := hide (below_blk hb3 G3.out (lt_blk G3.out))
        have HB3 := hide (HB2.out.trans (hb3.mono HB2.out.size))
        clear hb3 k3 k4 k5 l1 G3
        have k6 := cell_blk G4.out 6
        have k7 := cell_blk G4.out 7
        have k8 := cell_blk G4.out 8
        have l1 := lt_blk G4.out
        go_wp2_with fail
        refine (HL1.out _ (Nat.le_trans hB HB3.out.size) (HT.out.on HB3.out hB)).mono ?_
        rintro e w4 ⟨rfl, hb4⟩
        have G5 := hide (below_blk hb4 G4.out (lt_blk G4.out))
        have HB4 := hide (HB3.out.trans (hb4.mono HB3.out.size))
        clear hb4 k6 k7 k8 l1 G4
        have k3 := cell_blk G5.out 3
        have k4 := cell_blk G5.out 4
        have k5 := cell_blk G5.out 5
        have k6 := cell_blk G5.out 6
        have k7 := cell_blk G5.out 7
        have k8 := cell_blk G5.out 8
        have l1 := lt_blk G5.out
        go_wp2_with fail
        go_ret
        exact ⟨rfl, HB4.out⟩
end Go.Proofs.YtbfojhneajedmaaGreatDoor
namespace Go.Proofs.YtbfojhneajedmaaGreatDoor
open Go.RowKit Go.KP Go.KI Go.Shelf
attribute [local go_sem] Oper.semAt_some vidx0 vidx1 vidx2

theorem heap5 (w : World) (o1 o2 o3 o4 o5 : Obj) : (((((w.alloc o1).alloc o2).alloc o3).alloc o4).alloc o5).heap[w.heap.size + 2]? = some o3 ∧ (((((w.alloc o1).alloc o2).alloc o3).alloc o4).alloc o5).heap.size = w.heap.size + 5 ∧ Below w.heap.size w (((((w.alloc o1).alloc o2).alloc o3).alloc o4).alloc o5) := by
  obtain ⟨_, _, a3, a4, a5⟩ := heap3 w o1 o2 o3
  obtain ⟨_, _, b4, b5⟩ := heap2 (((w.alloc o1).alloc o2).alloc o3) o4 o5
  rw [a4] at b4 b5
  exact ⟨below_blk b5 a3 (by omega), by omega, a5.trans (b5.mono (by omega))⟩
/-- The parts of two vectors can be compared. -/
def cmpsV (a b : V3) : Prop := cmpC a.x b.x ∧ cmpC a.y b.y ∧ cmpC a.z b.z
theorem cmpsV_of {p q : Nat} {a b : V3} (ha : szV p a) (hb : szV q b) (h : p + q ≤ most) : cmpsV a b := ⟨cmpC_of ha.1 hb.1 h, cmpC_of ha.2.1 hb.2.1 h, cmpC_of ha.2.2 hb.2.2 h⟩
set_option maxRecDepth 100000 in
set_option maxHeartbeats 8000000 in
theorem vCompare_T {a b : V3} (fa : fitsV a) (fb : fitsV b) (hc : cmpsV a b) (B : Nat) (w : World) (hB : B ≤ w.heap.size) (hT : PQ B w) :
    Calls Tryz.prog 48 #[vecV a, vecV b] w (Ret w (.tuple #[.int .i64 (vcmp a b), .int .i64 0])) := by
  have HT := hide hT
  have HC := hide (fun w hB hT => vboth_T fa fb B w hB hT)
  have H1 := hide (fun w hB hT => qcmp_T fa.1 fb.1 hc.1 B w hB hT)
  have H2 := hide (fun w hB hT => qcmp_T fa.2.1 fb.2.1 hc.2.1 B w hB hT)
  have H3 := hide (fun w hB hT => qcmp_T fa.2.2 fb.2.2 hc.2.2 B w hB hT)
  have X0 := hide (heap2 w (vecO a) (vecO b))
  have HL1 := hide (fun w => vlist_at (T a.x) (T a.y) (T a.z) w)
  have HL2 := hide (fun w => vlist_at (T b.x) (T b.y) (T b.z) w)
  obtain ⟨V, hV⟩ : ∃ V, V = vcmp a b := ⟨_, rfl⟩
  rw [← hV]
  unfold vcmp at hV
  obtain ⟨x, hx⟩ : ∃ x, x = cmpR a.x b.x := ⟨_, rfl⟩
  obtain ⟨y, hy⟩ : ∃ x, x = cmpR a.y b.y := ⟨_, rfl⟩
  obtain ⟨z, hz⟩ : ∃ x, x = cmpR a.z b.z := ⟨_, rfl⟩
  rw [← hx] at H1 hV
  rw [← hy] at H2 hV
  rw [← hz] at H3 hV
  clear hx hy hz hT fa fb hc
  by_cases hx : x = 0
  rotate_left
  · rw [if_pos hx] at hV
    have hx2 : (x != 0) = true := by simpa using hx
    clear hx
    subst hV
    go_enter Tryz.func48, Tryz.ntmps48
    go_wp2_with fail
    refine (HC.out _ (Nat.le_trans hB X0.out.2.2.2.size) (HT.out.on X0.out.2.2.2 hB)).mono ?_
    rintro e w1 ⟨rfl, hb1⟩
    have HB1 := hide (X0.out.2.2.2.trans (hb1.mono X0.out.2.2.2.size))
    have G1 := hide (below_blk hb1 X0.out.1 (lt_blk X0.out.1))
    have G2 := hide (below_blk hb1 X0.out.2.1 (lt_blk X0.out.2.1))
    have l1 := lt_blk G1.out
    have l2 := lt_blk G2.out
    have k0 := cell_blk G1.out 0
    have k1 := cell_blk G1.out 1
    have k2 := cell_blk G1.out 2
    have m0 := cell_blk G2.out 0
    have m1 := cell_blk G2.out 1
    have m2 := cell_blk G2.out 2
    clear hb1
    go_wp2_with fail
    refine (HL2.out _).mono ?_
    rintro e w0 ⟨rfl, rfl⟩
    have X3 := hide (heap3 w1 (sptO (T b.x) (T b.y) (T b.z)) (arrO (T b.x) (T b.y) (T b.z)) (arrO (T b.x) (T b.y) (T b.z))).2.2.2.2
    have G3 := hide (below_blk X3.out G1.out (lt_blk G1.out))
    clear k0 k1 k2 m0 m1 m2 l1 l2
    have l1 := lt_blk G3.out
    have k0 := cell_blk G3.out 0
    have k1 := cell_blk G3.out 1
    have k2 := cell_blk G3.out 2
    go_wp2_with fail
    refine (HL1.out _).mono ?_
    rintro e w0 ⟨rfl, rfl⟩
    have Y0 := hide (heap5 w1 (sptO (T b.x) (T b.y) (T b.z)) (arrO (T b.x) (T b.y) (T b.z)) (arrO (T b.x) (T b.y) (T b.z)) (sptO (T a.x) (T a.y) (T a.z)) (arrO (T a.x) (T a.y) (T a.z)))
    have Y1 := hide Y0.out.1
    have YB := hide (HB1.out.trans (Y0.out.2.2.mono HB1.out.size))
    clear k0 k1 k2 l1
    go_wp2_with fail
    refine wp_loop_rounds 1 ?_
    rw [rounds_succ]
    go_wp2_with fail
    refine (H1.out _ (Nat.le_trans hB YB.out.size) (HT.out.on YB.out hB)).mono ?_
    rintro e w2 ⟨rfl, hb2⟩
    have HB2 := hide (YB.out.trans (hb2.mono YB.out.size))
    clear hb2
    go_wp2_with fail
    refine bodyPost_ret (results_tmp2 rfl _ _ _) rfl ?_
    exact ⟨rfl, HB2.out⟩
  subst hx
  rw [if_neg (by simp)] at hV
  by_cases hy : y = 0
  rotate_left
  · rw [if_pos hy] at hV
    have hy2 : (y != 0) = true := by simpa using hy
    clear hy
    subst hV
    go_enter Tryz.func48, Tryz.ntmps48
    go_wp2_with fail
    refine (HC.out _ (Nat.le_trans hB X0.out.2.2.2.size) (HT.out.on X0.out.2.2.2 hB)).mono ?_
    rintro e w1 ⟨rfl, hb1⟩
    have HB1 := hide (X0.out.2.2.2.trans (hb1.mono X0.out.2.2.2.size))
    have G1 := hide (below_blk hb1 X0.out.1 (lt_blk X0.out.1))
    have G2 := hide (below_blk hb1 X0.out.2.1 (lt_blk X0.out.2.1))
    have l1 := lt_blk G1.out
    have l2 := lt_blk G2.out
    have k0 := cell_blk G1.out 0
    have k1 := cell_blk G1.out 1
    have k2 := cell_blk G1.out 2
    have m0 := cell_blk G2.out 0
    have m1 := cell_blk G2.out 1
    have m2 := cell_blk G2.out 2
    clear hb1
    go_wp2_with fail
    refine (HL2.out _).mono ?_
    rintro e w0 ⟨rfl, rfl⟩
    have X3 := hide (heap3 w1 (sptO (T b.x) (T b.y) (T b.z)) (arrO (T b.x) (T b.y) (T b.z)) (arrO (T b.x) (T b.y) (T b.z))).2.2.2.2
    have G3 := hide (below_blk X3.out G1.out (lt_blk G1.out))
    clear k0 k1 k2 m0 m1 m2 l1 l2
    have l1 := lt_blk G3.out
    have k0 := cell_blk G3.out 0
    have k1 := cell_blk G3.out 1
    have k2 := cell_blk G3.out 2
    go_wp2_with fail
    refine (HL1.out _).mono ?_
    rintro e w0 ⟨rfl, rfl⟩
    have Y0 := hide (heap5 w1 (sptO (T b.x) (T b.y) (T b.z)) (arrO (T b.x) (T b.y) (T b.z)) (arrO (T b.x) (T b.y) (T b.z)) (sptO (T a.x) (T a.y) (T a.z)) (arrO (T a.x) (T a.y) (T a.z)))
    have Y1 := hide Y0.out.1
    have YB := hide (HB1.out.trans (Y0.out.2.2.mono HB1.out.size))
    clear k0 k1 k2 l1
    go_wp2_with fail
    refine wp_loop_rounds 2 ?_
    rw [rounds_succ]
    go_wp2_with fail
    refine (H1.out _ (Nat.le_trans hB YB.out.size) (HT.out.on YB.out hB)).mono ?_
    rintro e w2 ⟨rfl, hb2⟩
    have Z2 := hide (below_blk hb2 Y1.out (lt_blk Y1.out))
    have HB2 := hide (YB.out.trans (hb2.mono YB.out.size))
    clear hb2
    go_wp2_with fail
    have k1 := cell_blk Z2.out 1
    rw [rounds_succ]
    go_wp2_with fail
    refine (H2.out _ (Nat.le_trans hB HB2.out.size) (HT.out.on HB2.out hB)).mono ?_
    rintro e w3 ⟨rfl, hb3⟩
    have HB3 := hide (HB2.out.trans (hb3.mono HB2.out.size))
    clear hb3
    go_wp2_with fail
    refine bodyPost_ret (results_tmp2 rfl _ _ _) rfl ?_
    exact ⟨rfl, HB3.out⟩
  subst hy
  rw [if_neg (by simp)] at hV
  subst hV
  have hz : V = 0 ∨ (V != 0) = true := by
    by_cases h : V = 0
    · exact .inl h
    · exact .inr (by simpa using h)
  rcases hz with rfl | hz
  all_goals
    go_enter Tryz.func48, Tryz.ntmps48
    go_wp2_with fail
    refine (HC.out _ (Nat.le_trans hB X0.out.2.2.2.size) (HT.out.on X0.out.2.2.2 hB)).mono ?_
    rintro e w1 ⟨rfl, hb1⟩
    have HB1 := hide (X0.out.2.2.2.trans (hb1.mono X0.out.2.2.2.size))
    have G1 := hide (below_blk hb1 X0.out.1 (lt_blk X0.out.1))
    have G2 := hide (below_blk hb1 X0.out.2.1 (lt_blk X0.out.2.1))
    have l1 := lt_blk G1.out
    have l2 := lt_blk G2.out
    have k0 := cell_blk G1.out 0
    have k1 := cell_blk G1.out 1
    have k2 := cell_blk G1.out 2
    have m0 := cell_blk G2.out 0
    have m1 := cell_blk G2.out 1
    have m2 := cell_blk G2.out 2
    clear hb1
    go_wp2_with fail
    refine (HL2.out _).mono ?_
    rintro e w0 ⟨rfl, rfl⟩
    have X3 := hide (heap3 w1 (sptO (T b.x) (T b.y) (T b.z)) (arrO (T b.x) (T b.y) (T b.z)) (arrO (T b.x) (T b.y) (T b.z))).2.2.2.2
    have G3 := hide (below_blk X3.out G1.out (lt_blk G1.out))
    clear k0 k1 k2 m0 m1 m2 l1 l2
    have l1 := lt_blk G3.out
    have k0 := cell_blk G3.out 0
    have k1 := cell_blk G3.out 1
    have k2 := cell_blk G3.out 2
    go_wp2_with fail
    refine (HL1.out _).mono ?_
    rintro e w0 ⟨rfl, rfl⟩
    have Y0 := hide (heap5 w1 (sptO (T b.x) (T b.y) (T b.z)) (arrO (T b.x) (T b.y) (T b.z)) (arrO (T b.x) (T b.y) (T b.z)) (sptO (T a.x) (T a.y) (T a.z)) (arrO (T a.x) (T a.y) (T a.z)))
    have Y1 := hide Y0.out.1
    have YB := hide (HB1.out.trans (Y0.out.2.2.mono HB1.out.size))
    clear k0 k1 k2 l1
    go_wp2_with fail
    refine wp_loop_rounds 4 ?_
    rw [rounds_succ]
    go_wp2_with fail
    refine (H1.out _ (Nat.le_trans hB YB.out.size) (HT.out.on YB.out hB)).mono ?_
    rintro e w2 ⟨rfl, hb2⟩
    have Z2 := hide (below_blk hb2 Y1.out (lt_blk Y1.out))
    have HB2 := hide (YB.out.trans (hb2.mono YB.out.size))
    clear hb2
    go_wp2_with fail
    have k1 := cell_blk Z2.out 1
    rw [rounds_succ]
    go_wp2_with fail
    refine (H2.out _ (Nat.le_trans hB HB2.out.size) (HT.out.on HB2.out hB)).mono ?_
    rintro e w3 ⟨rfl, hb3⟩
    have Z3 := hide (below_blk hb3 Z2.out (lt_blk Z2.out))
    have HB3 := hide (HB2.out.trans (hb3.mono HB2.out.size))
    clear hb3 k1
    go_wp2_with fail
    have k1 := cell_blk Z3.out 2
    rw [rounds_succ]
    go_wp2_with fail
    refine (H3.out _ (Nat.le_trans hB HB3.out.size) (HT.out.on HB3.out hB)).mono ?_
    rintro e w4 ⟨rfl, hb4⟩
    have HB4 := hide (HB3.out.trans (hb4.mono HB3.out.size))
    clear hb4
    go_wp2_with fail
    first
      | (refine bodyPost_ret (results_tmp2 rfl _ _ _) rfl ?_
         exact ⟨rfl, HB4.out⟩)
      | (rw [rounds_succ]
         go_wp2_with fail
         refine bodyPost_ret (results_tmp2 rfl _ _ _) rfl ?_
         exact ⟨rfl, HB4.out⟩)
end Go.Proofs.YtbfojhneajedmaaGreatDoor
