/-
  Texts laid together.
-/
import Derived.Test.YtfcjaljaomknjaaGreatDoorMF12
import Derived.Test.YtfcjaljaomknjaaGreatDoorMF5
import Derived.Test.YtfcjaljaomknjaaGreatDoorMF10
import Derived.Test.YtfcjaljaomknjaaGreatDoorMF11
set_option maxRecDepth 100000
set_option maxHeartbeats 16000000
namespace Go.Proofs.YtfcjaljaomknjaaGreatDoor
open Go.RowKit Go.KP Go.KI Go.Shelf
attribute [local go_sem] Oper.semAt_some

theorem row1 {w : World} : LimbAt (w.alloc (.cells #[.int .i64 1] 3)).heap.size (w.alloc (.cells #[.int .i64 1] 3)) (.slice (some ⟨w.heap.size, 0, none⟩) ([1] : List Nat).length 1) [1] := row_limbs (heap_alloc_new w (rowO [1])) (by simp [maxLen])
theorem norm1 : Norm 1000000 [1] := ⟨fun z hz => by simp only [List.mem_singleton] at hz; omega, .inr (by simp [lat])⟩
structure RDivSt (nb b : Nat) (mq mr my : Bool) (vq vr vy : Value) (W : World) : Prop where
  q : W.heap[b]? = some (bigO mq vq)
  r : W.heap[b + 1]? = some (bigO mr vr)
  y : W.heap[nb + 1]? = some (bigO my vy)
  lt : nb + 1 < b
theorem RDivSt.on {nb b : Nat} {mq mr my : Bool} {vq vr vy : Value} {W W2 : World} (h : RDivSt nb b mq mr my vq vr vy W) (hb : Below W.heap.size W W2) : RDivSt nb b mq mr my vq vr vy W2 :=
  ⟨below_blk hb h.q (lt_blk h.q), below_blk hb h.r (lt_blk h.r), below_blk hb h.y (lt_blk h.y), h.lt⟩
theorem RDivSt.cells {nb b : Nat} {mq mr my : Bool} {vq vr vy : Value} {W : World} (h : RDivSt nb b mq mr my vq vr vy W) :
    (W.cell? ⟨b, 0, none⟩ = some (.bool mq) ∧ W.cell? ⟨b, 1, none⟩ = some vq) ∧ (W.cell? ⟨b + 1, 0, none⟩ = some (.bool mr) ∧ W.cell? ⟨b + 1, 1, none⟩ = some vr) ∧ (W.cell? ⟨nb + 1, 0, none⟩ = some (.bool my) ∧ W.cell? ⟨nb + 1, 1, none⟩ = some vy) ∧
    (W.frozen? ⟨b, 0, none⟩ = false ∧ W.frozen? ⟨b, 1, none⟩ = false) ∧ (W.frozen? ⟨b + 1, 0, none⟩ = false ∧ W.frozen? ⟨b + 1, 1, none⟩ = false) ∧ b < W.heap.size ∧ b + 1 < W.heap.size ∧ nb + 1 < W.heap.size :=
  ⟨⟨cell_blk h.q 0, cell_blk h.q 1⟩, ⟨cell_blk h.r 0, cell_blk h.r 1⟩, ⟨cell_blk h.y 0, cell_blk h.y 1⟩, ⟨froz_blk h.q 0, froz_blk h.q 1⟩, ⟨froz_blk h.r 0, froz_blk h.r 1⟩, lt_blk h.q, lt_blk h.r, lt_blk h.y⟩
theorem RDivSt.setq {nb b : Nat} {mq mr my : Bool} {vq vr vy : Value} {W : World} (h : RDivSt nb b mq mr my vq vr vy W) (m : Bool) (v : Value) :
    RDivSt nb b m mr my v vr vy ((W.setCell ⟨b, 0, none⟩ (.bool m)).setCell ⟨b, 1, none⟩ v) ∧ Below b W ((W.setCell ⟨b, 0, none⟩ (.bool m)).setCell ⟨b, 1, none⟩ v) := by
  obtain ⟨s1, s2⟩ := set2 h.q (.bool m) v
  have := h.lt
  exact ⟨⟨s1, (setCell_other (by omega)).trans ((setCell_other (by omega)).trans h.r), (setCell_other (by omega)).trans ((setCell_other (by omega)).trans h.y), h.lt⟩, s2⟩
theorem RDivSt.setr {nb b : Nat} {mq mr my : Bool} {vq vr vy : Value} {W : World} (h : RDivSt nb b mq mr my vq vr vy W) (m : Bool) (v : Value) :
    RDivSt nb b mq m my vq v vy ((W.setCell ⟨b + 1, 0, none⟩ (.bool m)).setCell ⟨b + 1, 1, none⟩ v) ∧ Below b W ((W.setCell ⟨b + 1, 0, none⟩ (.bool m)).setCell ⟨b + 1, 1, none⟩ v) := by
  obtain ⟨s1, s2⟩ := set2 h.r (.bool m) v
  have := h.lt
  exact ⟨⟨(setCell_other (by omega)).trans ((setCell_other (by omega)).trans h.q), s1, (setCell_other (by omega)).trans ((setCell_other (by omega)).trans h.y), h.lt⟩, s2.mono (by omega)⟩
theorem OwnL.setNum {base nb : Nat} {W : World} {v u : Value} {m : Bool} {l : List Nat} (h : OwnL base W v l) (hb : W.heap[nb]? = some (bigO m u)) (m2 : Bool) (u2 : Value) : OwnL base ((W.setCell ⟨nb, 0, none⟩ (.bool m2)).setCell ⟨nb, 1, none⟩ u2) v l :=
  owns_stay h (fun r hr => by
    have := own_ne_big h hb r hr
    rw [setCell_other (by omega), setCell_other (by omega)])
theorem rDivide_long (s t : ByteArray) (w : World) (c1 : chkI s.data.toList = 0) (c2 : chkI t.data.toList = 0) (hl : ¬ (s.size ≤ 17 ∧ t.size ≤ 17)) (h0 : t.data.toList ≠ [48]) :
    Calls Tryz.prog 92 #[.string s, .string t] w (Ret w (tripV (Lib.itoa ((valI s.data.toList).fdiv (valI t.data.toList))) (Lib.itoa ((valI s.data.toList).fmod (valI t.data.toList))) 0)) := by
  have l1' := (chk_digs c1).2
  have l2' := (chk_digs c2).2
  rw [bytes_len] at l1' l2'
  have H1 := hide (rboth_any s t (by omega) (by omega) w)
  have hb0 : bothI s.data.toList t.data.toList = 0 := by unfold bothI; rw [if_pos c1, c2]
  rw [hb0] at H1
  have hy0 := chk_nz c2 h0
  have hq : (t.toList == [48]) = false := by rw [ByteArray.toList_eq]; simpa using h0
  have FQ := hide (res_fit (fits_of_le (chk_ok c1).2 (fdiv_natAbs_le (x := valI s.data.toList) hy0)))
  have H2 := hide (fun w => rtwo_no s t c1 hl w)
  have R1 := hide (fun w => rread_good s c1 w)
  have R2 := hide (fun w => rread_good t c2 w)
  obtain ⟨QS, hQS⟩ : ∃ u, u = strB (Lib.itoa ((valI s.data.toList).fdiv (valI t.data.toList))) := ⟨_, rfl⟩
  obtain ⟨RS, hRS⟩ : ∃ u, u = strB (Lib.itoa ((valI s.data.toList).fmod (valI t.data.toList))) := ⟨_, rfl⟩
  rw [tripV, ← hQS, ← hRS]
  have HQS := hide hQS; have HRS := hide hRS
  clear c1 c2 hl h0 hb0 l1' l2' hQS hRS
  go_enter Tryz.func92, Tryz.ntmps92
  go_wp2_with fail
  refine H1.out.mono ?_
  rintro e w1 ⟨rfl, hb1⟩
  have HB1 := hide hb1
  clear hb1 H1
  go_wp2_with fail
  refine (H2.out _).mono ?_
  rintro e w2 ⟨x0, y0, rfl, hb2⟩
  have HB2 := hide (HB1.out.trans (hb2.mono HB1.out.size))
  clear hb2 H2 HB1
  go_wp2_with fail
  refine (R1.out _).mono ?_
  rintro e w3 ⟨m1, v1, l1, rfl, hb3, o1, n1, q1, k1⟩
  have HB3 := hide (HB2.out.trans (hb3.mono HB2.out.size))
  have O1 := hide o1; have N1 := hide n1; have Q1 := hide q1
  clear hb3 HB2 R1 o1 n1 q1
  go_wp2_with fail
  refine (R2.out _).mono ?_
  rintro e w4 ⟨m2, v2, l2, rfl, hb4, o2, n2, q2, k2⟩
  have HB4 := hide (HB3.out.trans (hb4.mono HB3.out.size))
  have O1' := hide (O1.out.keep hb4)
  have O2 := hide o2; have N2 := hide n2; have Q2 := hide q2
  clear hb4 HB3 R2 o2 n2 q2 O1
  obtain ⟨av1, cv1, hvf, _, _⟩ := O1'.out.form
  subst hvf
  obtain ⟨av2, cv2, hvf, _, _⟩ := O2.out.form
  subst hvf
  have hl2 : l2 ≠ [] := by
    intro e
    have h := Q2.out
    rw [e] at h
    apply hy0
    rw [← h]
    cases m2 <;> rfl
  have hly : 0 < lv 1000000 l2 := by
    rcases Nat.eq_zero_or_pos (lv 1000000 l2) with h | h
    · exact absurd ((N2.out.zero (by omega)).1 h) hl2
    · exact h
  obtain ⟨g0, g1, gs0, gb0⟩ := heap2 w4 (bigO m1 (.slice av1 l1.length cv1)) (bigO m2 (.slice av2 l2.length cv2))
  obtain ⟨w5, hw5⟩ : ∃ w5, (w4.alloc (bigO m1 (.slice av1 l1.length cv1))).alloc (bigO m2 (.slice av2 l2.length cv2)) = w5 := ⟨_, rfl⟩
  rw [hw5] at g0 g1 gs0 gb0
  have c1 := cell_blk g0 1
  have c3 := cell_blk g1 1
  have HDV := hide (rdivide_any (.slice av1 l1.length cv1) (.slice av2 l2.length cv2) l1 l2 w5.heap.size w5 (LimbAt.of_own (O1'.out.keep gb0)) (LimbAt.of_own (O2.out.keep gb0)) (Nat.le_refl _) N1.out.lt N2.out hl2 (by omega) (by omega))
  have O2' := hide (O2.out.keep gb0)
  have HB5 := hide (HB4.out.trans (gb0.mono HB4.out.size)); have G0 := hide g0; have G1 := hide g1
  have hs5 : w4.heap.size + 1 < w5.heap.size := by omega
  have FL := hide (floor_long m1 m2 (a := lv 1000000 l1) hly)
  rw [Q1.out, Q2.out] at FL
  have HW5 := hide hw5
  clear g0 g1 gs0 gb0 O1' O2 HB4 hy0 hw5
  go_wp2_with fail
  rw [HW5.out]
  clear HW5
  obtain ⟨nb, hnb⟩ : ∃ nb, nb = w4.heap.size := ⟨_, rfl⟩
  rw [← hnb] at c1 c3 G0 G1 hs5 ⊢
  have HNB := hide hnb
  clear hnb
  refine HDV.out.mono ?_
  rintro e w6 ⟨vq, vr, q, r, rfl, hb6, oq, or_, nq, nr, eq, er, lq⟩
  obtain ⟨aq, cq, hvf, _, _⟩ := oq.form
  subst hvf
  obtain ⟨ar, cr, hvf, _, _⟩ := or_.form
  subst hvf
  have HBZ := hide (HB5.out.trans (hb6.mono HB5.out.size))
  have G0Z := hide (below_blk hb6 G0.out (by omega))
  have G1Z := hide (below_blk hb6 G1.out (by omega))
  have O2Z := hide (O2'.out.keep hb6)
  have hs6 : nb + 1 < w6.heap.size := Nat.lt_of_lt_of_le hs5 hb6.size
  have lr : r.length ≤ l2.length := norm_le_b (by omega) nr N2.out.lt (by rw [er]; exact Nat.le_of_lt (Nat.mod_lt _ hly))
  have OQ := hide oq; have OR := hide or_; have NQ := hide nq; have NR := hide nr; have ER := hide er
  rw [← eq, ← er] at FL
  clear hb6 oq or_ nq nr eq er c1 c3 HB5 G0 G1 O2' HDV
  have z0 := cell_blk G0Z.out 0
  have z1 := cell_blk G1Z.out 0
  have zA : ∀ o1 o2 : Obj, ((w6.alloc o1).alloc o2).cell? ⟨nb, 0, none⟩ = some (.bool m1) := fun o1 o2 => (cell_alloc (by simp; omega)).trans ((cell_alloc (by omega)).trans z0)
  have zB : ∀ o1 o2 : Obj, ((w6.alloc o1).alloc o2).cell? ⟨nb + 1, 0, none⟩ = some (.bool m2) := fun o1 o2 => (cell_alloc (by simp; omega)).trans ((cell_alloc (by omega)).trans z1)
  have hqc : (q = [] ∧ (0 < q.length) = False) ∨ (q ≠ [] ∧ 0 < q.length) := by
    by_cases h : q = []
    · exact .inl ⟨h, eq_false (by rw [h]; simp)⟩
    · exact .inr ⟨h, List.length_pos_iff.2 h⟩
  have hrc : (r = [] ∧ (0 < r.length) = False) ∨ (r ≠ [] ∧ 0 < r.length) := by
    by_cases h : r = []
    · exact .inl ⟨h, eq_false (by rw [h]; simp)⟩
    · exact .inr ⟨h, List.length_pos_iff.2 h⟩
  by_cases had : m1 ≠ m2 ∧ r ≠ []
  · obtain ⟨hm, hr⟩ := had
    have hr1 : lv 1000000 r ≠ 0 := fun e => hr ((NR.out.zero (by omega)).1 e)
    obtain ⟨f1, f2⟩ := FL.out.2 hm hr1
    have hm2 : m2 = !m1 := by cases m1 <;> cases m2 <;> simp_all
    have hrl : 0 < r.length := List.length_pos_iff.2 hr
    have hlt : lv 1000000 r ≤ lv 1000000 l2 := by
      rw [ER.out]
      exact Nat.le_of_lt (Nat.mod_lt _ hly)
    have HZ1 := hide (show -((lv 1000000 q : Nat) : Int) + -1 = (valI s.data.toList).fdiv (valI t.data.toList) by
      rw [← f1, hm2]
      cases m1 <;> simp [valS] <;> omega)
    have HZ2 := hide (show valS m1 (lv 1000000 r) + valS m2 (lv 1000000 l2) = (valI s.data.toList).fmod (valI t.data.toList) by
      rw [← f2, hm2]
      exact valS_sub2 m1 hlt)
    have HF0 := hide (fun (a b : Bool) => heap2 w6 (bigO a (.slice aq q.length cq)) (bigO b (.slice ar r.length cr)))
    have HST := hide (fun (sq sr : Bool) => show RDivSt nb w6.heap.size sq sr m2 (.slice aq q.length cq) (.slice ar r.length cr) (.slice av2 l2.length cv2) ((w6.alloc (bigO sq (.slice aq q.length cq))).alloc (bigO sr (.slice ar r.length cr))) from
      ⟨(heap2 w6 _ _).1, (heap2 w6 _ _).2.1, below_blk (heap2 w6 _ _).2.2.2 G1Z.out hs6, hs6⟩)
    have HA := hide (fun (sq sr : Bool) (h : valS sq (lv 1000000 q) = -((lv 1000000 q : Nat) : Int)) => show Calls Tryz.prog 143 #[numV sq (.slice aq q.length cq), numV true (.slice (some ⟨w6.heap.size + 1 + 1, 0, none⟩) 1 1)] (((w6.alloc (bigO sq (.slice aq q.length cq))).alloc (bigO sr (.slice ar r.length cr))).alloc (.cells #[.int .i64 1] 3))
        (fun e W2 => ∃ m3 a3 c3 l3, e = .returned (numV m3 (.slice a3 l3.length c3)) ∧ Hid (RDivSt nb w6.heap.size sq sr m2 (.slice aq q.length cq) (.slice ar r.length cr) (.slice av2 l2.length cv2) W2 ∧ Below w6.heap.size w6 W2 ∧ OwnL w6.heap.size W2 (.slice a3 l3.length c3) l3 ∧ Norm 1000000 l3 ∧ valS m3 (lv 1000000 l3) = (valI s.data.toList).fdiv (valI t.data.toList)) ∧ l3.length ≤ 200) by
      have hb6 : Below w6.heap.size w6 (((w6.alloc (bigO sq (.slice aq q.length cq))).alloc (bigO sr (.slice ar r.length cr))).alloc (.cells #[.int .i64 1] 3)) := (heap2 w6 _ _).2.2.2.alloc (heap2 w6 _ _).2.2.2.size _
      have h1 := row1 (w := (w6.alloc (bigO sq (.slice aq q.length cq))).alloc (bigO sr (.slice ar r.length cr)))
      rw [(heap2 w6 _ _).2.2.1] at h1
      refine (radd_any sq true aq (some ⟨w6.heap.size + 1 + 1, 0, none⟩) cq 1 q [1] _ (.of_own (OQ.out.keep hb6)) h1 NQ.out norm1 (by omega) (by simp)).mono ?_
      rintro e W2 ⟨m3, v3, l3, rfl, hb3, o3, n3, q3, k3⟩
      obtain ⟨a3, c3, hvf, _, _⟩ := o3.form
      subst hvf
      refine ⟨m3, a3, c3, l3, rfl, ⟨?_, hb6.trans (hb3.mono hb6.size), o3.mono hb6.size, n3, ?_⟩, by simp at k3; omega⟩
      · exact ((HST.out sq sr).on ((Below.refl _ _).alloc (Nat.le_refl _) _)).on hb3
      · rw [q3, h, ← HZ1.out]
        rfl)
    have HC := hide (fun (sr : Bool) (W : World) (hb : Below w6.heap.size w6 W) => radd_any sr m2 ar av2 cr cv2 r l2 W (.of_own (OR.out.keep hb)) (.of_own (O2Z.out.keep hb)) NR.out N2.out (by omega) (by omega))
    clear FL hrc f1 f2 hr1 hlt
    subst hm2
    rcases hqc with ⟨hq0, hqi⟩ | ⟨hq0, hqi⟩ <;> cases m1
    all_goals
      have HQ0 := hide hq0
      clear hq0 hr hm
      go_wp2_with fail
      refine (HA.out _ _ (by first | rfl | (rw [HQ0.out]; rfl))).mono ?_
      rintro e w7 ⟨m3, a3, c3, l3, rfl, hst, k3⟩
      have ST := hide hst.out.1; have HB7 := hide hst.out.2.1; have O3 := hide hst.out.2.2.1; have N3 := hide hst.out.2.2.2.1; have Q3 := hide hst.out.2.2.2.2
      obtain ⟨⟨e1, e2⟩, ⟨e3, e4⟩, ⟨e5, e6⟩, ⟨e7, e8⟩, ⟨e9, e10⟩, e11, e12, e13⟩ := ST.out.cells
      clear hst HA zA zB z0 z1
      have ne1 : (w6.heap.size = w6.heap.size + 1) = False := eq_false (by omega)
      have ne2 : (w6.heap.size = nb + 1) = False := eq_false (by omega)
      go_wp2_with fail
      have ST8 := hide (ST.out.setq m3 (.slice a3 l3.length c3)).1
      have HB8 := hide (HB7.out.trans (ST.out.setq m3 (.slice a3 l3.length c3)).2)
      have O8 := hide (O3.out.setNum ST.out.q m3 (.slice a3 l3.length c3))
      obtain ⟨w8, hw8⟩ : ∃ w8, (w7.setCell ⟨w6.heap.size, 0, none⟩ (.bool m3)).setCell ⟨w6.heap.size, 1, none⟩ (.slice a3 l3.length c3) = w8 := ⟨_, rfl⟩
      rw [hw8] at ST8 HB8 O8 ⊢
      clear hw8 e1 e2 e3 e4 e5 e6 e7 e8 e9 e10 e11 e12 e13 ST HB7 O3 ne1 ne2
      refine (HC.out _ w8 HB8.out).mono ?_
      rintro e w9 ⟨m4, v4, l4, rfl, hb9, o4, n4, q4, k4⟩
      obtain ⟨a4, c4, hvf, _, _⟩ := o4.form
      subst hvf
      have ST9 := hide (ST8.out.on hb9)
      have HB9 := hide (HB8.out.trans (hb9.mono HB8.out.size)); have O9 := hide (O8.out.keep hb9)
      have O4 := hide (o4.mono HB8.out.size); have N4 := hide n4
      have Q4 := hide (q4.trans HZ2.out)
      have hk4 : l4.length ≤ 100 := by omega
      obtain ⟨⟨e1, e2⟩, ⟨e3, e4⟩, ⟨e5, e6⟩, ⟨e7, e8⟩, ⟨e9, e10⟩, e11, e12, e13⟩ := ST9.out.cells
      have ne3 : (w6.heap.size + 1 = w6.heap.size) = False := eq_false (by omega)
      clear hb9 o4 n4 q4 k4 ST8 HB8 O8 HC
      go_wp2_with fail
      clear e1 e2 e3 e4 e5 e6 e7 e8 e9 e10 e11 e12 e13 ne3
      have STA := hide (ST9.out.setr m4 (.slice a4 l4.length c4)).1
      have HBA := hide (HB9.out.trans (ST9.out.setr m4 (.slice a4 l4.length c4)).2)
      have O3A := hide (O9.out.setNum ST9.out.r m4 (.slice a4 l4.length c4))
      have O4A := hide (O4.out.setNum ST9.out.r m4 (.slice a4 l4.length c4))
      obtain ⟨wA, hwA⟩ : ∃ wA, (w9.setCell ⟨w6.heap.size + 1, 0, none⟩ (.bool m4)).setCell ⟨w6.heap.size + 1, 1, none⟩ (.slice a4 l4.length c4) = wA := ⟨_, rfl⟩
      rw [hwA] at STA HBA O3A O4A ⊢
      clear hwA ST9 HB9 O9 O4
      have hres := rresult_any m3 (.slice a3 l3.length c3) l3 wA.heap.size wA (.of_own O3A.out) (Nat.le_refl _) N3.out (by omega)
      rw [Q3.out, FQ.out.1, FQ.out.2, pairV, ← HQS.out] at hres
      refine hres.mono ?_
      clear hres
      rintro e wB ⟨rfl, hbB⟩
      have STB := hide (STA.out.on hbB)
      have HBB := hide (HBA.out.trans (hbB.mono HBA.out.size)); have O4B := hide (O4A.out.keep hbB)
      obtain ⟨⟨e1, e2⟩, ⟨e3, e4⟩, ⟨e5, e6⟩, ⟨e7, e8⟩, ⟨e9, e10⟩, e11, e12, e13⟩ := STB.out.cells
      clear hbB STA HBA O3A O4A
      go_wp2_with fail
      have hwr := rwrite_any m4 (.slice a4 l4.length c4) l4 wB.heap.size wB (.of_own O4B.out) (Nat.le_refl _) N4.out (by omega)
      rw [Q4.out, ← HRS.out] at hwr
      refine hwr.mono ?_
      clear hwr e1 e2 e3 e4 e5 e6 e7 e8 e9 e10 e11 e12 e13
      rintro e wC ⟨rfl, hbC⟩
      have HBC := hide (HBZ.out.trans ((HBB.out.trans (hbC.mono HBB.out.size)).mono HBZ.out.size))
      clear hbC
      go_wp2_with fail
      refine bodyPost_ret (results_tmp3' rfl _ _ _) rfl ?_
      exact ⟨rfl, HBC.out⟩
  · have hz : valS (!(m1 == m2)) (lv 1000000 q) = (valI s.data.toList).fdiv (valI t.data.toList) ∧ valS m1 (lv 1000000 r) = (valI s.data.toList).fmod (valI t.data.toList) := by
      by_cases hm : m1 = m2
      · obtain ⟨f1, f2⟩ := FL.out.1 (.inl hm)
        exact ⟨f1, by rw [← hm] at f2; exact f2⟩
      · have hr : r = [] := by
          rcases hrc with h | h
          · exact h.1
          · exact absurd ⟨hm, h.1⟩ had
        obtain ⟨f1, f2⟩ := FL.out.1 (.inr (by rw [hr]; rfl))
        refine ⟨f1, ?_⟩
        rw [← f2, hr]
        cases m1 <;> cases m2 <;> rfl
    have HZ := hide hz; have HAD := hide had
    have HR1 := hide (fun (m : Bool) (W : World) (hb : Below w6.heap.size w6 W) (hm : valS m (lv 1000000 q) = (valI s.data.toList).fdiv (valI t.data.toList)) => show Calls Tryz.prog 144 #[numV m (.slice aq q.length cq)] W (Ret W (.tuple #[.string QS, .int .i64 0])) by
      have h := rresult_any m (.slice aq q.length cq) q W.heap.size W (.of_own (OQ.out.keep hb)) (Nat.le_refl _) NQ.out (by omega)
      rw [hm, FQ.out.1, FQ.out.2, pairV, ← HQS.out] at h
      exact h)
    have HR2 := hide (fun (m : Bool) (W : World) (hb : Below w6.heap.size w6 W) (hm : valS m (lv 1000000 r) = (valI s.data.toList).fmod (valI t.data.toList)) => show Calls Tryz.prog 145 #[numV m (.slice ar r.length cr)] W (Ret W (.string RS)) by
      have h := rwrite_any m (.slice ar r.length cr) r W.heap.size W (.of_own (OR.out.keep hb)) (Nat.le_refl _) NR.out (by omega)
      rw [hm, ← HRS.out] at h
      exact h)
    have HF0 := hide (fun (a b : Bool) => heap2 w6 (bigO a (.slice aq q.length cq)) (bigO b (.slice ar r.length cr)))
    clear hz had FL
    rcases hqc with ⟨hq0, hqi⟩ | ⟨hq0, hqi⟩ <;> rcases hrc with ⟨hr0, hri⟩ | ⟨hr0, hri⟩ <;> cases m1 <;> cases m2
    all_goals first | (exfalso; exact HAD.out ⟨by decide, hr0⟩) | skip
    all_goals
      have HQ0 := hide hq0; have HR0 := hide hr0
      clear hq0 hr0
      go_wp2_with fail
    all_goals
      refine (HR1.out _ _ (HF0.out _ _).2.2.2 (by first | exact HZ.out.1 | (have := HZ.out.1; rw [HQ0.out] at this ⊢; simpa [lv, valS] using this))).mono ?_
      rintro e w7 ⟨rfl, hb7⟩
      have C7 := hide (below_blk hb7 (HF0.out _ _).2.1 (lt_blk (HF0.out _ _).2.1))
      have HB7 := hide ((HF0.out _ _).2.2.2.trans (hb7.mono (HF0.out _ _).2.2.2.size))
      have cz0 := cell_blk C7.out 0
      have cz1 := cell_blk C7.out 1
      clear hb7 zA zB z0 z1
      go_wp2_with fail
      refine (HR2.out _ _ HB7.out (by first | exact HZ.out.2 | (have := HZ.out.2; rw [HR0.out] at this ⊢; simpa [lv, valS] using this))).mono ?_
      rintro e w8 ⟨rfl, hb8⟩
      have HB8 := hide (HBZ.out.trans ((HB7.out.trans (hb8.mono HB7.out.size)).mono HBZ.out.size))
      clear hb8 cz0 cz1
      go_wp2_with fail
      refine bodyPost_ret (results_tmp3' rfl _ _ _) rfl ?_
      exact ⟨rfl, HB8.out⟩
open Go.RowKit Go.KP Go.KI Go.Shelf
attribute [local go_sem] Oper.semAt_some

theorem rfield_limbs (m : Bool) (v : Value) (w : World) : (Instr.field 144 (numV m v) 1).run Tryz.prog w = .ok v w := by kernel_rfl
theorem rGcd_small (s t : ByteArray) (B : Nat) (w : World) (c1 : chkI s.data.toList = 0) (c2 : chkI t.data.toList = 0) (hs : s.size ≤ 17) (ht : t.size ≤ 17) (hB : B ≤ w.heap.size) (hT : P10 B w) :
    Calls Tryz.prog 129 #[.string s, .string t] w (Ret w (pairV (Lib.itoa ((Nat.gcd (valI s.data.toList).natAbs (valI t.data.toList).natAbs : Nat) : Int)) 0)) := by
  have H1 := hide (rboth_any s t (by omega) (by omega) w)
  have hb0 : bothI s.data.toList t.data.toList = 0 := by unfold bothI; rw [if_pos c1, c2]
  rw [hb0] at H1
  have HT := hide hT
  have H2 := hide (fun w => rtwo_yes s t c1 c2 hs ht w)
  have v1 := short_val (n := 17) c1 (by rw [bytes_len]; exact hs) (by omega)
  have v2 := short_val (n := 17) c2 (by rw [bytes_len]; exact ht) (by omega)
  rw [pow17] at v1 v2
  obtain ⟨x, hx⟩ : ∃ x, x = valI s.data.toList := ⟨_, rfl⟩
  obtain ⟨y, hy⟩ : ∃ y, y = valI t.data.toList := ⟨_, rfl⟩
  rw [← hx, ← hy] at H2 ⊢
  rw [← hx] at v1
  rw [← hy] at v2
  obtain ⟨G, hG⟩ : ∃ G, G = Nat.gcd x.natAbs y.natAbs := ⟨_, rfl⟩
  rw [← hG]
  have HG := hide hG
  have V1 := hide v1; have V2 := hide v2
  clear c1 c2 hs ht hT hx hy hb0 hG v1 v2
  go_enter Tryz.func129, Tryz.ntmps129
  go_wp2_with fail
  refine H1.out.mono ?_
  rintro e w1 ⟨rfl, hb1⟩
  have HB1 := hide hb1
  clear hb1 H1
  go_wp2_with fail
  refine (H2.out _).mono ?_
  rintro e w2 ⟨rfl, hb2⟩
  have HB2 := hide (HB1.out.trans (hb2.mono HB1.out.size))
  clear hb2 H2 HB1
  go_wp2_with fail
  go_loopw [7, 8] (fun a b wr => ∃ p q : Int, a = .int .i64 p ∧ b = .int .i64 q ∧ p.natAbs < 100000000000000000 ∧ q.natAbs < 100000000000000000 ∧ Hid (Nat.gcd p.natAbs q.natAbs = G ∧ Below w.heap.size w wr)) (fun _ b _ => (intOf b).natAbs)
  case atStart => exact ⟨x, y, rfl, rfl, V1.out, V2.out, HG.out.symm, HB2.out⟩
  case round =>
    obtain ⟨p, q, rfl, rfl, hp, hq, hin⟩ := hrel
    have IN := hide hin.out
    clear hin
    by_cases hq0 : q = 0
    · subst hq0
      have hqq : ((0 : Int) != 0) = false := rfl
      have hG : (p.natAbs : Nat) = G := by have := IN.out.1; simpa using this
      have GG := hide hG
      clear hq hG
      go_wp2_with fail
      have hmx : max p (-p) = (G : Int) := by have := GG.out; omega
      rw [hmx]
      have hG1 : (G : Int) ≤ 9223372036854775807 := by have := GG.out; omega
      clear hmx hqq
      refine (itoa_any G (by omega) hG1 B _ (HT.out.on IN.out.2 hB)).mono ?_
      rintro e w3 ⟨rfl, hb3⟩
      have HB3 := hide (IN.out.2.trans (hb3.mono IN.out.2.size))
      clear hb3
      go_wp2_with fail
      refine bodyPost_ret (results_tmp2 rfl _ _ _) rfl ?_
      exact ⟨rfl, HB3.out⟩
    · have hqq : (q != 0) = true := by simpa using hq0
      have hyq : (q == 0) = false := by simpa using hq0
      have hr := natAbs_tmod_lt p hq0
      have hgc : Nat.gcd q.natAbs (p.tmod q).natAbs = G := by
        rw [Int.natAbs_tmod, ← IN.out.1, Nat.gcd_comm q.natAbs, ← Nat.gcd_rec, Nat.gcd_comm]
      have GG := hide hgc
      clear hq0 hgc
      go_wp2_with fail
      go_quiet (fail)
      clear hyq hqq
      go_wp2_with fail
      go_roundw
      case rel => exact ⟨q, p.tmod q, rfl, rfl, hq, by omega, GG.out, ⟨IN.out.2.os, IN.out.2.tape, IN.out.2.output, IN.out.2.size, IN.out.2.block⟩⟩
      case measure => simpa [intOf] using hr
theorem rGcd_long (s t : ByteArray) (w : World) (c1 : chkI s.data.toList = 0) (c2 : chkI t.data.toList = 0) (hl : ¬ (s.size ≤ 17 ∧ t.size ≤ 17)) :
    Calls Tryz.prog 129 #[.string s, .string t] w (Ret w (pairV (Lib.itoa ((Nat.gcd (valI s.data.toList).natAbs (valI t.data.toList).natAbs : Nat) : Int)) 0)) := by
  have l1' := (chk_digs c1).2
  have l2' := (chk_digs c2).2
  rw [bytes_len] at l1' l2'
  have H1 := hide (rboth_any s t (by omega) (by omega) w)
  have hb0 : bothI s.data.toList t.data.toList = 0 := by unfold bothI; rw [if_pos c1, c2]
  rw [hb0] at H1
  have H2 := hide (fun w => rtwo_no s t c1 hl w)
  have R1 := hide (fun w => rread_good s c1 w)
  have R2 := hide (fun w => rread_good t c2 w)
  obtain ⟨G, hG⟩ : ∃ G, G = Nat.gcd (valI s.data.toList).natAbs (valI t.data.toList).natAbs := ⟨_, rfl⟩
  rw [← hG]
  have HG := hide hG
  clear c1 c2 hl hb0 l1' l2' hG
  go_enter Tryz.func129, Tryz.ntmps129
  go_wp2_with fail
  refine H1.out.mono ?_
  rintro e w1 ⟨rfl, hb1⟩
  have HB1 := hide hb1
  clear hb1 H1
  go_wp2_with fail
  refine (H2.out _).mono ?_
  rintro e w2 ⟨x0, y0, rfl, hb2⟩
  have HB2 := hide (HB1.out.trans (hb2.mono HB1.out.size))
  clear hb2 H2 HB1
  go_wp2_with fail
  refine (R1.out _).mono ?_
  rintro e w3 ⟨m1, a1, l1, rfl, hb3, o1, n1, q1, k1⟩
  have HB3 := hide (HB2.out.trans (hb3.mono HB2.out.size))
  have O1 := hide o1; have N1 := hide n1; have Q1 := hide q1
  obtain ⟨av1, cv1, hvf, _, _⟩ := o1.form
  subst hvf
  clear hb3 HB2 R1 o1 n1 q1
  have hf1 := fun w => rfield_limbs m1 (.slice av1 l1.length cv1) w
  go_wp2_with fail
  clear hf1
  refine (R2.out _).mono ?_
  rintro e w4 ⟨m2, a2, l2, rfl, hb4, o2, n2, q2, k2⟩
  have HB4 := hide (HB3.out.trans (hb4.mono HB3.out.size))
  have O1' := hide (O1.out.keep hb4)
  have O2 := hide o2; have N2 := hide n2; have Q2 := hide q2
  obtain ⟨av2, cv2, hvf, _, _⟩ := o2.form
  subst hvf
  clear hb4 HB3 R2 o2 n2 q2 O1
  have hf2 := fun w => rfield_limbs m2 (.slice av2 l2.length cv2) w
  have HG2 := hide (show Nat.gcd (lv 1000000 l1) (lv 1000000 l2) = G by
    rw [HG.out, ← Q1.out, ← Q2.out, valS_abs, valS_abs])
  go_wp2_with fail
  clear hf2
  go_loopw [10, 11] (fun p q wr => ∃ (ap : Option Addr) (cp : Nat) (aq : Option Addr) (cq : Nat) (x y : List Nat), p = .slice ap x.length cp ∧ q = .slice aq y.length cq ∧ x.length ≤ 60 ∧ y.length ≤ 60 ∧ Hid (LimbAt wr.heap.size wr (.slice ap x.length cp) x ∧ LimbAt wr.heap.size wr (.slice aq y.length cq) y ∧ Norm 1000000 x ∧ Norm 1000000 y ∧ Nat.gcd (lv 1000000 x) (lv 1000000 y) = G ∧ Below w.heap.size w wr)) (fun _ q wr => lv 1000000 (limbsAt wr q))
  case atStart => exact ⟨av1, cv1, av2, cv2, l1, l2, rfl, rfl, k1, k2, LimbAt.of_own O1'.out, LimbAt.of_own O2.out, N1.out, N2.out, HG2.out, HB4.out⟩
  case round =>
    clear k1 k2
    obtain ⟨ap, cp, aq, cq, x, y, rfl, rfl, hx, hy, hin⟩ := hrel
    have I1 := hide hin.out.1; have I2 := hide hin.out.2.1; have N3 := hide hin.out.2.2.1; have N4 := hide hin.out.2.2.2.1; have GG := hide hin.out.2.2.2.2.1; have HBW := hide hin.out.2.2.2.2.2
    clear hin
    by_cases hy0 : y = []
    · subst hy0
      have hz : valS false (lv 1000000 x) = (G : Int) := by
        have := GG.out
        rw [lv_nil, Nat.gcd_zero_right] at this
        rw [this]
        rfl
      have HR := hide (rwrite_any false (.slice ap x.length cp) x wr.heap.size wr I1.out (Nat.le_refl _) N3.out (by omega))
      rw [hz] at HR
      clear hz
      go_wp2_with fail
      refine HR.out.mono ?_
      rintro e w5 ⟨rfl, hb5⟩
      have HB5 := hide (HBW.out.trans (hb5.mono HBW.out.size))
      clear hb5 HR
      go_wp2_with fail
      refine bodyPost_ret (results_tmp2 rfl _ _ _) rfl ?_
      exact ⟨rfl, HB5.out⟩
    · have hyl : 0 < (y.length : Int) := by
        have := List.length_pos_iff.2 hy0
        omega
      have HD := hide (rdivide_any (.slice ap x.length cp) (.slice aq y.length cq) x y wr.heap.size wr I1.out I2.out (Nat.le_refl _) N3.out.lt N4.out hy0 (by omega) (by omega))
      have hyp : 0 < lv 1000000 y := by
        rcases Nat.eq_zero_or_pos (lv 1000000 y) with h | h
        · exact absurd ((N4.out.zero (by omega)).1 h) hy0
        · exact h
      have HYP := hide hyp
      clear hy0 hyp
      go_wp2_with fail
      refine HD.out.mono ?_
      rintro e w5 ⟨vq, vr, q, r, rfl, hb5, oq, or_, nq, nr, eq, er, lq⟩
      obtain ⟨ar, cr, hvf, _, _⟩ := or_.form
      subst hvf
      have hrlt : lv 1000000 r < lv 1000000 y := by rw [er]; exact Nat.mod_lt _ HYP.out
      have hrl : r.length ≤ 60 := by
        have := norm_le_b (by omega) nr N4.out.lt (Nat.le_of_lt hrlt)
        omega
      have HB5 := hide (HBW.out.trans (hb5.mono HBW.out.size))
      have J2 := hide ((I2.out.below hb5 (Nat.le_refl _)).mono hb5.size)
      have HE := hide (show Nat.gcd (lv 1000000 y) (lv 1000000 r) = G by rw [er, ← GG.out, Nat.gcd_comm (lv 1000000 y), ← Nat.gcd_rec, Nat.gcd_comm])
      have OR := hide (LimbAt.of_own or_); have NR := hide nr; have HLT := hide hrlt
      clear hb5 oq or_ nq nr eq er lq HD hrlt
      go_wp2_with fail
      go_roundw
      case rel => exact ⟨aq, cq, ar, cr, y, r, rfl, rfl, hy, hrl, J2.out, OR.out, N4.out, NR.out, HE.out, HB5.out⟩
      case measure =>
        rw [limbsAt_eq OR.out, limbsAt_eq I2.out]
        exact HLT.out
end Go.Proofs.YtfcjaljaomknjaaGreatDoor
namespace Go.KI
open Go
theorem cut2 (l : List UInt8) : digs (numT l) = ahead 47 (digs l) ∧ (47 ∈ l ↔ 47 ∈ digs l) ∧ denT l = behind 47 (digs l) ∧ ((numT l).head? = some 45 ↔ isNeg l = true) := by
  cases l with
  | nil => exact ⟨rfl, Iff.rfl, rfl, by decide⟩
  | cons c r =>
    by_cases h : c = 45
    · subst h
      have e1 : digs (45 :: r) = r := rfl
      have e2 : numT (45 :: r) = 45 :: numT r := rfl
      have e3 : denT (45 :: r) = denT r := rfl
      rw [e1, e2, e3]
      exact ⟨rfl, by simp, rfl, by simp [isNeg]⟩
    · have e1 : digs (c :: r) = c :: r := by simp [digs, h]
      rw [e1]
      by_cases h47 : c = 47
      · subst h47
        exact ⟨rfl, Iff.rfl, rfl, by simp [isNeg, numT]⟩
      · have e2 : numT (c :: r) = c :: numT r := by
          unfold numT
          rw [List.takeWhile_cons, if_pos (by simpa using h47)]
        refine ⟨?_, Iff.rfl, rfl, ?_⟩
        · rw [e2]
          show (if c = 45 then _ else _) = _
          rw [if_neg h, ← e2]
          rfl
        · rw [e2]
          simp [isNeg]
theorem valI_abs (l : List UInt8) : (valI l).natAbs = dv (digs l) := by
  unfold valI
  split <;> simp
theorem chkQ_cut (l nn dd : List UInt8) (h1 : nn = ahead 47 (digs l)) (h2 : dd = if 47 ∈ digs l then behind 47 (digs l) else []) :
    chkQ l = if ¬ numeral nn ∨ (47 ∈ digs l ∧ (¬ numeral dd ∨ dd = [48] ∨ dd = [49])) ∨ (isNeg l = true ∧ nn = [48]) then 11 else if 300 < nn.length ∨ 300 < dd.length then 4 else if 47 ∈ digs l ∧ Nat.gcd (dv nn) (dv dd) ≠ 1 then 11 else 0 := by
  obtain ⟨c1, c2, c3, c4⟩ := cut2 l
  have hcut : cutOK l ↔ ¬ (¬ numeral nn ∨ (47 ∈ digs l ∧ (¬ numeral dd ∨ dd = [48] ∨ dd = [49])) ∨ (isNeg l = true ∧ nn = [48])) := by
    unfold cutOK
    rw [chkI_11, c1, c2, c3, c4, ← h1]
    by_cases hs : 47 ∈ digs l
    · rw [if_pos hs] at h2
      rw [← h2]
      constructor
      · rintro a (b | b | b)
        · exact a (.inl (.inl b))
        · exact a (.inr b)
        · exact a (.inl (.inr b))
      · rintro a ((b | b) | b)
        · exact a (.inl b)
        · exact a (.inr (.inr b))
        · exact a (.inr (.inl b))
    · constructor
      · rintro a (b | b | b)
        · exact a (.inl (.inl b))
        · exact absurd b.1 hs
        · exact a (.inl (.inr b))
      · rintro a ((b | b) | b)
        · exact a (.inl b)
        · exact a (.inr (.inr b))
        · exact absurd b.1 hs
  by_cases hc : cutOK l
  · rw [if_neg (hcut.1 hc), chkQ_form hc, c1, ← h1, valI_abs, c1, ← h1]
    unfold denS
    by_cases hs : 47 ∈ digs l
    · have hs2 := c2.2 hs
      rw [if_pos hs] at h2
      simp only [hs, hs2, if_true, true_and, c3, ← h2]
    · have hs2 : ¬ 47 ∈ l := fun e => hs (c2.1 e)
      rw [if_neg hs] at h2
      simp [hs, hs2, h2]
  · rw [if_pos (Decidable.not_not.1 fun e => hc (hcut.2 e))]
    unfold chkQ
    rw [if_pos (Decidable.not_not.1 hc)]
theorem numeral_ok {l : List UInt8} (h : numeral l) (hl : l.length ≤ 300) : chkI l = 0 ∧ valI l = ((dv l : Nat) : Int) := by
  have e := numeral_dec h
  obtain ⟨u, hu⟩ : ∃ u, u = dv l := ⟨_, rfl⟩
  rw [← hu] at e ⊢
  rw [e] at hl ⊢
  rw [← Lib.itoa_nonneg]
  exact ⟨chk_fits (fits_nat.2 hl), val_itoa _⟩
end Go.KI
namespace Go.Proofs.YtfcjaljaomknjaaGreatDoor
open Go.RowKit Go.KP Go.KI Go.Shelf
attribute [local go_sem] Oper.semAt_some

theorem rGcd_num (s t : ByteArray) (h1 : numeral s.data.toList) (h2 : numeral t.data.toList) (l1 : s.size ≤ 300) (l2 : t.size ≤ 300) (B : Nat) (w : World) (hB : B ≤ w.heap.size) (hT : P10 B w) :
    Calls Tryz.prog 129 #[.string s, .string t] w (Ret w (.tuple #[.string (strB (Lib.decDigits (Nat.gcd (dv s.data.toList) (dv t.data.toList)))), .int .i64 0])) := by
  obtain ⟨c1, v1⟩ := numeral_ok h1 (by rw [bytes_len]; exact l1)
  obtain ⟨c2, v2⟩ := numeral_ok h2 (by rw [bytes_len]; exact l2)
  have e : pairV (Lib.itoa ((Nat.gcd (valI s.data.toList).natAbs (valI t.data.toList).natAbs : Nat) : Int)) 0 = .tuple #[.string (strB (Lib.decDigits (Nat.gcd (dv s.data.toList) (dv t.data.toList)))), .int .i64 0] := by
    rw [v1, v2, Int.natAbs_natCast, Int.natAbs_natCast, Lib.itoa_nonneg]
  rw [← e]
  by_cases hl : s.size ≤ 17 ∧ t.size ≤ 17
  · exact rGcd_small s t B w c1 c2 hl.1 hl.2 hB hT
  · exact rGcd_long s t w c1 c2 hl
theorem list_test {s : ByteArray} {l m : List UInt8} (h : s.data.toList = l) : (s.toList == m) = decide (l = m) := by
  by_cases e : l = m
  · rw [(lit_eq h).1 e, decide_eq_true e]
  · rw [(lit_eq h).2 e, decide_eq_false e]
theorem r2Check_big (s : ByteArray) (hs : s.size ≤ 9223372036854775807) (B : Nat) (w : World) (hB : B ≤ w.heap.size) (hT : PQ B w) :
    Calls Tryz.prog 80 #[.string s] w (Ret w (.int .i64 (chkQ s.data.toList))) := by
  have HT := hide hT
  clear hT
  obtain ⟨V, hV⟩ : ∃ V, V = chkQ s.data.toList := ⟨_, rfl⟩
  rw [← hV]
  have HS := hide (fun w => r2split_any s hs w)
  obtain ⟨nn, hnn⟩ : ∃ x, x = KI.ahead 47 (digs s.data.toList) := ⟨_, rfl⟩
  obtain ⟨dd, hdd⟩ : ∃ x, x = (if 47 ∈ digs s.data.toList then KI.behind 47 (digs s.data.toList) else []) := ⟨_, rfl⟩
  rw [chkQ_cut _ nn dd hnn hdd] at hV
  have hld : (digs s.data.toList).length ≤ s.size := by
    rw [digs_drop, List.length_drop, bytes_len]
    omega
  have hln : nn.length ≤ 9223372036854775807 := by
    have : nn.length ≤ (digs s.data.toList).length := by
      rw [hnn]
      exact List.Sublist.length_le (List.takeWhile_sublist _)
    omega
  have hlm : dd.length ≤ 9223372036854775807 := by
    have : dd.length ≤ (digs s.data.toList).length := by
      rw [hdd]
      split
      · exact List.Sublist.length_le ((List.drop_sublist _ _).trans (List.dropWhile_sublist _))
      · exact Nat.zero_le _
    omega
  have hd0 : decide (47 ∈ digs s.data.toList) = false → dd = [] := by
    intro h
    rw [hdd, if_neg (by simpa using h)]
  obtain ⟨neg, hneg⟩ : ∃ x, x = isNeg s.data.toList := ⟨_, rfl⟩
  obtain ⟨sl, hsl⟩ : ∃ x, x = decide (47 ∈ digs s.data.toList) := ⟨_, rfl⟩
  unfold splitR at HS
  rw [← hnn, ← hdd, ← hneg, ← hsl] at HS
  rw [← hsl] at hd0
  have hsl2 : 47 ∈ digs s.data.toList ↔ sl = true := by rw [hsl, decide_eq_true_iff]
  simp only [hsl2, ← hneg] at hV
  clear hsl hsl2 hneg hdd hnn hld hs
  obtain ⟨NN, hNN⟩ : ∃ x, x = strB nn := ⟨_, rfl⟩
  obtain ⟨DD, hDD⟩ : ∃ x, x = strB dd := ⟨_, rfl⟩
  have e1 : NN.data.toList = nn := by rw [hNN, strB_list]
  have e2 : DD.data.toList = dd := by rw [hDD, strB_list]
  rw [← hNN, ← hDD] at HS
  have hNs : NN.size = nn.length := by rw [← e1, bytes_len]
  have hDs : DD.size = dd.length := by rw [← e2, bytes_len]
  clear hNN hDD
  rw [← e1] at hV
  rw [← e2] at hV hd0
  rw [bytes_len, bytes_len] at hV
  have hDz : sl = false → DD.size = 0 := by
    intro h
    have := hd0 h
    rw [← bytes_len, this]
    rfl
  have HD1 := hide (fun b hb w => r2digits_any NN (by omega) b hb w)
  have HD2 := hide (fun b hb w => r2digits_any DD (by omega) b hb w)
  have tn := list_test (s := NN) (m := [48]) rfl
  have td := list_test (s := DD) (m := [48]) rfl
  have tu := list_test (s := DD) (m := [49]) rfl
  clear hNs hDs hln hlm e1 e2 hd0
  by_cases n1 : numeral NN.data.toList
  rotate_left
  · rw [if_pos (.inl n1)] at hV
    subst hV
    have HE1 := hide (HD1.out false (by simpa using n1))
    clear n1 hDz tn td tu HD1 HD2
    go_enter Tryz.func80, Tryz.ntmps80
    go_wp2_with fail
    refine (HS.out _).mono ?_
    rintro e w1 ⟨rfl, hb1⟩
    have HB1 := hide hb1
    clear hb1
    go_wp2_with fail
    refine (HE1.out _).mono ?_
    rintro e w2 ⟨rfl, hb2⟩
    have HB2 := hide (HB1.out.trans (hb2.mono HB1.out.size))
    clear hb2
    go_wp2_with fail
    go_ret
    exact ⟨rfl, HB2.out⟩
  have HE1 := hide (HD1.out true (by simpa using n1))
  clear HD1
  cases sl
  · have hz := hDz rfl
    have z1 : (300 < DD.size) = False := eq_false (by omega)
    have z1i : ((300 : Int) < (DD.size : Int)) = False := eq_false (by omega)
    by_cases hz : neg = true ∧ NN.data.toList = [48]
    · rw [if_pos (.inr (.inr hz))] at hV
      subst hV
      obtain ⟨rfl, h48⟩ := hz
      rw [decide_eq_true h48] at tn
      clear n1 hDz td tu HD2 h48 hz
      go_enter Tryz.func80, Tryz.ntmps80
      go_wp2_with fail
      refine (HS.out _).mono ?_
      rintro e w1 ⟨rfl, hb1⟩
      have HB1 := hide hb1
      clear hb1
      go_wp2_with fail
      refine (HE1.out _).mono ?_
      rintro e w2 ⟨rfl, hb2⟩
      have HB2 := hide (HB1.out.trans (hb2.mono HB1.out.size))
      clear hb2
      go_wp2_with fail
      go_ret
      exact ⟨rfl, HB2.out⟩
    rw [if_neg (by rintro (a | a | a); · exact a n1
                   · exact Bool.noConfusion a.1
                   · exact hz a)] at hV
    have hneg : neg = false ∨ (neg = true ∧ (NN.toList == [48]) = false) := by
      cases neg
      · exact .inl rfl
      · refine .inr ⟨rfl, ?_⟩
        rw [tn, decide_eq_false_iff_not]
        exact fun e => hz ⟨rfl, e⟩
    clear tn
    by_cases g1 : 300 < NN.size
    · rw [if_pos (.inl g1)] at hV
      subst hV
      have g1i : (300 : Int) < (NN.size : Int) := by omega
      clear n1 hDz td tu HD2 hz z1 z1i
      rcases hneg with rfl | ⟨rfl, tn⟩
      all_goals
        go_enter Tryz.func80, Tryz.ntmps80
        go_wp2_with fail
        refine (HS.out _).mono ?_
        rintro e w1 ⟨rfl, hb1⟩
        have HB1 := hide hb1
        clear hb1
        go_wp2_with fail
        refine (HE1.out _).mono ?_
        rintro e w2 ⟨rfl, hb2⟩
        have HB2 := hide (HB1.out.trans (hb2.mono HB1.out.size))
        clear hb2
        go_wp2_with fail
        go_ret
        exact ⟨rfl, HB2.out⟩
    · rw [if_neg (by omega), if_neg (by rintro ⟨a, _⟩; cases a)] at hV
      subst hV
      have g1i : ((300 : Int) < (NN.size : Int)) = False := eq_false (by omega)
      have g1n : (300 < NN.size) = False := eq_false g1
      clear n1 hDz td tu HD2 hz g1
      rcases hneg with rfl | ⟨rfl, tn⟩
      all_goals
        go_enter Tryz.func80, Tryz.ntmps80
        go_wp2_with fail
        refine (HS.out _).mono ?_
        rintro e w1 ⟨rfl, hb1⟩
        have HB1 := hide hb1
        clear hb1
        go_wp2_with fail
        refine (HE1.out _).mono ?_
        rintro e w2 ⟨rfl, hb2⟩
        have HB2 := hide (HB1.out.trans (hb2.mono HB1.out.size))
        clear hb2
        go_wp2_with fail
        go_ret
        exact ⟨rfl, HB2.out⟩
  clear hDz
  by_cases n2 : numeral DD.data.toList
  rotate_left
  · rw [if_pos (.inr (.inl ⟨rfl, .inl n2⟩))] at hV
    subst hV
    have HE2 := hide (HD2.out false (by simpa using n2))
    clear n1 n2 tn td tu HD2
    go_enter Tryz.func80, Tryz.ntmps80
    go_wp2_with fail
    refine (HS.out _).mono ?_
    rintro e w1 ⟨rfl, hb1⟩
    have HB1 := hide hb1
    clear hb1
    go_wp2_with fail
    refine (HE1.out _).mono ?_
    rintro e w2 ⟨rfl, hb2⟩
    have HB2 := hide (HB1.out.trans (hb2.mono HB1.out.size))
    clear hb2
    go_wp2_with fail
    refine (HE2.out _).mono ?_
    rintro e w3 ⟨rfl, hb3⟩
    have HB3 := hide (HB2.out.trans (hb3.mono HB2.out.size))
    clear hb3
    go_wp2_with fail
    go_ret
    exact ⟨rfl, HB3.out⟩
  have HE2 := hide (HD2.out true (by simpa using n2))
  clear HD2
  by_cases d0 : DD.data.toList = [48]
  · rw [if_pos (.inr (.inl ⟨rfl, .inr (.inl d0)⟩))] at hV
    subst hV
    rw [decide_eq_true d0] at td
    clear n1 n2 tn tu d0
    go_enter Tryz.func80, Tryz.ntmps80
    go_wp2_with fail
    refine (HS.out _).mono ?_
    rintro e w1 ⟨rfl, hb1⟩
    have HB1 := hide hb1
    clear hb1
    go_wp2_with fail
    refine (HE1.out _).mono ?_
    rintro e w2 ⟨rfl, hb2⟩
    have HB2 := hide (HB1.out.trans (hb2.mono HB1.out.size))
    clear hb2
    go_wp2_with fail
    refine (HE2.out _).mono ?_
    rintro e w3 ⟨rfl, hb3⟩
    have HB3 := hide (HB2.out.trans (hb3.mono HB2.out.size))
    clear hb3
    go_wp2_with fail
    go_ret
    exact ⟨rfl, HB3.out⟩
  rw [decide_eq_false d0] at td
  by_cases d1 : DD.data.toList = [49]
  · rw [if_pos (.inr (.inl ⟨rfl, .inr (.inr d1)⟩))] at hV
    subst hV
    rw [decide_eq_true d1] at tu
    clear n1 n2 tn d0 d1
    go_enter Tryz.func80, Tryz.ntmps80
    go_wp2_with fail
    refine (HS.out _).mono ?_
    rintro e w1 ⟨rfl, hb1⟩
    have HB1 := hide hb1
    clear hb1
    go_wp2_with fail
    refine (HE1.out _).mono ?_
    rintro e w2 ⟨rfl, hb2⟩
    have HB2 := hide (HB1.out.trans (hb2.mono HB1.out.size))
    clear hb2
    go_wp2_with fail
    refine (HE2.out _).mono ?_
    rintro e w3 ⟨rfl, hb3⟩
    have HB3 := hide (HB2.out.trans (hb3.mono HB2.out.size))
    clear hb3
    go_wp2_with fail
    go_ret
    exact ⟨rfl, HB3.out⟩
  rw [decide_eq_false d1] at tu
  by_cases hz : neg = true ∧ NN.data.toList = [48]
  · rw [if_pos (.inr (.inr hz))] at hV
    subst hV
    obtain ⟨rfl, h48⟩ := hz
    rw [decide_eq_true h48] at tn
    clear n1 n2 h48 d0 d1
    go_enter Tryz.func80, Tryz.ntmps80
    go_wp2_with fail
    refine (HS.out _).mono ?_
    rintro e w1 ⟨rfl, hb1⟩
    have HB1 := hide hb1
    clear hb1
    go_wp2_with fail
    refine (HE1.out _).mono ?_
    rintro e w2 ⟨rfl, hb2⟩
    have HB2 := hide (HB1.out.trans (hb2.mono HB1.out.size))
    clear hb2
    go_wp2_with fail
    refine (HE2.out _).mono ?_
    rintro e w3 ⟨rfl, hb3⟩
    have HB3 := hide (HB2.out.trans (hb3.mono HB2.out.size))
    clear hb3
    go_wp2_with fail
    go_ret
    exact ⟨rfl, HB3.out⟩
  rw [if_neg (by rintro (a | a | a); · exact a n1
                 · rcases a.2 with b | b | b
                   · exact b n2
                   · exact d0 b
                   · exact d1 b
                 · exact hz a)] at hV
  have hneg : neg = false ∨ (neg = true ∧ (NN.toList == [48]) = false) := by
    cases neg
    · exact .inl rfl
    · refine .inr ⟨rfl, ?_⟩
      rw [tn, decide_eq_false_iff_not]
      exact fun e => hz ⟨rfl, e⟩
  clear tn hz d0 d1
  by_cases g1 : 300 < NN.size
  · rw [if_pos (.inl g1)] at hV
    subst hV
    have g1i : (300 : Int) < (NN.size : Int) := by omega
    clear n1 n2
    rcases hneg with rfl | ⟨rfl, tn⟩
    all_goals
      go_enter Tryz.func80, Tryz.ntmps80
      go_wp2_with fail
      refine (HS.out _).mono ?_
      rintro e w1 ⟨rfl, hb1⟩
      have HB1 := hide hb1
      clear hb1
      go_wp2_with fail
      refine (HE1.out _).mono ?_
      rintro e w2 ⟨rfl, hb2⟩
      have HB2 := hide (HB1.out.trans (hb2.mono HB1.out.size))
      clear hb2
      go_wp2_with fail
      refine (HE2.out _).mono ?_
      rintro e w3 ⟨rfl, hb3⟩
      have HB3 := hide (HB2.out.trans (hb3.mono HB2.out.size))
      clear hb3
      go_wp2_with fail
      go_ret
      exact ⟨rfl, HB3.out⟩
  have g1i : ((300 : Int) < (NN.size : Int)) = False := eq_false (by omega)
  have g1n : (300 < NN.size) = False := eq_false g1
  by_cases g2 : 300 < DD.size
  · rw [if_pos (.inr g2)] at hV
    subst hV
    have g2i : (300 : Int) < (DD.size : Int) := by omega
    clear n1 n2 g1
    rcases hneg with rfl | ⟨rfl, tn⟩
    all_goals
      go_enter Tryz.func80, Tryz.ntmps80
      go_wp2_with fail
      refine (HS.out _).mono ?_
      rintro e w1 ⟨rfl, hb1⟩
      have HB1 := hide hb1
      clear hb1
      go_wp2_with fail
      refine (HE1.out _).mono ?_
      rintro e w2 ⟨rfl, hb2⟩
      have HB2 := hide (HB1.out.trans (hb2.mono HB1.out.size))
      clear hb2
      go_wp2_with fail
      refine (HE2.out _).mono ?_
      rintro e w3 ⟨rfl, hb3⟩
      have HB3 := hide (HB2.out.trans (hb3.mono HB2.out.size))
      clear hb3
      go_wp2_with fail
      go_ret
      exact ⟨rfl, HB3.out⟩
  have g2i : ((300 : Int) < (DD.size : Int)) = False := eq_false (by omega)
  have g2n : (300 < DD.size) = False := eq_false g2
  rw [if_neg (by omega)] at hV
  by_cases k9 : NN.size ≤ 9 ∧ DD.size ≤ 9
  · obtain ⟨k1, k2⟩ := k9
    have k1i : (NN.size : Int) ≤ 9 := by omega
    have k2i : (DD.size : Int) ≤ 9 := by omega
    have a1 : ∀ c ∈ NN.data.toList, isDg c = true := List.all_eq_true.1 n1.2.1
    have a2 : ∀ c ∈ DD.data.toList, isDg c = true := List.all_eq_true.1 n2.2.1
    have HM1 := hide (fun w => r2small_any NN a1 (by omega) w)
    have HM2 := hide (fun w => r2small_any DD a2 (by omega) w)
    have l1 : dv NN.data.toList < 10 ^ 9 := Nat.lt_of_lt_of_le (dv_lt _ a1) (Nat.pow_le_pow_right (by omega) (by rw [bytes_len]; omega))
    have l2 : dv DD.data.toList < 10 ^ 9 := Nat.lt_of_lt_of_le (dv_lt _ a2) (Nat.pow_le_pow_right (by omega) (by rw [bytes_len]; omega))
    have HG := hide (fun w => r2gcd_any (dv NN.data.toList) (dv DD.data.toList) (by omega) (by omega) w)
    obtain ⟨x, hx⟩ : ∃ x, x = dv NN.data.toList := ⟨_, rfl⟩
    obtain ⟨y, hy⟩ : ∃ x, x = dv DD.data.toList := ⟨_, rfl⟩
    obtain ⟨g, hg⟩ : ∃ g, g = Nat.gcd x y := ⟨_, rfl⟩
    rw [← hx] at HM1 HG hV
    rw [← hy] at HM2 HG hV
    rw [← hg] at HG
    simp only [← hg] at hV
    have hw : (g = 1 ∧ V = 0) ∨ (((g : Int) == 1) = false ∧ V = 11) := by
      by_cases h : g = 1
      · exact .inl ⟨h, by rw [hV, if_neg]; exact fun e => e.2 h⟩
      · refine .inr ⟨?_, by rw [hV, if_pos ⟨trivial, h⟩]⟩
        simp only [beq_eq_false_iff_ne, ne_eq]
        omega
    clear hV hg hx hy l1 l2 a1 a2 n1 n2 g1 g2 k1 k2
    rcases hw with ⟨rfl, rfl⟩ | ⟨hg1, rfl⟩ <;> rcases hneg with rfl | ⟨rfl, tn⟩
    all_goals
      go_enter Tryz.func80, Tryz.ntmps80
      go_wp2_with fail
      refine (HS.out _).mono ?_
      rintro e w1 ⟨rfl, hb1⟩
      have HB1 := hide hb1
      clear hb1
      go_wp2_with fail
      refine (HE1.out _).mono ?_
      rintro e w2 ⟨rfl, hb2⟩
      have HB2 := hide (HB1.out.trans (hb2.mono HB1.out.size))
      clear hb2
      go_wp2_with fail
      refine (HE2.out _).mono ?_
      rintro e w3 ⟨rfl, hb3⟩
      have HB3 := hide (HB2.out.trans (hb3.mono HB2.out.size))
      clear hb3
      go_wp2_with fail
      refine (HM1.out _).mono ?_
      rintro e w4 ⟨rfl, hb4⟩
      have HB4 := hide (HB3.out.trans (hb4.mono HB3.out.size))
      clear hb4
      go_wp2_with fail
      refine (HM2.out _).mono ?_
      rintro e w5 ⟨rfl, hb5⟩
      have HB5 := hide (HB4.out.trans (hb5.mono HB4.out.size))
      clear hb5
      go_wp2_with fail
      refine (HG.out _).mono ?_
      rintro e w6 ⟨rfl, hb6⟩
      have HB6 := hide (HB5.out.trans (hb6.mono HB5.out.size))
      clear hb6
      go_wp2_with fail
      go_ret
      exact ⟨rfl, HB6.out⟩
  · have HG := hide (fun w hB hT => rGcd_num NN DD n1 n2 (by omega) (by omega) B w hB hT)
    obtain ⟨x, hx⟩ : ∃ x, x = dv NN.data.toList := ⟨_, rfl⟩
    obtain ⟨y, hy⟩ : ∃ x, x = dv DD.data.toList := ⟨_, rfl⟩
    obtain ⟨g, hg⟩ : ∃ g, g = Nat.gcd x y := ⟨_, rfl⟩
    rw [← hx, ← hy] at HG hV
    rw [← hg] at HG
    simp only [← hg] at hV
    have hko : ((NN.size : Int) ≤ 9) = False ∨ ((NN.size : Int) ≤ 9 ∧ ((DD.size : Int) ≤ 9) = False) := by
      by_cases a : NN.size ≤ 9
      · exact .inr ⟨by omega, eq_false (by omega)⟩
      · exact .inl (eq_false (by omega))
    obtain ⟨G, hG⟩ : ∃ G, G = strB (Lib.decDigits g) := ⟨_, rfl⟩
    have hGl : G.data.toList = Lib.decDigits g := by rw [hG, strB_list]
    have hw : ((G.toList == [49]) = true ∧ V = 0) ∨ ((G.toList == [49]) = false ∧ V = 11) := by
      rw [list_test hGl]
      by_cases h : g = 1
      · exact .inl ⟨by rw [h, one_dec]; rfl, by rw [hV, if_neg]; exact fun e => e.2 h⟩
      · refine .inr ⟨?_, by rw [hV, if_pos ⟨trivial, h⟩]⟩
        rw [decide_eq_false_iff_not]
        intro e
        rw [← one_dec] at e
        exact h (dec_inj e)
    rw [← hG] at HG
    clear hV hg hx hy hG hGl n1 n2 g1 g2 k9
    rcases hko with k1i | ⟨k1i, k2i⟩ <;> rcases hw with ⟨hg1, rfl⟩ | ⟨hg1, rfl⟩ <;> rcases hneg with rfl | ⟨rfl, tn⟩
    all_goals
      go_enter Tryz.func80, Tryz.ntmps80
      go_wp2_with fail
      refine (HS.out _).mono ?_
      rintro e w1 ⟨rfl, hb1⟩
      have HB1 := hide hb1
      clear hb1
      go_wp2_with fail
      refine (HE1.out _).mono ?_
      rintro e w2 ⟨rfl, hb2⟩
      have HB2 := hide (HB1.out.trans (hb2.mono HB1.out.size))
      clear hb2
      go_wp2_with fail
      refine (HE2.out _).mono ?_
      rintro e w3 ⟨rfl, hb3⟩
      have HB3 := hide (HB2.out.trans (hb3.mono HB2.out.size))
      clear hb3
      go_wp2_with fail
      refine (HG.out _ (Nat.le_trans hB HB3.out.size) (HT.out.p10.on HB3.out hB)).mono ?_
      rintro e w4 ⟨rfl, hb4⟩
      have HB4 := hide (HB3.out.trans (hb4.mono HB3.out.size))
      clear hb4
      go_wp2_with fail
      go_ret
      exact ⟨rfl, HB4.out⟩
theorem r2Check_any (s : ByteArray) (hs : s.size ≤ 1000000) (B : Nat) (w : World) (hB : B ≤ w.heap.size) (hT : PQ B w) :
    Calls Tryz.prog 80 #[.string s] w (Ret w (.int .i64 (chkQ s.data.toList))) := r2Check_big s (by omega) B w hB hT
open Go.RowKit Go.KP Go.KI Go.Shelf
attribute [local go_sem] Oper.semAt_some

def intsV (l : List UInt8) : Value :=
  if 9 < (KI.ahead 47 (digs l)).length ∨ 9 < (if 47 ∈ digs l then KI.behind 47 (digs l) else []).length then .tuple #[.int .i64 0, .int .i64 0, .bool false]
  else .tuple #[.int .i64 (if isNeg l then -(dv (KI.ahead 47 (digs l)) : Int) else (dv (KI.ahead 47 (digs l)) : Int)), .int .i64 (if 47 ∈ digs l then (dv (KI.behind 47 (digs l)) : Int) else 1), .bool true]

theorem ret3v {f : Func} {R : Ending → World → Prop} {a : Act} {W : World} {t0 t1 t2 : Tmp} {v0 v1 v2 : Value} (hf : f.results = #[.tmp t0, .tmp t1, .tmp t2]) (h0 : a.tmps[t0]? = some v0) (h1 : a.tmps[t1]? = some v1) (h2 : a.tmps[t2]? = some v2) (hd : a.defers = []) (hR : R (.returned (.tuple #[v0, v1, v2])) W) :
    bodyPost Tryz.prog f R .ret a W := by
  refine bodyPost_ret ?_ hd hR
  simp [results, hf, go_sem, h0, h1, h2]

theorem r2ints_any (s : ByteArray) (hs : s.size ≤ 1000000) (hn : ∀ c ∈ KI.ahead 47 (digs s.data.toList), isDg c = true) (hd : 47 ∈ digs s.data.toList → ∀ c ∈ KI.behind 47 (digs s.data.toList), isDg c = true) (w : World) :
    Calls Tryz.prog 89 #[.string s] w (Ret w (intsV s.data.toList)) := by
  obtain ⟨V, hV⟩ : ∃ V, V = intsV s.data.toList := ⟨_, rfl⟩
  rw [← hV]
  have HS := hide (fun w => r2split_any s (by omega) w)
  obtain ⟨nn, hnn⟩ : ∃ x, x = KI.ahead 47 (digs s.data.toList) := ⟨_, rfl⟩
  obtain ⟨dd, hdd⟩ : ∃ x, x = (if 47 ∈ digs s.data.toList then KI.behind 47 (digs s.data.toList) else []) := ⟨_, rfl⟩
  obtain ⟨neg, hneg⟩ : ∃ x, x = isNeg s.data.toList := ⟨_, rfl⟩
  obtain ⟨sl, hsl⟩ : ∃ x, x = decide (47 ∈ digs s.data.toList) := ⟨_, rfl⟩
  have hd2 : ∀ c ∈ dd, isDg c = true := by
    rw [hdd]
    intro c hc
    split at hc
    · next h => exact hd h c hc
    · cases hc
  have hV2 : V = if 9 < nn.length ∨ 9 < dd.length then .tuple #[.int .i64 0, .int .i64 0, .bool false]
      else .tuple #[.int .i64 (if neg then -(dv nn : Int) else (dv nn : Int)), .int .i64 (if sl then (dv dd : Int) else 1), .bool true] := by
    rw [hV, intsV, ← hnn, ← hdd, ← hneg]
    split
    · rfl
    · by_cases h : 47 ∈ digs s.data.toList
      · rw [hsl, hdd]
        simp [h]
      · rw [hsl, hdd]
        simp [h]
  unfold splitR at HS
  rw [← hnn, ← hdd, ← hneg, ← hsl] at HS
  rw [← hnn] at hn
  clear hsl hneg hdd hnn hd hV hs
  obtain ⟨NN, hNN⟩ : ∃ x, x = strB nn := ⟨_, rfl⟩
  obtain ⟨DD, hDD⟩ : ∃ x, x = strB dd := ⟨_, rfl⟩
  have hNs : NN.size = nn.length := by rw [hNN, strB_size]
  have hDs : DD.size = dd.length := by rw [hDD, strB_size]
  have HM := hide (fun (h : NN.size ≤ 18) (w : World) => r2small_any NN (by rw [hNN, strB_list]; exact hn) h w)
  have HM2 := hide (fun (h : DD.size ≤ 18) (w : World) => r2small_any DD (by rw [hDD, strB_list]; exact hd2) h w)
  have e1 : NN.data.toList = nn := by rw [hNN, strB_list]
  have e2 : DD.data.toList = dd := by rw [hDD, strB_list]
  rw [e1] at HM
  rw [e2] at HM2
  rw [← hNN, ← hDD] at HS
  rw [← hNs, ← hDs] at hV2
  have hm1 : NN.size ≤ 9 → dv nn < 10 ^ 9 := by
    intro h
    exact Nat.lt_of_lt_of_le (dv_lt _ hn) (Nat.pow_le_pow_right (by omega) (by omega))
  have hm2 : DD.size ≤ 9 → dv dd < 10 ^ 9 := by
    intro h
    exact Nat.lt_of_lt_of_le (dv_lt _ hd2) (Nat.pow_le_pow_right (by omega) (by omega))
  clear hNN hDD hNs hDs e1 e2 hn hd2
  obtain ⟨x, hx⟩ : ∃ x, x = dv nn := ⟨_, rfl⟩
  obtain ⟨y, hy⟩ : ∃ x, x = dv dd := ⟨_, rfl⟩
  rw [← hx] at hm1 hV2 HM
  rw [← hy] at hm2 hV2 HM2
  clear hx hy
  by_cases g1 : 9 < NN.size
  · rw [if_pos (.inl g1)] at hV2
    have HV := hide hV2
    have g1i : (9 : Int) < (NN.size : Int) := by omega
    clear hV2 hm1 hm2 HM HM2 g1
    go_enter Tryz.func89, Tryz.ntmps89
    go_wp2_with fail
    refine (HS.out _).mono ?_
    rintro e w1 ⟨rfl, hb1⟩
    have HB1 := hide hb1
    clear hb1
    go_wp2_with fail
    refine ret3v rfl rfl rfl rfl rfl ?_
    exact ⟨by rw [HV.out]; rfl, HB1.out⟩
  have g1i : (NN.size : Int) ≤ 9 := by omega
  by_cases g2 : 9 < DD.size
  · rw [if_pos (.inr g2)] at hV2
    have HV := hide hV2
    have g2i : (9 : Int) < (DD.size : Int) := by omega
    clear hV2 hm1 hm2 HM HM2 g1 g2
    go_enter Tryz.func89, Tryz.ntmps89
    go_wp2_with fail
    refine (HS.out _).mono ?_
    rintro e w1 ⟨rfl, hb1⟩
    have HB1 := hide hb1
    clear hb1
    go_wp2_with fail
    refine ret3v rfl rfl rfl rfl rfl ?_
    exact ⟨by rw [HV.out]; rfl, HB1.out⟩
  have g2i : (DD.size : Int) ≤ 9 := by omega
  rw [if_neg (by omega)] at hV2
  have HM3 := hide (HM.out (by omega))
  have HM4 := hide (HM2.out (by omega))
  have hx1 : (x : Int) < 1000000000 := by have := hm1 (by omega); omega
  have hy1 : (y : Int) < 1000000000 := by have := hm2 (by omega); omega
  have hx0 : (0 : Int) ≤ (x : Int) := by omega
  have HV := hide hV2
  clear hV2 hm1 hm2 HM HM2
  have f1 : ((9 : Int) < (NN.size : Int)) = False := eq_false (by omega)
  have f2 : ((9 : Int) < (DD.size : Int)) = False := eq_false (by omega)
  have f3 : (9 < NN.size) = False := eq_false g1
  have f4 : (9 < DD.size) = False := eq_false g2
  clear g1 g2 g1i g2i
  cases sl <;> cases neg
  · go_enter Tryz.func89, Tryz.ntmps89
    go_wp2_with fail
    refine (HS.out _).mono ?_
    rintro e w1 ⟨rfl, hb1⟩
    have HB1 := hide hb1
    clear hb1
    go_wp2_with fail
    refine (HM3.out _).mono ?_
    rintro e w2 ⟨rfl, hb2⟩
    have HB2 := hide (HB1.out.trans (hb2.mono HB1.out.size))
    clear hb2
    go_wp2_with fail
    refine ret3v rfl rfl rfl rfl rfl ?_
    exact ⟨by rw [HV.out]; rfl, HB2.out⟩
  · go_enter Tryz.func89, Tryz.ntmps89
    go_wp2_with fail
    refine (HS.out _).mono ?_
    rintro e w1 ⟨rfl, hb1⟩
    have HB1 := hide hb1
    clear hb1
    go_wp2_with fail
    refine (HM3.out _).mono ?_
    rintro e w2 ⟨rfl, hb2⟩
    have HB2 := hide (HB1.out.trans (hb2.mono HB1.out.size))
    clear hb2
    go_wp2_with fail
    refine ret3v rfl rfl rfl rfl rfl ?_
    exact ⟨by rw [HV.out]; rfl, HB2.out⟩
  all_goals
    go_enter Tryz.func89, Tryz.ntmps89
    go_wp2_with fail
    refine (HS.out _).mono ?_
    rintro e w1 ⟨rfl, hb1⟩
    have HB1 := hide hb1
    clear hb1
    go_wp2_with fail
    refine (HM3.out _).mono ?_
    rintro e w2 ⟨rfl, hb2⟩
    have HB2 := hide (HB1.out.trans (hb2.mono HB1.out.size))
    clear hb2
    go_wp2_with fail
    refine (HM4.out _).mono ?_
    rintro e w3 ⟨rfl, hb3⟩
    have HB3 := hide (HB2.out.trans (hb3.mono HB2.out.size))
    clear hb3
    go_wp2_with fail
    refine ret3v rfl rfl rfl rfl rfl ?_
    exact ⟨by rw [HV.out]; rfl, HB3.out⟩
open Go.RowKit Go.KP Go.KI Go.Shelf
attribute [local go_sem] Oper.semAt_some

def cutV (l : List UInt8) : Value := if cutOK l then .tuple #[partsV (strB (numT l)) (strB (denS l)), .bool true] else .tuple #[partsV ⟨#[]⟩ ⟨#[]⟩, .bool false]
theorem cut_ways1 (l : List UInt8) (O : ByteArray) (hO : O.data.toList = digs (numT l)) (k : Nat) (hk : k = digN (digs (numT l))) (neg : Bool) (hneg : neg = decide ((numT l).head? = some 45)) :
    ((((k : Int) == 0) = true ∧ ¬ cutOK l) ∨ (((k : Int) == 0) = false ∧ (k : Int) < (O.size : Int) ∧ ¬ cutOK l) ∨
      (((k : Int) == 0) = false ∧ ((k : Int) < (O.size : Int)) = False ∧ neg = true ∧ (O.toList == [48]) = true ∧ ¬ cutOK l)) ∨
    ((((k : Int) == 0) = false ∧ ((k : Int) < (O.size : Int)) = False ∧ neg = true ∧ (O.toList == [48]) = false ∧ chkI (numT l) ≠ 11) ∨
      (((k : Int) == 0) = false ∧ ((k : Int) < (O.size : Int)) = False ∧ neg = false ∧ chkI (numT l) ≠ 11)) := by
  have h11 := chkI_11 (numT l)
  have hdn := digN_numeral (digs (numT l))
  have hno : chkI (numT l) = 11 → ¬ cutOK l := fun h hc => hc (.inl h)
  have hsz : O.size = (digs (numT l)).length := by rw [← bytes_len, hO]
  rw [← hk] at hdn
  obtain ⟨z1, z2⟩ := beq0 (k := k)
  obtain ⟨t1, t2⟩ := lit_eq (m := [48]) hO
  by_cases h0 : k = 0
  · exact .inl (.inl ⟨z1 h0, hno (h11.2 (.inl (hdn.1 (.inl h0))))⟩)
  · by_cases hl : k < (digs (numT l)).length
    · exact .inl (.inr (.inl ⟨z2 h0, by omega, hno (h11.2 (.inl (hdn.1 (.inr hl))))⟩))
    · have hf : ((k : Int) < (O.size : Int)) = False := eq_false (by omega)
      have hnum : ¬ ¬ numeral (digs (numT l)) := fun e => by
        rcases hdn.2 e with e1 | e1
        · exact h0 e1
        · exact hl e1
      by_cases hn : (numT l).head? = some 45
      · have hn1 : neg = true := by rw [hneg, hn]; rfl
        by_cases h48 : digs (numT l) = [48]
        · exact .inl (.inr (.inr ⟨z2 h0, hf, hn1, t1 h48, hno (h11.2 (.inr ⟨hn, h48⟩))⟩))
        · refine .inr (.inl ⟨z2 h0, hf, hn1, t2 h48, fun e => ?_⟩)
          rcases h11.1 e with e1 | e1
          · exact hnum e1
          · exact h48 e1.2
      · refine .inr (.inr ⟨z2 h0, hf, by rw [hneg]; simpa using hn, fun e => ?_⟩)
        rcases h11.1 e with e1 | e1
        · exact hnum e1
        · exact hn e1.1
theorem cut_ways2 (l : List UInt8) (h47 : 47 ∈ l) (hc : chkI (numT l) ≠ 11) (D : ByteArray) (hD : D.data.toList = denT l) (k : Nat) (hk : k = digN (denT l)) :
    ((((k : Int) == 0) = true ∧ ¬ cutOK l) ∨ (((k : Int) == 0) = false ∧ (k : Int) < (D.size : Int) ∧ ¬ cutOK l) ∨
      (((k : Int) == 0) = false ∧ ((k : Int) < (D.size : Int)) = False ∧ (D.toList == [48]) = true ∧ ¬ cutOK l) ∨
      (((k : Int) == 0) = false ∧ ((k : Int) < (D.size : Int)) = False ∧ (D.toList == [48]) = false ∧ (D.toList == [49]) = true ∧ ¬ cutOK l)) ∨
      (((k : Int) == 0) = false ∧ ((k : Int) < (D.size : Int)) = False ∧ (D.toList == [48]) = false ∧ (D.toList == [49]) = false ∧ cutOK l) := by
  have hdn := digN_numeral (denT l)
  have hsz : D.size = (denT l).length := by rw [← bytes_len, hD]
  rw [← hk] at hdn
  obtain ⟨z1, z2⟩ := beq0 (k := k)
  obtain ⟨t1, t2⟩ := lit_eq (m := [48]) hD
  obtain ⟨u1, u2⟩ := lit_eq (m := [49]) hD
  by_cases h0 : k = 0
  · exact .inl (.inl ⟨z1 h0, fun h => h (.inr ⟨h47, .inl (hdn.1 (.inl h0))⟩)⟩)
  · by_cases hl : k < (denT l).length
    · exact .inl (.inr (.inl ⟨z2 h0, by omega, fun h => h (.inr ⟨h47, .inl (hdn.1 (.inr hl))⟩)⟩))
    · have hf : ((k : Int) < (D.size : Int)) = False := eq_false (by omega)
      have hnum : ¬ ¬ numeral (denT l) := fun e => by
        rcases hdn.2 e with e1 | e1
        · exact h0 e1
        · exact hl e1
      by_cases h48 : denT l = [48]
      · exact .inl (.inr (.inr (.inl ⟨z2 h0, hf, t1 h48, fun h => h (.inr ⟨h47, .inr (.inl h48)⟩)⟩)))
      · by_cases h49 : denT l = [49]
        · exact .inl (.inr (.inr (.inr ⟨z2 h0, hf, t2 h48, u1 h49, fun h => h (.inr ⟨h47, .inr (.inr h49)⟩)⟩)))
        · refine .inr ⟨z2 h0, hf, t2 h48, u2 h49, ?_⟩
          rintro (h | ⟨_, h | h | h⟩)
          · exact hc h
          · exact hnum h
          · exact h48 h
          · exact h49 h
theorem qcut_any (s : ByteArray) (hs : s.size ≤ 1000000) (B : Nat) (w : World) (hB : B ≤ w.heap.size) (hT : PQ B w) :
    Calls Tryz.prog 199 #[.string s] w (Ret w (cutV s.data.toList)) := by
  have H0 := hide (heap1 w (partsO ⟨#[]⟩ ⟨#[]⟩))
  have hTT := hide (hT.on H0.out.2.2 hB)
  have nle : (numT s.data.toList).length ≤ s.size := by
    rw [← bytes_len]
    exact List.Sublist.length_le (List.takeWhile_sublist _)
  have dle : (denT s.data.toList).length ≤ s.size := by
    have h1 : (denT s.data.toList).length ≤ (s.data.toList.dropWhile (fun c => c != 47)).length := by
      unfold denT
      rw [List.length_drop]
      omega
    have h2 := List.Sublist.length_le (List.dropWhile_sublist (l := s.data.toList) (fun c => c != 47))
    rw [bytes_len] at h2
    omega
  have ole : (digs (numT s.data.toList)).length ≤ s.size := by rw [digs_drop, List.length_drop]; omega
  have HC := hide (scut_any 47 s hs B _ hTT.out)
  obtain ⟨n, hn⟩ : ∃ n, n = strB (numT s.data.toList) := ⟨_, rfl⟩
  have HC : Hid (Calls Tryz.prog 46 #[.string s, .string ⟨#[47]⟩] (w.alloc (partsO ⟨#[]⟩ ⟨#[]⟩)) (Ret (w.alloc (partsO ⟨#[]⟩ ⟨#[]⟩)) (.tuple #[.string n, .string (strB (if 47 ∈ s.data.toList then denT s.data.toList else [])), .bool (decide (47 ∈ s.data.toList))]))) := hide (by rw [hn]; exact HC.out)
  have HP := hide (fun w => cutPrefix_any n w)
  have hnl : n.data.toList = numT s.data.toList := by rw [hn, strB_list]
  rw [hnl] at HP
  obtain ⟨O, hO⟩ : ∃ O, O = strB (digs (numT s.data.toList)) := ⟨_, rfl⟩
  rw [← hO] at HP
  have hOl : O.data.toList = digs (numT s.data.toList) := by rw [hO, strB_list]
  have hOs : O.size ≤ 1000000 := by rw [← bytes_len, hOl]; omega
  obtain ⟨neg, hneg⟩ : ∃ neg, neg = decide ((numT s.data.toList).head? = some 45) := ⟨_, rfl⟩
  rw [← hneg] at HP
  obtain ⟨k, hk⟩ : ∃ k, k = digN (digs (numT s.data.toList)) := ⟨_, rfl⟩
  have HD := hide (fun w => qdigits_any O hOs w)
  rw [hOl, ← hk] at HD
  have hks : k ≤ 1000000 := by have := digN_le (digs (numT s.data.toList)); omega
  have hw1 := cut_ways1 s.data.toList O hOl k hk neg hneg
  have HNE := hide hn
  have HF := hide (fun (h : ¬ cutOK s.data.toList) => show cutV s.data.toList = .tuple #[partsV ⟨#[]⟩ ⟨#[]⟩, .bool false] from if_neg h)
  have HT := hide (fun (h : cutOK s.data.toList) => show cutV s.data.toList = .tuple #[partsV n (strB (denS s.data.toList)), .bool true] by rw [hn]; exact if_pos h)
  obtain ⟨V, hV⟩ : ∃ V, V = cutV s.data.toList := ⟨_, rfl⟩
  rw [← hV] at HF HT ⊢
  clear hn hnl hO hOl hneg hk hV hT
  have hw2 : (¬ 47 ∈ s.data.toList) ∨ 47 ∈ s.data.toList := by
    by_cases h : 47 ∈ s.data.toList
    · exact .inr h
    · exact .inl h
  rcases hw1 with hbad | hgood
  · obtain ⟨is, his⟩ : ∃ is, is = decide (47 ∈ s.data.toList) := ⟨_, rfl⟩
    obtain ⟨dd, hdd⟩ : ∃ dd, dd = strB (if 47 ∈ s.data.toList then denT s.data.toList else []) := ⟨_, rfl⟩
    rw [← his, ← hdd] at HC
    clear his hdd hw2
    rcases hbad with ⟨h1, h2⟩ | ⟨h1, h3, h2⟩ | ⟨h1, h3, h4, h5, h2⟩
    case' inr.inr => subst h4
    all_goals
      have HE := hide (HF.out h2)
      clear h2
      go_enter Tryz.func199, Tryz.ntmps199
      go_wp2_with fail
      refine HC.out.mono ?_
      rintro e w1 ⟨rfl, hb1⟩
      have G1 := hide (below_blk hb1 H0.out.1 (lt_blk H0.out.1))
      have HB1 := hide (H0.out.2.2.trans (hb1.mono H0.out.2.2.size))
      clear hb1
      go_wp2_with fail
      refine (HP.out _).mono ?_
      rintro e w1' ⟨rfl, rfl⟩
      go_wp2_with fail
      refine (HD.out _).mono ?_
      rintro e w2 ⟨rfl, hb2⟩
      have G2 := hide (below_blk hb2 G1.out (lt_blk G1.out))
      have HB2 := hide (HB1.out.trans (hb2.mono HB1.out.size))
      have f0 := froz_blk G2.out 0
      have f1 := froz_blk G2.out 1
      have c0 := cell_blk G2.out 0
      have c1 := cell_blk G2.out 1
      clear hb2
      go_wp2_with fail
      refine exit_cutSet G2.out (by rfl) (by rfl) (by rfl) (fun hb => ?_)
      rw [HE.out]
      exact ⟨rfl, HB2.out.trans hb⟩
  · rcases hw2 with h47 | h47
    · have h47d : decide (47 ∈ s.data.toList) = false := by simpa using h47
      have HDS := hide (show strB (denS s.data.toList) = ⟨#[49]⟩ by unfold denS; rw [if_neg h47]; rfl)
      have hok : chkI (numT s.data.toList) ≠ 11 → cutOK s.data.toList := fun h => by
        rintro (h1 | h1)
        · exact h h1
        · exact h47 h1.1
      rw [h47d] at HC
      obtain ⟨dd, hdd⟩ : ∃ dd, dd = strB (if 47 ∈ s.data.toList then denT s.data.toList else []) := ⟨_, rfl⟩
      rw [← hdd] at HC
      clear hdd h47 h47d
      rcases hgood with ⟨h1, h3, h4, h5, h2⟩ | ⟨h1, h3, h4, h2⟩
      all_goals
        subst h4
        have HE := hide (HT.out (hok h2))
        clear h2 hok
        go_enter Tryz.func199, Tryz.ntmps199
        go_wp2_with fail
        refine HC.out.mono ?_
        rintro e w1 ⟨rfl, hb1⟩
        have G1 := hide (below_blk hb1 H0.out.1 (lt_blk H0.out.1))
        have HB1 := hide (H0.out.2.2.trans (hb1.mono H0.out.2.2.size))
        clear hb1
        go_wp2_with fail
        refine (HP.out _).mono ?_
        rintro e w1' ⟨rfl, rfl⟩
        go_wp2_with fail
        refine (HD.out _).mono ?_
        rintro e w2 ⟨rfl, hb2⟩
        have G2 := hide (below_blk hb2 G1.out (lt_blk G1.out))
        have HB2 := hide (HB1.out.trans (hb2.mono HB1.out.size))
        have f0 := froz_blk G2.out 0
        have f1 := froz_blk G2.out 1
        have c0 := cell_blk G2.out 0
        have c1 := cell_blk G2.out 1
        clear hb2
        go_wp2_with fail
        refine exit_cutSet G2.out (by rfl) (by rfl) (by rfl) (fun hb => ?_)
        rw [HE.out, HDS.out]
        exact ⟨rfl, HB2.out.trans hb⟩
    · have h47d : decide (47 ∈ s.data.toList) = true := by simpa using h47
      obtain ⟨D, hD⟩ : ∃ D, D = strB (denT s.data.toList) := ⟨_, rfl⟩
      have hDl : D.data.toList = denT s.data.toList := by rw [hD, strB_list]
      have hDs : D.size ≤ 1000000 := by rw [← bytes_len, hDl]; omega
      rw [h47d, if_pos h47, ← hD] at HC
      obtain ⟨k2, hk2⟩ : ∃ k, k = digN (denT s.data.toList) := ⟨_, rfl⟩
      have HD2 := hide (fun w => qdigits_any D hDs w)
      rw [hDl, ← hk2] at HD2
      have hks2 : k2 ≤ 1000000 := by have := digN_le (denT s.data.toList); omega
      have HDS := hide (show strB (denS s.data.toList) = D by unfold denS; rw [if_pos h47, hD])
      have hw3 := fun hc => cut_ways2 s.data.toList h47 hc D hDl k2 hk2
      clear hD hDl h47 h47d hk2
      rcases hgood with ⟨h1, h3, h4, h5, h2⟩ | ⟨h1, h3, h4, h2⟩
      all_goals
        subst h4
        rcases hw3 h2 with (⟨g1, g2⟩ | ⟨g1, g3, g2⟩ | ⟨g1, g3, g4, g2⟩ | ⟨g1, g3, g4, g5, g2⟩) | ⟨g1, g3, g4, g5, g2⟩
      all_goals
        have HG := hide g2
        clear g2 hw3
        go_enter Tryz.func199, Tryz.ntmps199
        go_wp2_with fail
        refine HC.out.mono ?_
        rintro e w1 ⟨rfl, hb1⟩
        have G1 := hide (below_blk hb1 H0.out.1 (lt_blk H0.out.1))
        have HB1 := hide (H0.out.2.2.trans (hb1.mono H0.out.2.2.size))
        clear hb1
        go_wp2_with fail
        refine (HP.out _).mono ?_
        rintro e w1' ⟨rfl, rfl⟩
        go_wp2_with fail
        refine (HD.out _).mono ?_
        rintro e w2 ⟨rfl, hb2⟩
        have G2 := hide (below_blk hb2 G1.out (lt_blk G1.out))
        have HB2 := hide (HB1.out.trans (hb2.mono HB1.out.size))
        have f0 := froz_blk G2.out 0
        have f1 := froz_blk G2.out 1
        have c0 := cell_blk G2.out 0
        have c1 := cell_blk G2.out 1
        clear hb2
        go_wp2_with fail
        clear c0 c1 f0 f1
        refine (HD2.out _).mono ?_
        rintro e w3 ⟨rfl, hb3⟩
        have G3 := hide (below_blk hb3 G2.out (lt_blk G2.out))
        have HB3 := hide (HB2.out.trans (hb3.mono HB2.out.size))
        have f0 := froz_blk G3.out 0
        have f1 := froz_blk G3.out 1
        have c0 := cell_blk G3.out 0
        have c1 := cell_blk G3.out 1
        clear hb3
        go_wp2_with fail
        refine exit_cutSet G3.out (by rfl) (by rfl) (by rfl) (fun hb => ?_)
        first
          | (rw [HF.out HG.out]
             exact ⟨rfl, HB3.out.trans hb⟩)
          | (rw [HT.out HG.out, HDS.out]
             exact ⟨rfl, HB3.out.trans hb⟩)
open Go.RowKit Go.KP Go.KI Go.Shelf
attribute [local go_sem] Oper.semAt_some

theorem exit_natOf {R : Ending → World → Prop} {a : Act} {W : World} {b : Nat} {n d : Int} {ok : Bool} (hb : W.heap[b]? = some (natO n d)) (h2 : a.tmps[2]? = some (.pointer (some ⟨b, 0, none⟩))) (h3 : a.tmps[3]? = some (.bool ok)) (hd : a.defers = []) (hR : R (.returned (.tuple #[natV n d, .bool ok])) W) :
    bodyPost Tryz.prog Tryz.f193 R .ret a W := by
  have hcell := fun o => cell_blk hb o
  refine bodyPost_ret ?_ hd hR
  simp [results, go_sem, hcell, h2, h3]
theorem exit_natSet {R : Ending → World → Prop} {a : Act} {W : World} {b : Nat} {n d u0 u1 : Int} {ok : Bool} (hb : W.heap[b]? = some (natO u0 u1)) (h2 : a.tmps[2]? = some (.pointer (some ⟨b, 0, none⟩))) (h3 : a.tmps[3]? = some (.bool ok)) (hd : a.defers = [])
    (hR : Below b W ((W.setCell ⟨b, 0, none⟩ (.int .i64 n)).setCell ⟨b, 1, none⟩ (.int .i64 d)) → R (.returned (.tuple #[natV n d, .bool ok])) ((W.setCell ⟨b, 0, none⟩ (.int .i64 n)).setCell ⟨b, 1, none⟩ (.int .i64 d))) :
    bodyPost Tryz.prog Tryz.f193 R .ret a ((W.setCell ⟨b, 0, none⟩ (.int .i64 n)).setCell ⟨b, 1, none⟩ (.int .i64 d)) := by
  obtain ⟨s1, s2⟩ := set2 hb (.int .i64 n) (.int .i64 d)
  exact exit_natOf s1 h2 h3 hd (hR s2)
theorem exit_natSetA {R : Ending → World → Prop} {a : Act} {W : World} {b : Nat} {n d u0 u1 : Int} {ok : Bool} {X : Obj} (hb : W.heap[b]? = some (natO u0 u1)) (h2 : a.tmps[2]? = some (.pointer (some ⟨b, 0, none⟩))) (h3 : a.tmps[3]? = some (.bool ok)) (hd : a.defers = [])
    (hR : Below b W (((W.setCell ⟨b, 0, none⟩ (.int .i64 n)).setCell ⟨b, 1, none⟩ (.int .i64 d)).alloc X) → R (.returned (.tuple #[natV n d, .bool ok])) (((W.setCell ⟨b, 0, none⟩ (.int .i64 n)).setCell ⟨b, 1, none⟩ (.int .i64 d)).alloc X)) :
    bodyPost Tryz.prog Tryz.f193 R .ret a (((W.setCell ⟨b, 0, none⟩ (.int .i64 n)).setCell ⟨b, 1, none⟩ (.int .i64 d)).alloc X) := by
  obtain ⟨s1, s2⟩ := set2 hb (.int .i64 n) (.int .i64 d)
  have hl := lt_blk s1
  exact exit_natOf ((Below.heap_alloc _ _ _ hl).trans s1) h2 h3 hd (hR (s2.alloc (by have := s2.size; have := lt_blk hb; omega) _))
theorem blk_other {w : World} {b c o : Nat} {x : Obj} (h : w.heap[b]? = some x) (hne : ¬ c = b) (v : Value) : (w.setCell ⟨c, o, none⟩ v).heap[b]? = some x := by
  simp only [World.setCell]
  rw [Array.getElem?_modify, if_neg hne]
  exact h
theorem nat_set1 {w : World} {c : Nat} {n d u : Int} (h : w.heap[c]? = some (natO n u)) : (w.setCell ⟨c, 1, none⟩ (.int .i64 d)).heap[c]? = some (natO n d) ∧ Below c w (w.setCell ⟨c, 1, none⟩ (.int .i64 d)) := by
  refine ⟨?_, (Below.refl c w).setCell (p := ⟨c, 1, none⟩) (Nat.le_refl _) _⟩
  simp only [World.setCell, Array.getElem?_modify, h]
  simp
theorem nat_set0 {w : World} {c : Nat} {n d u : Int} (h : w.heap[c]? = some (natO u d)) : (w.setCell ⟨c, 0, none⟩ (.int .i64 n)).heap[c]? = some (natO n d) ∧ Below c w (w.setCell ⟨c, 0, none⟩ (.int .i64 n)) := by
  refine ⟨?_, (Below.refl c w).setCell (p := ⟨c, 0, none⟩) (Nat.le_refl _) _⟩
  simp only [World.setCell, Array.getElem?_modify, h]
  simp
def natOV (l : List UInt8) : Value := match natOf l with
  | none => .tuple #[natV 0 0, .bool false]
  | some (n, d) => .tuple #[natV n d, .bool true]
theorem natIV_of_none {l : List UInt8} (h : natI l = none) : natIV l = .tuple #[.int .i64 0, .string ⟨#[]⟩, .bool false] := by unfold natIV; rw [h]
theorem natIV_of_some {l : List UInt8} {n : Nat} {r : List UInt8} (h : natI l = some (n, r)) : natIV l = .tuple #[.int .i64 n, .string (strB r), .bool true] := by unfold natIV; rw [h]
theorem natI_lt {l : List UInt8} {n : Nat} {r : List UInt8} (h : natI l = some (n, r)) : n < 100000000 ∧ r.length ≤ l.length := by
  obtain ⟨h1, h2, _⟩ := natI_some h
  refine ⟨by have := (dec_len_le (u := n) (n := 8) (by omega)).1 h2; simpa using this, ?_⟩
  have := congrArg List.length h1
  rw [List.length_append] at this
  omega
theorem natOf_neg (l : List UInt8) (neg : Bool) (hs : (digs l).length < l.length ↔ neg = true) : natOf l = match natI (digs l) with
    | none => none
    | some (n, rest) => if neg = true ∧ n = 0 then none else
      match rest with
      | [] => some (if neg = true then -(n : Int) else (n : Int), 1)
      | c :: r => if c ≠ 47 then none else
        match natI r with
        | none => none
        | some (d, rest2) => if rest2 ≠ [] ∨ d < 2 ∨ Nat.gcd n d ≠ 1 then none else some (if neg = true then -(n : Int) else (n : Int), d) := by
  unfold natOf
  cases natI (digs l) with
  | none => rfl
  | some p =>
    obtain ⟨n, rest⟩ := p
    simp only [hs]
    cases rest with
    | nil => rfl
    | cons c r =>
      cases natI r with
      | none => rfl
      | some q =>
        obtain ⟨d, r2⟩ := q
        rfl
theorem digs_shorter (l : List UInt8) : (digs l).length < l.length ↔ l.head? = some 45 := by
  cases l with
  | nil => simp [digs]
  | cons c r =>
    by_cases h : c = 45
    · simp [digs, h]
    · simp [digs, h]
theorem nativeOf_any (s : ByteArray) (hs : s.size ≤ 1000000) (w : World) :
    Calls Tryz.prog 193 #[.string s] w (Ret w (natOV s.data.toList)) := by
  have H0 := hide (heap1 w (natO 0 0))
  obtain ⟨neg, hneg⟩ : ∃ neg, neg = decide (s.data.toList.head? = some 45) := ⟨_, rfl⟩
  obtain ⟨O, hO⟩ : ∃ O : ByteArray, O = strB (digs s.data.toList) := ⟨_, rfl⟩
  have hOs : O.size ≤ s.size := by
    rw [hO, strB_size, digs_drop, List.length_drop, bytes_len]
    omega
  have HN := hide (fun w => nativeInt_any O (by omega) w)
  rw [show O.data.toList = digs s.data.toList by rw [hO, strB_list]] at HN
  have hOe : (neg = false → O = s) ∧ (neg = true → s.extract 1 s.size = O) := by
    constructor
    · intro h
      rw [h] at hneg
      rw [hO]
      apply bytes_eq
      rw [strB_list, digs_drop, if_neg (of_decide_eq_false hneg.symm)]
      rfl
    · intro h
      rw [h] at hneg
      rw [ext_drop, hO, digs_drop, if_pos (of_decide_eq_true hneg.symm)]
  have hlen : ((O.size : Int) < (s.size : Int)) = (neg = true) := by
    have h1 := digs_shorter s.data.toList
    rw [bytes_len] at h1
    have h2 : O.size = (digs s.data.toList).length := by rw [hO, strB_size]
    rw [← h2] at h1
    apply propext
    rw [hneg, decide_eq_true_iff, ← h1]
    omega
  have HNEG := hide (natOf_neg s.data.toList neg (by rw [hneg, decide_eq_true_iff]; exact digs_shorter _))
  obtain ⟨V, hV⟩ : ∃ V, V = natOV s.data.toList := ⟨_, rfl⟩
  have HV := hide hV
  rw [← hV]
  clear hV
  have hstart : (s.data.toList = [] ∧ neg = false) ∨ (∃ h : 0 < s.size, s.toList.isEmpty = false ∧ ((neg = false ∧ (((s[0]'h).toNat : Int) == 45) = false) ∨ (neg = true ∧ (((s[0]'h).toNat : Int) == 45) = true))) := by
    by_cases hne : s.data.toList = []
    · exact .inl ⟨hne, by rw [hneg, hne]; rfl⟩
    · obtain ⟨hp, hh⟩ := bytes_head hne
      refine .inr ⟨hp, empty_no hne, ?_⟩
      by_cases h45 : s[0] = 45
      · exact .inr ⟨by rw [hneg, hh, h45]; rfl, by rw [h45]; rfl⟩
      · refine .inl ⟨?_, ?_⟩
        · rw [hneg, hh]
          simpa using h45
        · have : s[0].toNat ≠ 45 := fun h => h45 (UInt8.toNat_inj.1 h)
          simp only [beq_eq_false_iff_ne, ne_eq]
          omega
  clear hneg hO
  rcases hstart with ⟨h1, h2⟩ | ⟨hp, h1, ⟨h2, h3⟩ | ⟨h2, h3⟩⟩
  case' inl =>
    subst h2
    have he := empty_yes h1
    have hs2 : s = O := (hOe.1 rfl).symm
    subst hs2
    have hl : ((s.size : Int) < (s.size : Int)) = False := eq_false (by omega)
    clear h1 hOe hlen hOs
    go_enter Tryz.func193, Tryz.ntmps193
    go_wp2_with fail
  case' inr.inl =>
    subst h2
    have hp0 : (0 : Int) < (s.size : Int) := by omega
    have hs2 : s = O := (hOe.1 rfl).symm
    subst hs2
    have hl : ((s.size : Int) < (s.size : Int)) = False := eq_false (by omega)
    clear hOe hlen hOs
    go_enter Tryz.func193, Tryz.ntmps193
    go_wp2_with fail
  case' inr.inr =>
    subst h2
    have hp0 : (0 : Int) < (s.size : Int) := by omega
    have hs1 : (1 : Int) ≤ (s.size : Int) := by omega
    have HE := hide (hOe.2 rfl)
    have hl : (O.size : Int) < (s.size : Int) := by rw [hlen]
    clear hOe hlen
    go_enter Tryz.func193, Tryz.ntmps193
    go_wp2_with fail
    rw [HE.out]
  all_goals
    refine (HN.out _).mono ?_
    rintro e w1 ⟨rfl, hb1⟩
    have G1 := hide (below_blk hb1 H0.out.1 (lt_blk H0.out.1))
    have HB1 := hide (H0.out.2.2.trans (hb1.mono H0.out.2.2.size))
    have hsz1 := lt_blk G1.out
    have f0 := froz_blk G1.out 0
    have f1 := froz_blk G1.out 1
    have c0 := cell_blk G1.out 0
    have c1 := cell_blk G1.out 1
    clear hb1 HN
    cases hNI : natI (digs s.data.toList) with
    | none =>
      rw [natIV_of_none hNI]
      have HR := hide (show V = .tuple #[natV 0 0, .bool false] by
        rw [HV.out]
        unfold natOV
        rw [HNEG.out, hNI])
      clear hNI
      go_wp2_with fail
      obtain ⟨s1, s2⟩ := set2 G1.out (.int .i64 0) (.int .i64 0)
      refine exit_natOf s1 rfl rfl rfl ?_
      rw [HR.out]
      exact ⟨rfl, HB1.out.trans (s2.mono (by omega))⟩
    | some p =>
      obtain ⟨n, rest⟩ := p
      obtain ⟨hnl, hrl⟩ := natI_lt hNI
      rw [natIV_of_some hNI]
      have HS := hide (show natOf s.data.toList = _ from HNEG.out)
      rw [hNI] at HS
      simp only [] at HS
      have hzc : (n = 0 ∧ ((n : Int) == 0) = true) ∨ (n ≠ 0 ∧ ((n : Int) == 0) = false) := by
        by_cases h : n = 0
        · exact .inl ⟨h, by rw [h]; rfl⟩
        · refine .inr ⟨h, ?_⟩
          simp only [beq_eq_false_iff_ne, ne_eq]
          omega
      have HF := hide (fun (h : natOf s.data.toList = none) => show V = .tuple #[natV 0 0, .bool false] by
        rw [HV.out]
        unfold natOV
        rw [h])
      have HT := hide (fun (a : Int) (b : Nat) (h : natOf s.data.toList = some (a, b)) => show V = .tuple #[natV a b, .bool true] by
        rw [HV.out]
        unfold natOV
        rw [h])
      obtain ⟨t, ht⟩ : ∃ t, t = strB rest := ⟨_, rfl⟩
      rw [← ht]
      have HTT := hide ht
      clear ht hNI HV HNEG
      have hsh : (rest = [] ∧ t.toList.isEmpty = true) ∨ (∃ h : 0 < t.size, t.toList.isEmpty = false ∧ (((t[0]'h).toNat : Int) != 47) = true ∧ ∃ c r, rest = c :: r ∧ c ≠ 47) ∨ (∃ h : 0 < t.size, t.toList.isEmpty = false ∧ (((t[0]'h).toNat : Int) != 47) = false ∧ ∃ r, rest = 47 :: r ∧ t.extract 1 t.size = strB r) := by
        have hte : t.data.toList = rest := by rw [HTT.out, strB_list]
        by_cases hr : rest = []
        · exact .inl ⟨hr, empty_yes (by rw [hte, hr])⟩
        · obtain ⟨hp, hh⟩ := bytes_head (s := t) (by rw [hte]; exact hr)
          obtain ⟨c, r, hcr⟩ : ∃ c r, rest = c :: r := by
            cases rest with
            | nil => exact absurd rfl hr
            | cons c r => exact ⟨c, r, rfl⟩
          have h0 : t[0]'hp = c := by
            rw [hte, hcr] at hh
            injection hh with hh
            exact hh.symm
          by_cases h47 : c = 47
          · refine .inr (.inr ⟨hp, empty_no (by rw [hte]; exact hr), by rw [h0, h47]; rfl, r, by rw [hcr, h47], ?_⟩)
            rw [ext_drop, hte, hcr]
            rfl
          · refine .inr (.inl ⟨hp, empty_no (by rw [hte]; exact hr), ?_, c, r, hcr, h47⟩)
            rw [h0]
            have : c.toNat ≠ 47 := fun h => h47 (UInt8.toNat_inj.1 h)
            simp only [bne_iff_ne, ne_eq]
            omega
      have hts : t.size ≤ 1000000 := by
        rw [HTT.out, strB_size]
        have h1 : (digs s.data.toList).length ≤ s.data.toList.length := by rw [digs_drop, List.length_drop]; omega
        rw [bytes_len] at h1
        omega
      have GA := hide (fun ob : Obj => (Below.heap_alloc w1 ob _ hsz1).trans G1.out)
      rcases hsh with ⟨g1, g2⟩ | ⟨hpt, g2, g3, g1⟩ | ⟨hpt, g2, g3, r, g1, g4⟩
      all_goals
        have GR := hide g1
        clear g1
        rcases hzc with ⟨hz, hz0⟩ | ⟨hz, hz0⟩
      all_goals
        have HZ := hide hz
        clear hz
      all_goals try have hpt0 : (0 : Int) < (t.size : Int) := Int.ofNat_lt.2 hpt
      all_goals go_wp2_with fail
      all_goals first
        | (refine exit_natSet (ok := false) G1.out (by rfl) (by rfl) (by rfl) (fun hb => ?_)
           rw [HF.out (by rw [HS.out, HZ.out]; rfl)]
           exact ⟨rfl, HB1.out.trans hb⟩)
        | (refine exit_natSetA (ok := false) G1.out (by rfl) (by rfl) (by rfl) (fun hb => ?_)
           rw [HF.out (by obtain ⟨c, r, e, hc⟩ := GR.out; rw [HS.out, e]; simp [hc])]
           exact ⟨rfl, HB1.out.trans hb⟩)
        | (refine exit_natSetA (ok := true) (n := (n : Int)) G1.out (by rfl) (by rfl) (by rfl) (fun hb => ?_)
           rw [HT.out (n : Int) 1 (by rw [HS.out, GR.out]; simp [HZ.out])]
           exact ⟨rfl, HB1.out.trans hb⟩)
        | (refine exit_natSetA (ok := true) (n := (-(n : Int))) G1.out (by rfl) (by rfl) (by rfl) (fun hb => ?_)
           rw [HT.out (-(n : Int)) 1 (by rw [HS.out, GR.out]; simp [HZ.out])]
           exact ⟨rfl, HB1.out.trans hb⟩)
        | skip
      all_goals
        have hrr : r.length ≤ 1000000 := by
          have h1 := congrArg List.length GR.out
          rw [List.length_cons] at h1
          have h2 : (digs s.data.toList).length ≤ s.data.toList.length := by rw [digs_drop, List.length_drop]; omega
          rw [bytes_len] at h2
          omega
        have HI : Hid (∀ w, Calls Tryz.prog 218 #[.string (strB r)] w (Ret w (natIV r))) := hide (fun w => by
          have h := nativeInt_any (strB r) (by rw [strB_size]; exact hrr) w
          rwa [strB_list] at h)
        have G0 := hide (heap1 w1 (natO (n : Int) 1))
        refine (HI.out _).mono ?_
        rintro e w2 ⟨rfl, hb2⟩
        have G2 := hide (below_blk hb2 (GA.out _) (Nat.lt_of_lt_of_le hsz1 G0.out.2.2.size))
        have D2 := hide (below_blk hb2 G0.out.1 (lt_blk G0.out.1))
        have HB2 := hide (HB1.out.trans ((G0.out.2.2.trans (hb2.mono G0.out.2.2.size)).mono HB1.out.size))
        have hsz2 := lt_blk D2.out
        have hne : ¬ w1.heap.size = w.heap.size := by omega
        have hne2 : ¬ w.heap.size = w1.heap.size := by omega
        clear hb2 f0 f1 c0 c1
        have f0 := froz_blk G2.out 0
        have f1 := froz_blk G2.out 1
        have c0 := cell_blk G2.out 0
        have c1 := cell_blk G2.out 1
        have f2 := froz_blk D2.out 0
        have f3 := froz_blk D2.out 1
        have c2 := cell_blk D2.out 0
        have c3 := cell_blk D2.out 1
        cases hNI2 : natI r with
        | none =>
          rw [natIV_of_none hNI2]
          have HR := hide (HF.out (by rw [HS.out, GR.out]; simp [hNI2]))
          clear hNI2
          go_wp2_with fail
          obtain ⟨s1, s2⟩ := nat_set1 (d := 0) D2.out
          refine exit_natSet (ok := false) (blk_other G2.out hne _) (by rfl) (by rfl) (by rfl) (fun hb => ?_)
          rw [HR.out]
          exact ⟨rfl, HB2.out.trans ((s2.mono (by omega)).trans hb)⟩
        | some p2 =>
          obtain ⟨d, rest2⟩ := p2
          obtain ⟨hdl, _⟩ := natI_lt hNI2
          rw [natIV_of_some hNI2]
          have HN2 := hide hNI2
          clear hNI2
          obtain ⟨s1, s2⟩ := nat_set1 (d := (d : Int)) D2.out
          have S1 := hide s1; have S2 := hide s2
          have SG := hide (blk_other (o := 1) G2.out hne (.int .i64 (d : Int)))
          clear s1 s2
          have hway : (rest2 ≠ [] ∧ (strB rest2).toList.isEmpty = false) ∨ (rest2 = [] ∧ (strB rest2).toList.isEmpty = true) := by
            by_cases hr : rest2 = []
            · exact .inr ⟨hr, empty_yes (by rw [strB_list, hr])⟩
            · exact .inl ⟨hr, empty_no (by rw [strB_list]; exact hr)⟩
          obtain ⟨t2, ht2⟩ : ∃ t2, t2 = strB rest2 := ⟨_, rfl⟩
          rw [← ht2] at hway ⊢
          clear ht2
          rcases hway with ⟨hr2, ht2⟩ | ⟨hr2, ht2⟩
          · have HR := hide (HF.out (by rw [HS.out, GR.out]; simp [HN2.out, hr2]))
            clear hr2
            go_wp2_with fail
            refine exit_natSet (ok := false) SG.out (by rfl) (by rfl) (by rfl) (fun hb => ?_)
            rw [HR.out]
            exact ⟨rfl, HB2.out.trans ((S2.out.mono (by omega)).trans hb)⟩
          · have HRE := hide hr2
            clear hr2
            by_cases hd2 : d < 2
            · have hd2i : (d : Int) < 2 := by omega
              have HR := hide (HF.out (by rw [HS.out, GR.out]; simp [HN2.out, HRE.out, hd2]))
              clear hd2
              go_wp2_with fail
              refine exit_natSet (ok := false) SG.out (by rfl) (by rfl) (by rfl) (fun hb => ?_)
              rw [HR.out]
              exact ⟨rfl, HB2.out.trans ((S2.out.mono (by omega)).trans hb)⟩
            · have hd2i : ((d : Int) < 2) = False := eq_false (by omega)
              have HD2 := hide hd2
              clear hd2
              go_wp2_with fail
              refine (qgcd_any n d (by omega) (by omega) _).mono ?_
              rintro e w3 ⟨rfl, hb3⟩
              have D3 := hide (below_blk hb3 S1.out (lt_blk S1.out))
              have G3 := hide (below_blk hb3 SG.out (lt_blk SG.out))
              have HB3 := hide (HB2.out.trans ((S2.out.mono (by omega)).trans (hb3.mono (by have := lt_blk SG.out; omega))))
              have SN := hide (nat_set0 (n := -(n : Int)) D3.out)
              clear hb3 c0 c1 c2 c3 f0 f1 f2 f3
              have f0 := froz_blk G3.out 0
              have f1 := froz_blk G3.out 1
              have f2 := froz_blk D3.out 0
              have f3 := froz_blk D3.out 1
              have c0 := cell_blk G3.out 0
              have c1 := cell_blk G3.out 1
              have c2 := cell_blk D3.out 0
              have c3 := cell_blk D3.out 1
              by_cases hg : n.gcd d = 1
              · have hgi : (((n.gcd d : Nat) : Int) != 1) = false := by rw [hg]; rfl
                have HG := hide hg
                clear hg
                go_wp2_with fail
                first
                  | (refine exit_natSet (ok := true) (n := (n : Int)) G3.out (by rfl) (by rfl) (by rfl) (fun hb => ?_)
                     rw [HT.out (n : Int) d (by rw [HS.out, GR.out]; simp [HN2.out, HRE.out, HD2.out, HG.out])]
                     exact ⟨rfl, HB3.out.trans hb⟩)
                  | (refine exit_natSet (ok := true) (n := -(n : Int)) (blk_other G3.out hne _) (by rfl) (by rfl) (by rfl) (fun hb => ?_)
                     rw [HT.out (-(n : Int)) d (by rw [HS.out, GR.out]; simp [HN2.out, HRE.out, HD2.out, HG.out, HZ.out])]
                     exact ⟨rfl, HB3.out.trans ((SN.out.2.mono (by omega)).trans hb)⟩)
              · have hgi : (((n.gcd d : Nat) : Int) != 1) = true := by
                  simp only [bne_iff_ne, ne_eq]
                  omega
                have HR := hide (HF.out (by rw [HS.out, GR.out]; simp [HN2.out, HRE.out, hg]))
                clear hg
                go_wp2_with fail
                refine exit_natSet (ok := false) G3.out (by rfl) (by rfl) (by rfl) (fun hb => ?_)
                rw [HR.out]
                exact ⟨rfl, HB3.out.trans hb⟩
end Go.Proofs.YtfcjaljaomknjaaGreatDoor
