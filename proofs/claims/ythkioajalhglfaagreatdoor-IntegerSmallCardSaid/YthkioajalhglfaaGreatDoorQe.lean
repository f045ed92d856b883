/-
  Integers: Divide of long numbers walked.
-/
import Derived.Test.YthkioajalhglfaaGreatDoorQd
import Derived.Test.YthkioajalhglfaaGreatDoorPq
namespace Go.Proofs.YthkioajalhglfaaGreatDoor
open Go.RowKit Go.KP Go.KI Go.Shelf
attribute [local go_sem] Oper.semAt_some

theorem one_lt : Lt 1000000000 [1] := fun z hz => by
  simp only [List.mem_singleton] at hz
  omega
theorem res_fit {z : Int} (h : fits z) : resS z = Lib.itoa z ∧ resE z = 0 := ⟨if_pos h, if_pos h⟩
theorem chk_nz {l : List UInt8} (c : chkI l = 0) (h : l ≠ [48]) : valI l ≠ 0 := by
  intro e
  have := (chk_ok c).1
  rw [e, itoa_zero] at this
  exact h this
set_option maxRecDepth 100000 in
set_option maxHeartbeats 8000000 in
theorem Divide_long (s t : ByteArray) (B : Nat) (w : World) (c1 : chkI s.data.toList = 0) (c2 : chkI t.data.toList = 0) (hl : ¬ (s.size ≤ 18 ∧ t.size ≤ 18)) (h0 : t.data.toList ≠ [48]) (hB : B ≤ w.heap.size) (hT : P10 B w) :
    Calls Tryz.prog 17 #[.string s, .string t] w (Ret w (tripV (Lib.itoa ((valI s.data.toList).fdiv (valI t.data.toList))) (Lib.itoa ((valI s.data.toList).fmod (valI t.data.toList))) 0)) := by
  have l1' := (chk_digs c1).2
  have l2' := (chk_digs c2).2
  rw [bytes_len] at l1' l2'
  have H1 := hide (both_any s t (by omega) (by omega) w)
  have hb0 : bothI s.data.toList t.data.toList = 0 := by unfold bothI; rw [if_pos c1, c2]
  rw [hb0] at H1
  have HT := hide hT
  have hy0 := chk_nz c2 h0
  have hq : (t.toList == [48]) = false := by rw [ByteArray.toList_eq]; simpa using h0
  have FQ := hide (res_fit (fits_of_le (chk_ok c1).2 (fdiv_natAbs_le (x := valI s.data.toList) hy0)))
  have FR := hide (res_fit (fits_of_le (chk_ok c2).2 (Nat.le_of_lt (fmod_natAbs_lt (x := valI s.data.toList) hy0))))
  have H2 := hide (fun w => small_no s t hl w)
  have R1 := hide (fun w => read_good s c1 w)
  have R2 := hide (fun w => read_good t c2 w)
  clear c1 c2 hl h0 hT hb0 l1' l2'
  go_enter Tryz.func17, Tryz.ntmps17
  go_wp2_with fail
  refine H1.out.mono ?_
  rintro e w1 ⟨rfl, hb1⟩
  have HB1 := hide hb1
  clear hb1 H1
  go_wp2_with fail
  refine (H2.out _).mono ?_
  rintro e w2 ⟨rfl, hb2⟩
  have HB2 := hide (HB1.out.trans (hb2.mono HB1.out.size))
  clear hb2 H2 HB1
  go_wp2_with fail
  refine (R1.out _).mono ?_
  rintro e w3 ⟨m1, a1, l1, rfl, hb3, o1, n1, q1, k1⟩
  have HB3 := hide (HB2.out.trans (hb3.mono HB2.out.size))
  have O1 := hide o1; have N1 := hide n1; have Q1 := hide q1
  clear hb3 HB2 R1 o1 n1 q1
  go_wp2_with fail
  refine (R2.out _).mono ?_
  rintro e w4 ⟨m2, a2, l2, rfl, hb4, o2, n2, q2, k2⟩
  have HB4 := hide (HB3.out.trans (hb4.mono HB3.out.size))
  have O1' := hide (O1.out.keep hb4)
  have O2 := hide o2; have N2 := hide n2; have Q2 := hide q2
  clear hb4 HB3 R2 o2 n2 q2 O1
  obtain ⟨av1, cv1, hvf, _, _⟩ := O1'.out.form
  subst hvf
  obtain ⟨av2, cv2, hvf, _, _⟩ := O2.out.form
  subst hvf
  have hl2 : l2 ≠ [] := by
    intro e
    have h := Q2.out
    rw [e] at h
    apply hy0
    rw [← h]
    cases m2 <;> rfl
  have hly : 0 < lv 1000000000 l2 := by
    rcases Nat.eq_zero_or_pos (lv 1000000000 l2) with h | h
    · exact absurd ((N2.out.zero (by omega)).1 h) hl2
    · exact h
  obtain ⟨g0, g1, gs0, gb0⟩ := heap2 w4 (.cells #[.bool m1, .slice av1 l1.length cv1] 48) (.cells #[.bool m2, .slice av2 l2.length cv2] 48)
  obtain ⟨w5, hw5⟩ : ∃ w5, (w4.alloc (.cells #[.bool m1, .slice av1 l1.length cv1] 48)).alloc (.cells #[.bool m2, .slice av2 l2.length cv2] 48) = w5 := ⟨_, rfl⟩
  rw [hw5] at g0 g1 gs0 gb0
  have c1 := cell_blk g0 1
  have c3 := cell_blk g1 1
  have HDV := hide (divide_any (.slice av1 l1.length cv1) (.slice av2 l2.length cv2) l1 l2 w5.heap.size w5 (LimbAt.of_own (O1'.out.keep gb0)) (LimbAt.of_own (O2.out.keep gb0)) (Nat.le_refl _) N1.out N2.out hl2 (by omega) (by omega))
  have O2' := hide (O2.out.keep gb0)
  have HB5 := hide (HB4.out.trans (gb0.mono HB4.out.size)); have G0 := hide g0; have G1 := hide g1
  have hs5 : w4.heap.size + 1 < w5.heap.size := by omega
  have FL := hide (floor_long m1 m2 (a := lv 1000000000 l1) hly)
  rw [Q1.out, Q2.out] at FL
  clear g0 g1 gs0 gb0 O1' O2 HB4 hy0
  go_wp2_with fail
  clear hw5
  obtain ⟨nb, hnb⟩ : ∃ nb, nb = w4.heap.size := ⟨_, rfl⟩
  rw [← hnb] at c1 c3 G0 G1 hs5 ⊢
  clear hnb
  refine HDV.out.mono ?_
  rintro e w6 ⟨vq, vr, q, r, rfl, hb6, oq, or_, nq, nr, eq, er, lq, lr⟩
  obtain ⟨aq, cq, hvf⟩ := oq.form
  subst hvf
  obtain ⟨ar, cr, hvf⟩ := or_.form
  subst hvf
  have HBZ := hide (HB5.out.trans (hb6.mono HB5.out.size))
  have G0Z := hide (below_blk hb6 G0.out (by omega))
  have G1Z := hide (below_blk hb6 G1.out (by omega))
  have O2Z := hide (O2'.out.keep hb6)
  have hs6 : nb + 1 < w6.heap.size := Nat.lt_of_lt_of_le hs5 hb6.size
  have OQ := hide oq; have OR := hide or_; have NQ := hide nq; have NR := hide nr; have EQ := hide eq; have ER := hide er
  rw [← eq, ← er] at FL
  clear hb6 oq or_ nq nr eq er c1 c3 HB5 G0 G1 O2' HDV hs5
  have z0 := cell_blk G0Z.out 0
  have z1 := cell_blk G1Z.out 0
  rcases (show m2 = m1 ∨ (m2 = (!m1) ∧ r = []) ∨ (m2 = (!m1) ∧ r ≠ []) by
    by_cases hm : m2 = m1
    · exact .inl hm
    · have : m2 = (!m1) := by cases m1 <;> cases m2 <;> simp_all
      by_cases hr : r = []
      · exact .inr (.inl ⟨this, hr⟩)
      · exact .inr (.inr ⟨this, hr⟩)) with hm | ⟨hm, hr⟩ | ⟨hm, hr⟩
  · subst hm
    have FA := hide (FL.out.1 (.inl rfl))
    rw [show (!(m2 == m2)) = false by simp] at FA
    clear FL
    obtain ⟨m1, rfl⟩ : ∃ m1, m1 = m2 := ⟨_, rfl⟩
    obtain ⟨wz, rfl⟩ : ∃ wz, wz = w6 := ⟨_, rfl⟩
    · skip
      have zq : valS false (lv 1000000000 q) = (valI s.data.toList).fdiv (valI t.data.toList) := FA.out.1
      have zr : valS m1 (lv 1000000000 r) = (valI s.data.toList).fmod (valI t.data.toList) := FA.out.2
      have HR1 := hide (result_any false (.slice aq q.length cq) q wz.heap.size wz OQ.out (Nat.le_refl _) NQ.out (by omega) ((HT.out.on HBZ.out hB).mono (Nat.le_trans hB HBZ.out.size)))
      rw [zq, FQ.out.1, FQ.out.2] at HR1
      have HR2 := hide (fun w8 (hb : Below wz.heap.size wz w8) => result_any m1 (.slice ar r.length cr) r wz.heap.size w8 (LimbAt.below OR.out hb (Nat.le_refl _)) hb.size NR.out (by omega) ((HT.out.on (HBZ.out.trans (hb.mono HBZ.out.size)) hB).mono (Nat.le_trans hB HBZ.out.size)))
      rw [zr, FR.out.1, FR.out.2] at HR2
      have z0 := cell_blk G0Z.out 0
      have z1 := cell_blk G1Z.out 0
      clear zq zr
      go_wp2_with fail
      refine HR1.out.mono ?_
      rintro e w8 ⟨rfl, hb8⟩
      have hz8 : nb + 1 < w8.heap.size := Nat.lt_of_lt_of_le (lt_blk G1Z.out) hb8.size
      have z2 := cell_blk (below_blk hb8 G0Z.out (lt_blk G0Z.out)) 0
      have z3 := cell_blk (below_blk hb8 G1Z.out (lt_blk G1Z.out)) 0
      have HB8 := hide hb8
      clear hb8 HR1 z0 z1
      go_wp2_with fail
      refine (HR2.out w8 HB8.out).mono ?_
      rintro e w9 ⟨rfl, hb9⟩
      have HB9 := hide (HBZ.out.trans ((HB8.out.trans (hb9.mono HB8.out.size)).mono HBZ.out.size))
      clear hb9 HR2 HB8 z2 z3
      go_wp2_with fail
      refine bodyPost_ret (results_tmp3' rfl _ _ _) rfl ?_
      exact ⟨rfl, HB9.out⟩

  · subst hm
    subst hr
    have FB := hide (FL.out.1 (.inr rfl))
    rw [show (!(m1 == (!m1))) = true by cases m1 <;> rfl] at FB
    clear FL
    obtain ⟨wz, rfl⟩ : ∃ wz, wz = w6 := ⟨_, rfl⟩
    have OR := hide (show LimbAt wz.heap.size wz (.slice ar 0 cr) [] from OR.out)
    have NR := hide (Norm.nil 1000000000)
    clear lr
    · skip
      have zq : valS true (lv 1000000000 q) = (valI s.data.toList).fdiv (valI t.data.toList) := FB.out.1
      have zr : valS (!m1) (lv 1000000000 ([] : List Nat)) = (valI s.data.toList).fmod (valI t.data.toList) := FB.out.2
      have HR1 := hide (result_any true (.slice aq q.length cq) q wz.heap.size wz OQ.out (Nat.le_refl _) NQ.out (by omega) ((HT.out.on HBZ.out hB).mono (Nat.le_trans hB HBZ.out.size)))
      rw [zq, FQ.out.1, FQ.out.2] at HR1
      have HR2 := hide (fun w8 (hb : Below wz.heap.size wz w8) => result_any (!m1) (.slice ar 0 cr) ([] : List Nat) wz.heap.size w8 (LimbAt.below OR.out hb (Nat.le_refl _)) hb.size NR.out (by simp) ((HT.out.on (HBZ.out.trans (hb.mono HBZ.out.size)) hB).mono (Nat.le_trans hB HBZ.out.size)))
      rw [zr, FR.out.1, FR.out.2] at HR2
      have z0 := cell_blk G0Z.out 0
      have z1 := cell_blk G1Z.out 0
      clear zq zr
      go_wp2_with fail
      refine HR1.out.mono ?_
      rintro e w8 ⟨rfl, hb8⟩
      have hz8 : nb + 1 < w8.heap.size := Nat.lt_of_lt_of_le (lt_blk G1Z.out) hb8.size
      have z2 := cell_blk (below_blk hb8 G0Z.out (lt_blk G0Z.out)) 0
      have z3 := cell_blk (below_blk hb8 G1Z.out (lt_blk G1Z.out)) 0
      have HB8 := hide hb8
      clear hb8 HR1 z0 z1
      go_wp2_with fail
      refine (HR2.out w8 HB8.out).mono ?_
      rintro e w9 ⟨rfl, hb9⟩
      have HB9 := hide (HBZ.out.trans ((HB8.out.trans (hb9.mono HB8.out.size)).mono HBZ.out.size))
      clear hb9 HR2 HB8 z2 z3
      go_wp2_with fail
      refine bodyPost_ret (results_tmp3' rfl _ _ _) rfl ?_
      exact ⟨rfl, HB9.out⟩

  · subst hm
    have hr1 : lv 1000000000 r ≠ 0 := fun e => hr ((NR.out.zero (by omega)).1 e)
    have hrl : 0 < (r.length : Int) := by
      have := List.length_pos_iff.2 hr
      omega
    have FC := hide (FL.out.2 (by cases m1 <;> simp) hr1)
    rw [show (!(m1 == (!m1))) = true by cases m1 <;> rfl] at FC
    have hlt : lv 1000000000 r ≤ lv 1000000000 l2 := by
      rw [ER.out]
      exact Nat.le_of_lt (Nat.mod_lt _ hly)
    have P1 := hide (plus_lv NQ.out.lt one_lt)
    have P2 := hide (minus_lv N2.out.lt NR.out.lt hlt)
    have FC2 := hide (show valS true (lv 1000000000 (trimL (combL plusP q [1]))) = (valI s.data.toList).fdiv (valI t.data.toList) ∧ valS (!m1) (lv 1000000000 (trimL (combL minusP l2 r))) = (valI s.data.toList).fmod (valI t.data.toList) by
      rw [P1.out.2.1, P2.out.2.1, show lv 1000000000 [1] = 1 by simp [lv]]
      exact FC.out)
    have hk3 : (trimL (combL plusP q [1])).length ≤ 100000 := by
      have := P1.out.2.2
      simp at this
      omega
    have hk4 : (trimL (combL minusP l2 r)).length ≤ 100000 := by
      have := P2.out.2.2
      omega
    obtain ⟨l3, hl3⟩ : ∃ l, l = trimL (combL plusP q [1]) := ⟨_, rfl⟩
    obtain ⟨l4, hl4⟩ : ∃ l, l = trimL (combL minusP l2 r) := ⟨_, rfl⟩
    have N3 := hide P1.out.1
    have N4 := hide P2.out.1
    rw [← hl3] at N3 FC2 hk3
    rw [← hl4] at N4 FC2 hk4
    have HC1 := hide (fun (W : World) (hb : Below w6.heap.size w6 W) (h1 : W.heap[w6.heap.size]? = some (rowO [1])) => combine_any 48 plusP plusFn (.slice aq q.length cq) (.slice (some ⟨w6.heap.size, 0, none⟩) 1 1) q [1] W.heap.size W ((OQ.out.below hb (Nat.le_refl _)).mono hb.size) (row_limbs h1 (by unfold maxLen; simp)) (Nat.le_refl _) NQ.out.lt one_lt (by omega) (by simp))
    have HC2 := hide (fun (W : World) (hb : Below w6.heap.size w6 W) => combine_any 49 minusP minusFn (.slice av2 l2.length cv2) (.slice ar r.length cr) l2 r W.heap.size W (((LimbAt.of_own O2Z.out).below hb (Nat.le_refl _)).mono hb.size) ((OR.out.below hb (Nat.le_refl _)).mono hb.size) (Nat.le_refl _) N2.out.lt NR.out.lt (by omega) (by omega))
    rw [← hl3] at HC1
    rw [← hl4] at HC2
    have HWA := hide (show Below w6.heap.size w6 (w6.alloc (.cells #[.int .i64 1] 3)).drew from ((Below.refl w6.heap.size w6).alloc (Nat.le_refl _) _).drew)
    have HWR := hide (show (w6.alloc (.cells #[.int .i64 1] 3)).drew.heap[w6.heap.size]? = some (rowO [1]) from World.alloc_heap_new _ _)
    have z2 := cell_blk G1Z.out 1
    have ZD := hide (show w6.drew.cell? ⟨nb + 1, 1, none⟩ = some (.slice av2 l2.length cv2) from cell_blk (w := w6.drew) G1Z.out 1)
    have ZA := hide (show (w6.alloc (.cells #[.int .i64 1] 3)).drew.cell? ⟨nb + 1, 1, none⟩ = some (.slice av2 l2.length cv2) from cell_blk (w := (w6.alloc (.cells #[.int .i64 1] 3)).drew) (below_blk HWA.out G1Z.out hs6) 1)
    clear hl3 hl4 hr hr1 hlt FC FL
    go_wp2_with fail
    go_region_held3 (fun w' => w'.cell? ⟨nb + 1, 1, none⟩ = some (.slice av2 l2.length cv2)) (first | with_reducible exact ZD.out | with_reducible exact ZA.out | with_reducible exact d1 | with_reducible exact x1)
      (first
        | (go_at_call 47
           with_reducible refine (HC1.out _ HWA.out HWR.out).mono ?_
           rintro e w7 ⟨v3, rfl, hb7, o3⟩
           obtain ⟨av3, cv3, hvf, _, _⟩ := o3.form
           subst hvf
           have HB7 := hide (HWA.out.trans (hb7.mono HWA.out.size))
           have O3 := hide o3
           have d1 : w7.cell? ⟨nb + 1, 1, none⟩ = some (.slice av2 l2.length cv2) := cell_blk (below_blk HB7.out G1Z.out hs6) 1
           clear hb7 o3)
        | (go_at_call 47
           with_reducible refine (HC2.out w7 HB7.out).mono ?_
           rintro e wz ⟨v4, rfl, hb8, o4⟩
           obtain ⟨av4, cv4, hvf, _, _⟩ := o4.form
           subst hvf
           have HB8 := hide (HB7.out.trans (hb8.mono HB7.out.size))
           have O4 := hide o4
           have O3' := hide (OwnL.keep O3.out hb8)
           have x1 : wz.cell? ⟨nb + 1, 1, none⟩ = some (.slice av2 l2.length cv2) := cell_blk (below_blk HB8.out G1Z.out hs6) 1
           clear hb8 o4)
        | fail)
    clear d1 x1 z0 z1 z2
    have HBZ := hide (HBZ.out.trans (HB8.out.mono HBZ.out.size))
    have G0Z := hide (below_blk HB8.out G0Z.out (by omega))
    have G1Z := hide (below_blk HB8.out G1Z.out hs6)
    have O3Z := hide (LimbAt.of_own O3'.out)
    have O4Z := hide (LimbAt.of_own O4.out)
    clear HB8 HB7 O3 O3' O4 HC1 HC2 HWA HWR ZD ZA hrl
    · skip
      have zq : valS true (lv 1000000000 l3) = (valI s.data.toList).fdiv (valI t.data.toList) := FC2.out.1
      have zr : valS (!m1) (lv 1000000000 l4) = (valI s.data.toList).fmod (valI t.data.toList) := FC2.out.2
      have HR1 := hide (result_any true (.slice av3 l3.length cv3) l3 wz.heap.size wz O3Z.out (Nat.le_refl _) N3.out hk3 ((HT.out.on HBZ.out hB).mono (Nat.le_trans hB HBZ.out.size)))
      rw [zq, FQ.out.1, FQ.out.2] at HR1
      have HR2 := hide (fun w8 (hb : Below wz.heap.size wz w8) => result_any (!m1) (.slice av4 l4.length cv4) l4 wz.heap.size w8 (LimbAt.below O4Z.out hb (Nat.le_refl _)) hb.size N4.out hk4 ((HT.out.on (HBZ.out.trans (hb.mono HBZ.out.size)) hB).mono (Nat.le_trans hB HBZ.out.size)))
      rw [zr, FR.out.1, FR.out.2] at HR2
      have z0 := cell_blk G0Z.out 0
      have z1 := cell_blk G1Z.out 0
      clear zq zr
      go_wp2_with fail
      refine HR1.out.mono ?_
      rintro e w8 ⟨rfl, hb8⟩
      have hz8 : nb + 1 < w8.heap.size := Nat.lt_of_lt_of_le (lt_blk G1Z.out) hb8.size
      have z2 := cell_blk (below_blk hb8 G0Z.out (lt_blk G0Z.out)) 0
      have z3 := cell_blk (below_blk hb8 G1Z.out (lt_blk G1Z.out)) 0
      have HB8 := hide hb8
      clear hb8 HR1 z0 z1
      go_wp2_with fail
      refine (HR2.out w8 HB8.out).mono ?_
      rintro e w9 ⟨rfl, hb9⟩
      have HB9 := hide (HBZ.out.trans ((HB8.out.trans (hb9.mono HB8.out.size)).mono HBZ.out.size))
      clear hb9 HR2 HB8 z2 z3
      go_wp2_with fail
      refine bodyPost_ret (results_tmp3' rfl _ _ _) rfl ?_
      exact ⟨rfl, HB9.out⟩

end Go.Proofs.YthkioajalhglfaaGreatDoor
