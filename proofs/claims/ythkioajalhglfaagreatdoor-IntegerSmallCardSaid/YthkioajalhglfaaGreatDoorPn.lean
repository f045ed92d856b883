/-
  Integers: Mul walked.
-/
import Derived.Test.YthkioajalhglfaaGreatDoorPm
namespace Go.Proofs.YthkioajalhglfaaGreatDoor
open Go.RowKit Go.KP Go.KI Go.Shelf
attribute [local go_sem] Oper.semAt_some

theorem chk_pos {l : List UInt8} (h : chkI l = 0) : 1 ≤ l.length := by
  cases l with
  | nil =>
    unfold chkI at h
    rw [if_pos (.inl rfl)] at h
    cases h
  | cons c r => simp
theorem valS_mul (m1 m2 : Bool) (a b : Nat) : valS (!(m1 == m2)) (a * b) = valS m1 a * valS m2 b := by cases m1 <;> cases m2 <;> simp [valS, Int.mul_neg, Int.neg_mul]
set_option maxRecDepth 100000 in
set_option maxHeartbeats 2000000 in
theorem Mul_any (s t : ByteArray) (B : Nat) (w : World) (hs : s.size ≤ 1000000) (ht : t.size ≤ 1000000) (hB : B ≤ w.heap.size) (hT : P10 B w) :
    Calls Tryz.prog 15 #[.string s, .string t] w (Ret w (pairV (op2S (· * ·) s.data.toList t.data.toList) (op2E (· * ·) s.data.toList t.data.toList))) := by
  have H1 := hide (both_any s t hs ht w)
  have HT := hide hT
  by_cases hE : bothI s.data.toList t.data.toList = 0
  · obtain ⟨c1, c2, e1, e2⟩ := op2_good (f := (· * ·)) hE
    rw [e1, e2]
    have C1 := hide c1; have C2 := hide c2
    rw [hE] at H1
    clear e1 e2 hE hT
    by_cases hsm : s.size + t.size ≤ 18
    · have H2 := hide (fun w => small_yes s t c1 c2 (by omega) (by omega) w)
      have z1 := chk_pos c1
      have z2 := chk_pos c2
      rw [bytes_len] at z1 z2
      have v1 := short_val (n := s.size) c1 (by rw [bytes_len]; exact Nat.le_refl _) z1
      have v2 := short_val (n := t.size) c2 (by rw [bytes_len]; exact Nat.le_refl _) z2
      obtain ⟨x, hx⟩ : ∃ x, x = valI s.data.toList := ⟨_, rfl⟩
      obtain ⟨y, hy⟩ : ∃ y, y = valI t.data.toList := ⟨_, rfl⟩
      rw [← hx, ← hy] at H2 ⊢
      rw [← hx] at v1
      rw [← hy] at v2
      obtain ⟨z, hz⟩ : ∃ z, z = x * y := ⟨_, rfl⟩
      have hzz : z.natAbs < 1000000000000000000 := by
        rw [hz, Int.natAbs_mul, ← pow18]
        refine Nat.lt_of_lt_of_le (Nat.mul_lt_mul'' v1 v2) ?_
        rw [← Nat.pow_add]
        exact Nat.pow_le_pow_right (by omega) hsm
      have hw : IntKind.i64.wrap (x * y) = z := by rw [← hz]; exact IntWalk.i64_in _ (by omega)
      obtain ⟨e3, e4⟩ := resS_small (z := z) (Nat.lt_of_lt_of_le (m := 10 ^ 19) (by omega) (Nat.pow_le_pow_right (by omega) (by omega)))
      have hz1 : -9223372036854775808 ≤ z := by omega
      have hz2 : z ≤ 9223372036854775807 := by omega
      have hle : (s.size : Int) + (t.size : Int) ≤ 18 := by omega
      show Calls _ _ _ _ (Ret w (pairV (resS (x * y)) (resE (x * y))))
      rw [← hz, e3, e4]
      clear v1 v2 z1 z2 hzz
      clear c1 c2 hsm hx hy hz e3 e4
      go_enter Tryz.func15, Tryz.ntmps15
      go_wp2_with fail
      refine H1.out.mono ?_
      rintro e w1 ⟨rfl, hb1⟩
      have HB1 := hide hb1
      clear hb1 H1
      go_wp2_with fail
      refine (H2.out _).mono ?_
      rintro e w2 ⟨rfl, hb2⟩
      have HB2 := hide (HB1.out.trans (hb2.mono HB1.out.size))
      clear hb2 H2 HB1
      go_wp2_with fail
      refine (itoa_any z hz1 hz2 B w2 (HT.out.on HB2.out hB)).mono ?_
      rintro e w3 ⟨rfl, hb3⟩
      have HB3 := hide (HB2.out.trans (hb3.mono HB2.out.size))
      clear hb3 HB2
      go_wp2_with fail
      refine bodyPost_ret (results_tmp2 rfl _ _ _) rfl ?_
      exact ⟨rfl, HB3.out⟩
    · have hgt : ((s.size : Int) + (t.size : Int) ≤ 18) = False := eq_false (by omega)
      have R1 := hide (fun w => read_good s c1 w)
      have R2 := hide (fun w => read_good t c2 w)
      clear c1 c2 hsm
      go_enter Tryz.func15, Tryz.ntmps15
      go_wp2_with fail
      refine H1.out.mono ?_
      rintro e w1 ⟨rfl, hb1⟩
      have HB1 := hide hb1
      clear hb1 H1
      go_wp2_with fail
      refine (R1.out _).mono ?_
      rintro e w2 ⟨m1, a1, l1, rfl, hb2, o1, n1, q1, k1⟩
      have HB2 := hide (HB1.out.trans (hb2.mono HB1.out.size))
      have O1 := hide o1; have N1 := hide n1; have Q1 := hide q1
      clear hb2 HB1 R1 o1 n1 q1
      go_wp2_with fail
      refine (R2.out _).mono ?_
      rintro e w3 ⟨m2, a2, l2, rfl, hb3, o2, n2, q2, k2⟩
      have HB3 := hide (HB2.out.trans (hb3.mono HB2.out.size))
      have O1' := hide (O1.out.keep hb3)
      have O2 := hide o2; have N2 := hide n2; have Q2 := hide q2
      clear hb3 HB2 R2 o2 n2 q2 O1
      obtain ⟨av1, cv1, hvf, _, _⟩ := O1'.out.form
      subst hvf
      obtain ⟨av2, cv2, hvf, _, _⟩ := O2.out.form
      subst hvf
      go_wp2_with fail
      obtain ⟨g0, g1, gs0, gb0⟩ := heap2 w3 (.cells #[.bool m1, .slice av1 l1.length cv1] 48) (.cells #[.bool m2, .slice av2 l2.length cv2] 48)
      obtain ⟨w4, hw4⟩ : ∃ w4, (w3.alloc (.cells #[.bool m1, .slice av1 l1.length cv1] 48)).alloc (.cells #[.bool m2, .slice av2 l2.length cv2] 48) = w4 := ⟨_, rfl⟩
      rw [hw4] at g0 g1 gs0 gb0 ⊢
      have c0 := cell_blk g0 0
      have c1 := cell_blk g0 1
      have c2 := cell_blk g1 0
      have c3 := cell_blk g1 1
      have O3 := hide (OwnL.keep O1'.out gb0); have O4 := hide (OwnL.keep O2.out gb0)
      have HB4 := hide (HB3.out.trans (gb0.mono HB3.out.size)); have G0 := hide g0; have G1 := hide g1
      have hs4 : w3.heap.size + 1 < w4.heap.size := by omega
      obtain ⟨nb, hnb⟩ : ∃ nb, nb = w3.heap.size := ⟨_, rfl⟩
      rw [← hnb] at c0 c1 c2 c3 G0 G1 hs4 ⊢
      clear g0 g1 gs0 gb0 hw4 O1' O2 HB3 hnb
      have hlen := l1.length
      go_region_held3 (fun w' => w'.cell? ⟨nb, 0, none⟩ = some (.bool m1) ∧ w'.cell? ⟨nb, 1, none⟩ = some (.slice av1 l1.length cv1) ∧ w'.cell? ⟨nb + 1, 0, none⟩ = some (.bool m2) ∧ w'.cell? ⟨nb + 1, 1, none⟩ = some (.slice av2 l2.length cv2)) (first | exact ⟨c0, c1, c2, c3⟩ | exact ⟨d0, d1, d2, d3⟩ | exact ⟨x0, x1, x2, x3⟩)
        (first
          | (go_at_call 40
             refine (times_any _ _ l1 l2 w4.heap.size w4.drew (.of_own (show OwnL 0 w4.drew _ l1 from O3.out.drew)) (.of_own (show OwnL 0 w4.drew _ l2 from O4.out.drew)) (Nat.le_refl _) N1.out.lt N2.out.lt (by omega) (by omega)).mono ?_
             rintro e w5 ⟨l3, ⟨v3, rfl, hb5, o3⟩, n3, q3, k3⟩
             obtain ⟨av3, cv3, hvf, _, _⟩ := o3.form
             subst hvf
             have D0 := hide (below_blk hb5 G0.out (by show nb < w4.heap.size; omega))
             have D1 := hide (below_blk hb5 G1.out (by show nb + 1 < w4.heap.size; omega))
             obtain ⟨d0, d1, d2, d3⟩ : w5.cell? ⟨nb, 0, none⟩ = some (.bool m1) ∧ w5.cell? ⟨nb, 1, none⟩ = some (.slice av1 l1.length cv1) ∧ w5.cell? ⟨nb + 1, 0, none⟩ = some (.bool m2) ∧ w5.cell? ⟨nb + 1, 1, none⟩ = some (.slice av2 l2.length cv2) := ⟨cell_blk D0.out 0, cell_blk D0.out 1, cell_blk D1.out 0, cell_blk D1.out 1⟩
             have DB := hide (show Below w.heap.size w w5 from (HB4.out.drew).trans (hb5.mono HB4.out.size))
             have hs5 : nb + 1 < w5.heap.size := Nat.lt_of_lt_of_le hs4 hb5.size
             have O5 := hide o3; have N3 := hide n3; have Q3 := hide q3
             clear hb5 o3 n3 q3)
          | (go_at_call 39
             refine (result_own (!(m1 == m2)) _ l3 _ B w5 O5.out N3.out (by omega) (HT.out.on DB.out hB) (Nat.le_trans hB DB.out.size)).mono ?_
             rintro e w7 ⟨rfl, hb7⟩
             have X0 := hide (below_blk hb7 D0.out (by omega))
             have X1 := hide (below_blk hb7 D1.out (by omega))
             obtain ⟨x0, x1, x2, x3⟩ : w7.cell? ⟨nb, 0, none⟩ = some (.bool m1) ∧ w7.cell? ⟨nb, 1, none⟩ = some (.slice av1 l1.length cv1) ∧ w7.cell? ⟨nb + 1, 0, none⟩ = some (.bool m2) ∧ w7.cell? ⟨nb + 1, 1, none⟩ = some (.slice av2 l2.length cv2) := ⟨cell_blk X0.out 0, cell_blk X0.out 1, cell_blk X1.out 0, cell_blk X1.out 1⟩
             have YB := hide (DB.out.trans (hb7.mono DB.out.size))
             clear hb7)
          | fail)
      have hz : valS (!(m1 == m2)) (lv 1000000000 l3) = valI s.data.toList * valI t.data.toList := by
        rw [Q3.out, valS_mul, Q1.out, Q2.out]
      rw [hz]
      clear hz c0 c1 c2 c3 d0 d1 d2 d3 x0 x1 x2 x3
      go_wp2_with fail
      refine bodyPost_ret (results_tmp2 rfl _ _ _) rfl ?_
      exact ⟨rfl, YB.out⟩
  · obtain ⟨e1, e2⟩ := op2_bad (f := (· * ·)) hE
    rw [e1, e2]
    have hne : (bothI s.data.toList t.data.toList != 0) = true := by simpa using hE
    obtain ⟨E, hEE⟩ : ∃ E, E = bothI s.data.toList t.data.toList := ⟨_, rfl⟩
    rw [← hEE] at H1 hne ⊢
    clear e1 e2 hE hEE hT
    go_enter Tryz.func15, Tryz.ntmps15
    go_wp2_with fail
    refine H1.out.mono ?_
    rintro e w1 ⟨rfl, hb1⟩
    have HB1 := hide hb1
    clear hb1 H1
    go_wp2_with fail
    refine bodyPost_ret (results_tmp2 rfl _ _ _) rfl ?_
    exact ⟨rfl, HB1.out⟩
end Go.Proofs.YthkioajalhglfaaGreatDoor
