/-
  Texts of the integers, laid together: Pm, Pn, Po, Pq, Tb, Nt, Ny, Te, Tc, Nu, Nv, Tf, Pr.
-/
import Derived.BigQuiet
import Derived.Lib.IndexMore
import Derived.Test.YtgddookioipjiaaGreatDoorZ1
import Derived.Test.YtgddookioipjiaaGreatDoorZ3
import Derived.Test.YtgddookioipjiaaGreatDoorZ4
namespace Go.Proofs.YtgddookioipjiaaGreatDoor
open Go.RowKit Go.KP Go.KI Go.Shelf
attribute [local go_sem] Oper.semAt_some

theorem set1 {w : World} {b : Nat} {u0 u1 : Value} {t : TypeId} (h : w.heap[b]? = some (.cells #[u0, u1] t (0, 0))) (v0 : Value) :
    (w.setCell ⟨b, 0, none⟩ v0).heap[b]? = some (.cells #[v0, u1] t (0, 0)) ∧ Below b w (w.setCell ⟨b, 0, none⟩ v0) := by
  refine ⟨?_, (Below.refl b w).setCell (p := ⟨b, 0, none⟩) (Nat.le_refl _) _⟩
  simp only [World.setCell, Array.getElem?_modify, h]
  simp
theorem valS_not (m : Bool) (n : Nat) : valS (!m) n = - valS m n := by cases m <;> simp [valS]
set_option maxRecDepth 100000 in
set_option maxHeartbeats 2000000 in
theorem Sub_any (s t : ByteArray) (B : Nat) (w : World) (hs : s.size ≤ 1000000) (ht : t.size ≤ 1000000) (hB : B ≤ w.heap.size) (hT : P10 B w) :
    Calls Tryz.prog 89 #[.string s, .string t] w (Ret w (pairV (op2S (· - ·) s.data.toList t.data.toList) (op2E (· - ·) s.data.toList t.data.toList))) := by
  have H1 := hide (both_any s t hs ht w)
  have HT := hide hT
  by_cases hE : bothI s.data.toList t.data.toList = 0
  · obtain ⟨c1, c2, e1, e2⟩ := op2_good (f := (· - ·)) hE
    rw [e1, e2]
    have C1 := hide c1; have C2 := hide c2
    rw [hE] at H1
    clear e1 e2 hE hT hs ht
    by_cases hsm : s.size ≤ 18 ∧ t.size ≤ 18
    · have H2 := hide (fun w => small_yes s t c1 c2 hsm.1 hsm.2 w)
      have v1 := short_val (n := 18) c1 (by rw [bytes_len]; exact hsm.1) (by omega)
      have v2 := short_val (n := 18) c2 (by rw [bytes_len]; exact hsm.2) (by omega)
      rw [pow18] at v1 v2
      obtain ⟨x, hx⟩ : ∃ x, x = valI s.data.toList := ⟨_, rfl⟩
      obtain ⟨y, hy⟩ : ∃ y, y = valI t.data.toList := ⟨_, rfl⟩
      rw [← hx, ← hy] at H2 ⊢
      rw [← hx] at v1
      rw [← hy] at v2
      obtain ⟨z, hz⟩ : ∃ z, z = x - y := ⟨_, rfl⟩
      have hw : IntKind.i64.wrap (x - y) = z := by rw [hz]; exact IntWalk.i64_in _ (by omega)
      obtain ⟨e3, e4⟩ := resS_small (z := z) (Nat.lt_of_lt_of_le (m := 10 ^ 19) (by omega) (Nat.pow_le_pow_right (by omega) (by omega)))
      have hz1 : -9223372036854775808 ≤ z := by omega
      have hz2 : z ≤ 9223372036854775807 := by omega
      show Calls _ _ _ _ (Ret w (pairV (resS (x - y)) (resE (x - y))))
      rw [← hz, e3, e4]
      clear c1 c2 hsm hx hy hz e3 e4
      go_enter Tryz.func89, Tryz.ntmps89
      go_wp2_with fail
      refine H1.out.mono ?_
      rintro e w1 ⟨rfl, hb1⟩
      have HB1 := hide hb1
      clear hb1 H1
      go_wp2_with fail
      refine (H2.out _).mono ?_
      rintro e w2 ⟨rfl, hb2⟩
      have HB2 := hide (HB1.out.trans (hb2.mono HB1.out.size))
      clear hb2 H2 HB1
      go_wp2_with fail
      refine (itoa_any z hz1 hz2 B w2 (HT.out.on HB2.out hB)).mono ?_
      rintro e w3 ⟨rfl, hb3⟩
      have HB3 := hide (HB2.out.trans (hb3.mono HB2.out.size))
      clear hb3 HB2
      go_wp2_with fail
      refine bodyPost_ret (results_tmp2 rfl _ _ _) rfl ?_
      exact ⟨rfl, HB3.out⟩
    · have H2 := hide (fun w => small_no s t hsm w)
      have R1 := hide (fun w => read_good s c1 w)
      have R2 := hide (fun w => read_good t c2 w)
      clear c1 c2 hsm
      go_enter Tryz.func89, Tryz.ntmps89
      go_wp2_with fail
      refine H1.out.mono ?_
      rintro e w1 ⟨rfl, hb1⟩
      have HB1 := hide hb1
      clear hb1 H1
      go_wp2_with fail
      refine (H2.out _).mono ?_
      rintro e w2 ⟨rfl, hb2⟩
      have HB2 := hide (HB1.out.trans (hb2.mono HB1.out.size))
      clear hb2 H2 HB1
      go_wp2_with fail
      refine (R2.out _).mono ?_
      rintro e w3 ⟨m2, a2, l2, rfl, hb3, o2, n2, q2, k2⟩
      obtain ⟨av, cv, hvf, _, _⟩ := o2.form
      subst hvf
      obtain ⟨g0, gs0, gb0⟩ := heap1 w3 (.cells #[.bool m2, .slice av l2.length cv] 128)
      have c0 := cell_blk g0 0
      have c1 := cell_blk g0 1
      have f0 := froz_blk g0 0
      have HB3 := hide (HB2.out.trans (hb3.mono HB2.out.size))
      have O2 := hide o2; have N2 := hide n2; have Q2 := hide q2
      clear hb3 HB2 R2 o2 n2 q2 g0 gs0 gb0
      go_wp2_with fail
      clear c0 c1 f0
      obtain ⟨g0, gs0, gb0⟩ := heap1 w3 (.cells #[.bool (!m2), .slice av l2.length cv] 128)
      obtain ⟨w4, hw4⟩ : ∃ w4, w3.alloc (.cells #[.bool (!m2), .slice av l2.length cv] 128) = w4 := ⟨_, rfl⟩
      rw [hw4] at g0 gs0 gb0 ⊢
      have c0 := cell_blk g0 0
      have c1 := cell_blk g0 1
      have O4 := hide (OwnL.keep O2.out gb0)
      have HB4 := hide (HB3.out.trans (gb0.mono HB3.out.size)); have G0 := hide g0
      have hs4 : w3.heap.size < w4.heap.size := by omega
      obtain ⟨nb, hnb⟩ : ∃ nb, nb = w3.heap.size := ⟨_, rfl⟩
      rw [← hnb] at c0 c1 G0 hs4 ⊢
      clear g0 gs0 gb0 hw4 O2 HB3 hnb
      go_region_held3 (fun w' => w'.cell? ⟨nb, 0, none⟩ = some (.bool (!m2)) ∧ w'.cell? ⟨nb, 1, none⟩ = some (.slice av l2.length cv)) (first | exact ⟨c0, c1⟩ | exact ⟨d0, d1⟩ | exact ⟨x0, x1⟩ | exact ⟨y0, y1⟩)
        (first
          | (go_at_call 115
             refine (R1.out _).mono ?_
             rintro e w5 ⟨m1, a1, l1, rfl, hb5, o1, n1, q1, k1⟩
             obtain ⟨d0, d1⟩ : w5.cell? ⟨nb, 0, none⟩ = some (.bool (!m2)) ∧ w5.cell? ⟨nb, 1, none⟩ = some (.slice av l2.length cv) := ⟨cell_blk (below_blk hb5 G0.out hs4) 0, cell_blk (below_blk hb5 G0.out hs4) 1⟩
             have D0 := hide (below_blk hb5 G0.out hs4)
             have D2 := hide (show OwnL 0 w5 (.slice av l2.length cv) l2 from OwnL.keep (show OwnL 0 w4.drew (.slice av l2.length cv) l2 from O4.out.drew) hb5)
             have DB := hide (show Below w.heap.size w w5 from (HB4.out.drew).trans (hb5.mono HB4.out.size))
             have hs5 : nb < w5.heap.size := Nat.lt_of_lt_of_le hs4 hb5.size
             have O1 := hide o1; have N1 := hide n1; have Q1 := hide q1
             clear hb5 o1 n1 q1)
          | (go_at_call 125
             refine (add_any m1 (!m2) a1 _ l1 l2 w5.heap.size w5 (.of_own O1.out) (.of_own D2.out) (Nat.le_refl _) N1.out N2.out (by omega) (by omega)).mono ?_
             rintro e w6 ⟨_, rfl, hb6, m3, a3, l3, rfl, o3, n3, q3, k3⟩
             obtain ⟨x0, x1⟩ : w6.cell? ⟨nb, 0, none⟩ = some (.bool (!m2)) ∧ w6.cell? ⟨nb, 1, none⟩ = some (.slice av l2.length cv) := ⟨cell_blk (below_blk hb6 D0.out hs5) 0, cell_blk (below_blk hb6 D0.out hs5) 1⟩
             have X0 := hide (below_blk hb6 D0.out hs5)
             have hs6 : nb < w6.heap.size := Nat.lt_of_lt_of_le hs5 hb6.size
             have XB := hide (DB.out.trans (hb6.mono DB.out.size))
             have O3 := hide o3; have N3 := hide n3; have Q3 := hide q3
             clear hb6 o3 n3 q3)
          | (go_at_call 120
             refine (result_own m3 a3 l3 0 B w6 O3.out N3.out (by omega) (HT.out.on XB.out hB) (Nat.le_trans hB XB.out.size)).mono ?_
             rintro e w7 ⟨rfl, hb7⟩
             obtain ⟨y0, y1⟩ : w7.cell? ⟨nb, 0, none⟩ = some (.bool (!m2)) ∧ w7.cell? ⟨nb, 1, none⟩ = some (.slice av l2.length cv) := ⟨cell_blk (below_blk hb7 X0.out hs6) 0, cell_blk (below_blk hb7 X0.out hs6) 1⟩
             have YB := hide (XB.out.trans (hb7.mono XB.out.size))
             clear hb7)
          | fail)
      have hz : valS m3 (lv 1000000000 l3) = valI s.data.toList - valI t.data.toList := by
        rw [Q3.out, Q1.out, valS_not, Q2.out]
        omega
      rw [hz]
      clear hz c0 c1 d0 d1 x0 x1 y0 y1
      go_wp2_with fail
      refine bodyPost_ret (results_tmp2 rfl _ _ _) rfl ?_
      exact ⟨rfl, YB.out⟩
  · obtain ⟨e1, e2⟩ := op2_bad (f := (· - ·)) hE
    rw [e1, e2]
    have hne : (bothI s.data.toList t.data.toList != 0) = true := by simpa using hE
    obtain ⟨E, hEE⟩ : ∃ E, E = bothI s.data.toList t.data.toList := ⟨_, rfl⟩
    rw [← hEE] at H1 hne ⊢
    clear e1 e2 hE hEE hT
    go_enter Tryz.func89, Tryz.ntmps89
    go_wp2_with fail
    refine H1.out.mono ?_
    rintro e w1 ⟨rfl, hb1⟩
    have HB1 := hide hb1
    clear hb1 H1
    go_wp2_with fail
    refine bodyPost_ret (results_tmp2 rfl _ _ _) rfl ?_
    exact ⟨rfl, HB1.out⟩
end Go.Proofs.YtgddookioipjiaaGreatDoor
namespace Go.Proofs.YtgddookioipjiaaGreatDoor
open Go.RowKit Go.KP Go.KI Go.Shelf
attribute [local go_sem] Oper.semAt_some

theorem chk_pos {l : List UInt8} (h : chkI l = 0) : 1 ≤ l.length := by
  cases l with
  | nil =>
    unfold chkI at h
    rw [if_pos (.inl rfl)] at h
    cases h
  | cons c r => simp
theorem valS_mul (m1 m2 : Bool) (a b : Nat) : valS (!(m1 == m2)) (a * b) = valS m1 a * valS m2 b := by cases m1 <;> cases m2 <;> simp [valS, Int.mul_neg, Int.neg_mul]
set_option maxRecDepth 100000 in
set_option maxHeartbeats 2000000 in
theorem Mul_any (s t : ByteArray) (B : Nat) (w : World) (hs : s.size ≤ 1000000) (ht : t.size ≤ 1000000) (hB : B ≤ w.heap.size) (hT : P10 B w) :
    Calls Tryz.prog 97 #[.string s, .string t] w (Ret w (pairV (op2S (· * ·) s.data.toList t.data.toList) (op2E (· * ·) s.data.toList t.data.toList))) := by
  have H1 := hide (both_any s t hs ht w)
  have HT := hide hT
  by_cases hE : bothI s.data.toList t.data.toList = 0
  · obtain ⟨c1, c2, e1, e2⟩ := op2_good (f := (· * ·)) hE
    rw [e1, e2]
    have C1 := hide c1; have C2 := hide c2
    rw [hE] at H1
    clear e1 e2 hE hT
    by_cases hsm : s.size + t.size ≤ 18
    · have H2 := hide (fun w => small_yes s t c1 c2 (by omega) (by omega) w)
      have z1 := chk_pos c1
      have z2 := chk_pos c2
      rw [bytes_len] at z1 z2
      have v1 := short_val (n := s.size) c1 (by rw [bytes_len]; exact Nat.le_refl _) z1
      have v2 := short_val (n := t.size) c2 (by rw [bytes_len]; exact Nat.le_refl _) z2
      obtain ⟨x, hx⟩ : ∃ x, x = valI s.data.toList := ⟨_, rfl⟩
      obtain ⟨y, hy⟩ : ∃ y, y = valI t.data.toList := ⟨_, rfl⟩
      rw [← hx, ← hy] at H2 ⊢
      rw [← hx] at v1
      rw [← hy] at v2
      obtain ⟨z, hz⟩ : ∃ z, z = x * y := ⟨_, rfl⟩
      have hzz : z.natAbs < 1000000000000000000 := by
        rw [hz, Int.natAbs_mul, ← pow18]
        refine Nat.lt_of_lt_of_le (Nat.mul_lt_mul'' v1 v2) ?_
        rw [← Nat.pow_add]
        exact Nat.pow_le_pow_right (by omega) hsm
      have hw : IntKind.i64.wrap (x * y) = z := by rw [← hz]; exact IntWalk.i64_in _ (by omega)
      obtain ⟨e3, e4⟩ := resS_small (z := z) (Nat.lt_of_lt_of_le (m := 10 ^ 19) (by omega) (Nat.pow_le_pow_right (by omega) (by omega)))
      have hz1 : -9223372036854775808 ≤ z := by omega
      have hz2 : z ≤ 9223372036854775807 := by omega
      have hle : (s.size : Int) + (t.size : Int) ≤ 18 := by omega
      show Calls _ _ _ _ (Ret w (pairV (resS (x * y)) (resE (x * y))))
      rw [← hz, e3, e4]
      clear v1 v2 z1 z2 hzz
      clear c1 c2 hsm hx hy hz e3 e4
      go_enter Tryz.func97, Tryz.ntmps97
      go_wp2_with fail
      refine H1.out.mono ?_
      rintro e w1 ⟨rfl, hb1⟩
      have HB1 := hide hb1
      clear hb1 H1
      go_wp2_with fail
      refine (H2.out _).mono ?_
      rintro e w2 ⟨rfl, hb2⟩
      have HB2 := hide (HB1.out.trans (hb2.mono HB1.out.size))
      clear hb2 H2 HB1
      go_wp2_with fail
      refine (itoa_any z hz1 hz2 B w2 (HT.out.on HB2.out hB)).mono ?_
      rintro e w3 ⟨rfl, hb3⟩
      have HB3 := hide (HB2.out.trans (hb3.mono HB2.out.size))
      clear hb3 HB2
      go_wp2_with fail
      refine bodyPost_ret (results_tmp2 rfl _ _ _) rfl ?_
      exact ⟨rfl, HB3.out⟩
    · have hgt : ((s.size : Int) + (t.size : Int) ≤ 18) = False := eq_false (by omega)
      have R1 := hide (fun w => read_good s c1 w)
      have R2 := hide (fun w => read_good t c2 w)
      clear c1 c2 hsm
      go_enter Tryz.func97, Tryz.ntmps97
      go_wp2_with fail
      refine H1.out.mono ?_
      rintro e w1 ⟨rfl, hb1⟩
      have HB1 := hide hb1
      clear hb1 H1
      go_wp2_with fail
      refine (R1.out _).mono ?_
      rintro e w2 ⟨m1, a1, l1, rfl, hb2, o1, n1, q1, k1⟩
      have HB2 := hide (HB1.out.trans (hb2.mono HB1.out.size))
      have O1 := hide o1; have N1 := hide n1; have Q1 := hide q1
      clear hb2 HB1 R1 o1 n1 q1
      go_wp2_with fail
      refine (R2.out _).mono ?_
      rintro e w3 ⟨m2, a2, l2, rfl, hb3, o2, n2, q2, k2⟩
      have HB3 := hide (HB2.out.trans (hb3.mono HB2.out.size))
      have O1' := hide (O1.out.keep hb3)
      have O2 := hide o2; have N2 := hide n2; have Q2 := hide q2
      clear hb3 HB2 R2 o2 n2 q2 O1
      obtain ⟨av1, cv1, hvf, _, _⟩ := O1'.out.form
      subst hvf
      obtain ⟨av2, cv2, hvf, _, _⟩ := O2.out.form
      subst hvf
      go_wp2_with fail
      obtain ⟨g0, g1, gs0, gb0⟩ := heap2 w3 (.cells #[.bool m1, .slice av1 l1.length cv1] 128) (.cells #[.bool m2, .slice av2 l2.length cv2] 128)
      obtain ⟨w4, hw4⟩ : ∃ w4, (w3.alloc (.cells #[.bool m1, .slice av1 l1.length cv1] 128)).alloc (.cells #[.bool m2, .slice av2 l2.length cv2] 128) = w4 := ⟨_, rfl⟩
      rw [hw4] at g0 g1 gs0 gb0 ⊢
      have c0 := cell_blk g0 0
      have c1 := cell_blk g0 1
      have c2 := cell_blk g1 0
      have c3 := cell_blk g1 1
      have O3 := hide (OwnL.keep O1'.out gb0); have O4 := hide (OwnL.keep O2.out gb0)
      have HB4 := hide (HB3.out.trans (gb0.mono HB3.out.size)); have G0 := hide g0; have G1 := hide g1
      have hs4 : w3.heap.size + 1 < w4.heap.size := by omega
      obtain ⟨nb, hnb⟩ : ∃ nb, nb = w3.heap.size := ⟨_, rfl⟩
      rw [← hnb] at c0 c1 c2 c3 G0 G1 hs4 ⊢
      clear g0 g1 gs0 gb0 hw4 O1' O2 HB3 hnb
      have hlen := l1.length
      go_region_held3 (fun w' => w'.cell? ⟨nb, 0, none⟩ = some (.bool m1) ∧ w'.cell? ⟨nb, 1, none⟩ = some (.slice av1 l1.length cv1) ∧ w'.cell? ⟨nb + 1, 0, none⟩ = some (.bool m2) ∧ w'.cell? ⟨nb + 1, 1, none⟩ = some (.slice av2 l2.length cv2)) (first | exact ⟨c0, c1, c2, c3⟩ | exact ⟨d0, d1, d2, d3⟩ | exact ⟨x0, x1, x2, x3⟩)
        (first
          | (go_at_call 156
             refine (times_any _ _ l1 l2 w4.heap.size w4.drew (.of_own (show OwnL 0 w4.drew _ l1 from O3.out.drew)) (.of_own (show OwnL 0 w4.drew _ l2 from O4.out.drew)) (Nat.le_refl _) N1.out.lt N2.out.lt (by omega) (by omega)).mono ?_
             rintro e w5 ⟨l3, ⟨v3, rfl, hb5, o3⟩, n3, q3, k3⟩
             obtain ⟨av3, cv3, hvf, _, _⟩ := o3.form
             subst hvf
             have D0 := hide (below_blk hb5 G0.out (by show nb < w4.heap.size; omega))
             have D1 := hide (below_blk hb5 G1.out (by show nb + 1 < w4.heap.size; omega))
             obtain ⟨d0, d1, d2, d3⟩ : w5.cell? ⟨nb, 0, none⟩ = some (.bool m1) ∧ w5.cell? ⟨nb, 1, none⟩ = some (.slice av1 l1.length cv1) ∧ w5.cell? ⟨nb + 1, 0, none⟩ = some (.bool m2) ∧ w5.cell? ⟨nb + 1, 1, none⟩ = some (.slice av2 l2.length cv2) := ⟨cell_blk D0.out 0, cell_blk D0.out 1, cell_blk D1.out 0, cell_blk D1.out 1⟩
             have DB := hide (show Below w.heap.size w w5 from (HB4.out.drew).trans (hb5.mono HB4.out.size))
             have hs5 : nb + 1 < w5.heap.size := Nat.lt_of_lt_of_le hs4 hb5.size
             have O5 := hide o3; have N3 := hide n3; have Q3 := hide q3
             clear hb5 o3 n3 q3)
          | (go_at_call 120
             refine (result_own (!(m1 == m2)) _ l3 _ B w5 O5.out N3.out (by omega) (HT.out.on DB.out hB) (Nat.le_trans hB DB.out.size)).mono ?_
             rintro e w7 ⟨rfl, hb7⟩
             have X0 := hide (below_blk hb7 D0.out (by omega))
             have X1 := hide (below_blk hb7 D1.out (by omega))
             obtain ⟨x0, x1, x2, x3⟩ : w7.cell? ⟨nb, 0, none⟩ = some (.bool m1) ∧ w7.cell? ⟨nb, 1, none⟩ = some (.slice av1 l1.length cv1) ∧ w7.cell? ⟨nb + 1, 0, none⟩ = some (.bool m2) ∧ w7.cell? ⟨nb + 1, 1, none⟩ = some (.slice av2 l2.length cv2) := ⟨cell_blk X0.out 0, cell_blk X0.out 1, cell_blk X1.out 0, cell_blk X1.out 1⟩
             have YB := hide (DB.out.trans (hb7.mono DB.out.size))
             clear hb7)
          | fail)
      have hz : valS (!(m1 == m2)) (lv 1000000000 l3) = valI s.data.toList * valI t.data.toList := by
        rw [Q3.out, valS_mul, Q1.out, Q2.out]
      rw [hz]
      clear hz c0 c1 c2 c3 d0 d1 d2 d3 x0 x1 x2 x3
      go_wp2_with fail
      refine bodyPost_ret (results_tmp2 rfl _ _ _) rfl ?_
      exact ⟨rfl, YB.out⟩
  · obtain ⟨e1, e2⟩ := op2_bad (f := (· * ·)) hE
    rw [e1, e2]
    have hne : (bothI s.data.toList t.data.toList != 0) = true := by simpa using hE
    obtain ⟨E, hEE⟩ : ∃ E, E = bothI s.data.toList t.data.toList := ⟨_, rfl⟩
    rw [← hEE] at H1 hne ⊢
    clear e1 e2 hE hEE hT
    go_enter Tryz.func97, Tryz.ntmps97
    go_wp2_with fail
    refine H1.out.mono ?_
    rintro e w1 ⟨rfl, hb1⟩
    have HB1 := hide hb1
    clear hb1 H1
    go_wp2_with fail
    refine bodyPost_ret (results_tmp2 rfl _ _ _) rfl ?_
    exact ⟨rfl, HB1.out⟩
end Go.Proofs.YtgddookioipjiaaGreatDoor
namespace Go.Proofs.YtgddookioipjiaaGreatDoor
open Go.RowKit Go.KP Go.KI Go.Shelf
attribute [local go_sem] Oper.semAt_some

/-- What Compare answers. -/
def cmpV (a b : List UInt8) : Int := if bothI a b = 0 then Lib.compareInt (valI a) (valI b) else 0
set_option maxRecDepth 100000 in
set_option maxHeartbeats 2000000 in
theorem Compare_any (s t : ByteArray) (w : World) (hs : s.size ≤ 1000000) (ht : t.size ≤ 1000000) :
    Calls Tryz.prog 70 #[.string s, .string t] w (Ret w (.tuple #[.int .i64 (cmpV s.data.toList t.data.toList), .int .i64 (bothI s.data.toList t.data.toList)])) := by
  have H1 := hide (both_any s t hs ht w)
  by_cases hE : bothI s.data.toList t.data.toList = 0
  · have e1 : cmpV s.data.toList t.data.toList = Lib.compareInt (valI s.data.toList) (valI t.data.toList) := if_pos hE
    obtain ⟨c1, c2, _, _⟩ := op2_good (f := (· + ·)) hE
    rw [e1, hE]
    have C1 := hide c1; have C2 := hide c2
    rw [hE] at H1
    clear e1 hE hs ht
    by_cases hsm : s.size ≤ 18 ∧ t.size ≤ 18
    · have H2 := hide (fun w => small_yes s t c1 c2 hsm.1 hsm.2 w)
      obtain ⟨x, hx⟩ : ∃ x, x = valI s.data.toList := ⟨_, rfl⟩
      obtain ⟨y, hy⟩ : ∃ y, y = valI t.data.toList := ⟨_, rfl⟩
      rw [← hx, ← hy] at H2 ⊢
      clear c1 c2 hsm hx hy
      go_enter Tryz.func70, Tryz.ntmps70
      go_wp2_with fail
      refine H1.out.mono ?_
      rintro e w1 ⟨rfl, hb1⟩
      have HB1 := hide hb1
      clear hb1 H1
      go_wp2_with fail
      refine (H2.out _).mono ?_
      rintro e w2 ⟨rfl, hb2⟩
      have HB2 := hide (HB1.out.trans (hb2.mono HB1.out.size))
      clear hb2 H2 HB1
      go_wp2_with fail
      refine (Tryz.cmp_Compare_int x y w2).mono ?_
      rintro e w3 ⟨rfl, rfl⟩
      go_wp2_with fail
      refine bodyPost_ret (results_tmp2 rfl _ _ _) rfl ?_
      exact ⟨rfl, HB2.out⟩
    · have H2 := hide (fun w => small_no s t hsm w)
      have R1 := hide (fun w => read_good s c1 w)
      have R2 := hide (fun w => read_good t c2 w)
      clear c1 c2 hsm
      go_enter Tryz.func70, Tryz.ntmps70
      go_wp2_with fail
      refine H1.out.mono ?_
      rintro e w1 ⟨rfl, hb1⟩
      have HB1 := hide hb1
      clear hb1 H1
      go_wp2_with fail
      refine (H2.out _).mono ?_
      rintro e w1 ⟨rfl, hb2⟩
      have HB1' := hide (HB1.out.trans (hb2.mono HB1.out.size))
      clear hb2 H2 HB1
      go_wp2_with fail
      refine (R1.out _).mono ?_
      rintro e w2 ⟨m1, a1, l1, rfl, hb2, o1, n1, q1, k1⟩
      have HB2 := hide (HB1'.out.trans (hb2.mono HB1'.out.size))
      have O1 := hide o1; have N1 := hide n1; have Q1 := hide q1
      clear hb2 HB1' R1 o1 n1 q1
      go_wp2_with fail
      refine (R2.out _).mono ?_
      rintro e w3 ⟨m2, a2, l2, rfl, hb3, o2, n2, q2, k2⟩
      have HB3 := hide (HB2.out.trans (hb3.mono HB2.out.size))
      have O1' := hide (O1.out.keep hb3)
      have O2 := hide o2; have N2 := hide n2; have Q2 := hide q2
      clear hb3 HB2 R2 o2 n2 q2 O1
      obtain ⟨av1, cv1, hvf, _, _⟩ := O1'.out.form
      subst hvf
      obtain ⟨av2, cv2, hvf, _, _⟩ := O2.out.form
      subst hvf
      obtain ⟨g0, g1, gs0, gb0⟩ := heap2 w3 (.cells #[.bool m1, .slice av1 l1.length cv1] 128) (.cells #[.bool m2, .slice av2 l2.length cv2] 128)
      have c0 := cell_blk g0 0
      have c1 := cell_blk g0 1
      have c2 := cell_blk g1 0
      have c3 := cell_blk g1 1
      have f2 := froz_blk g1 0
      obtain ⟨h0, h1, hs0, hb0⟩ := heap2 w3 (.cells #[.bool m1, .slice av1 l1.length cv1] 128) (.cells #[.bool (!m2), .slice av2 l2.length cv2] 128)
      have H0 := hide h0; have H1 := hide h1; have HS0 := hide hs0; have HB0 := hide hb0
      clear g0 g1 gs0 gb0 h0 h1 hs0 hb0
      go_wp2_with fail
      clear c0 c1 c2 c3 f2
      obtain ⟨w4, hw4⟩ : ∃ w4, (w3.alloc (.cells #[.bool m1, .slice av1 l1.length cv1] 128)).alloc (.cells #[.bool (!m2), .slice av2 l2.length cv2] 128) = w4 := ⟨_, rfl⟩
      rw [hw4] at H0 H1 HS0 HB0 ⊢
      have O3 := OwnL.keep O1'.out HB0.out
      have O4 := OwnL.keep O2.out HB0.out
      have HB4 := hide (HB3.out.trans (HB0.out.mono HB3.out.size))
      refine (add_any m1 (!m2) _ _ l1 l2 w4.heap.size w4 (.of_own O3) (.of_own O4) (Nat.le_refl _) N1.out N2.out (by omega) (by omega)).mono ?_
      rintro e w5 ⟨_, rfl, hb5, m3, a3, l3, rfl, o3, n3, q3, k3⟩
      obtain ⟨av3, cv3, hvf, _, _⟩ := o3.form
      subst hvf
      have hz : valS m3 (lv 1000000000 l3) = valI s.data.toList - valI t.data.toList := by
        rw [q3, Q1.out, valS_not, Q2.out]
        omega
      have HZ := hide hz
      have HB5 := hide (HB4.out.trans (hb5.mono HB4.out.size))
      obtain ⟨g0, gs0, gb0⟩ := heap1 w5 (.cells #[.bool m3, .slice av3 l3.length cv3] 128)
      have c0 := cell_blk g0 0
      have c1 := cell_blk g0 1
      have HB6 := hide (HB5.out.trans (gb0.mono HB5.out.size))
      obtain ⟨n3l, hn3l⟩ : ∃ n, n = l3.length := ⟨_, rfl⟩
      have hnorm := n3.zero (by omega)
      rw [← hn3l] at c0 c1 g0 gb0 HB6 ⊢
      have h30 : n3l = 0 ↔ lv 1000000000 l3 = 0 := by
        rw [hnorm, hn3l]
        exact ⟨List.eq_nil_of_length_eq_zero, fun e => by rw [e]; rfl⟩
      clear g0 gs0 gb0 hb5 o3 n3 q3 O3 O4 hw4 H0 H1 HS0 HB0 O1' O2 hnorm hn3l HB3 HB4 HB5 hz
      by_cases hl : n3l = 0
      · have hq : ((n3l : Int) == 0) = true := by rw [hl]; rfl
        have hv : Lib.compareInt (valI s.data.toList) (valI t.data.toList) = 0 := by
          have h2 := HZ.out
          rw [h30.1 hl] at h2
          have h3 : valI s.data.toList = valI t.data.toList := by
            cases m3 <;> simp [valS] at h2 <;> omega
          unfold Lib.compareInt
          rw [if_neg (by omega), if_neg (by omega)]
        have HV := hide hv
        clear hv h30 hl
        go_wp2_with fail
        refine bodyPost_ret (results_tmp2 rfl _ _ _) rfl ?_
        exact ⟨by rw [HV.out]; rfl, HB6.out⟩
      · have hq : ((n3l : Int) == 0) = false := by simpa using hl
        have hp : 0 < lv 1000000000 l3 := Nat.pos_of_ne_zero (fun e => hl (h30.2 e))
        clear hl h30
        cases m3
        · have hv : Lib.compareInt (valI s.data.toList) (valI t.data.toList) = 1 := by
            have h2 := HZ.out
            simp only [valS, Bool.false_eq_true, if_false] at h2
            unfold Lib.compareInt
            rw [if_neg (by omega), if_pos (by omega)]
          have HV := hide hv
          clear hv
          go_wp2_with fail
          refine bodyPost_ret (results_tmp2 rfl _ _ _) rfl ?_
          exact ⟨by rw [HV.out]; rfl, HB6.out⟩
        · have hv : Lib.compareInt (valI s.data.toList) (valI t.data.toList) = -1 := by
            have h2 := HZ.out
            simp only [valS, if_true] at h2
            unfold Lib.compareInt
            rw [if_pos (by omega)]
          have HV := hide hv
          clear hv
          go_wp2_with fail
          refine bodyPost_ret (results_tmp2 rfl _ _ _) rfl ?_
          exact ⟨by rw [HV.out]; rfl, HB6.out⟩
  · have e1 : cmpV s.data.toList t.data.toList = 0 := if_neg hE
    rw [e1]
    have hne : (bothI s.data.toList t.data.toList != 0) = true := by simpa using hE
    obtain ⟨E, hEE⟩ : ∃ E, E = bothI s.data.toList t.data.toList := ⟨_, rfl⟩
    rw [← hEE] at H1 hne ⊢
    clear e1 hE hEE
    go_enter Tryz.func70, Tryz.ntmps70
    go_wp2_with fail
    refine H1.out.mono ?_
    rintro e w1 ⟨rfl, hb1⟩
    have HB1 := hide hb1
    clear hb1 H1
    go_wp2_with fail
    refine bodyPost_ret (results_tmp2 rfl _ _ _) rfl ?_
    exact ⟨rfl, HB1.out⟩
end Go.Proofs.YtgddookioipjiaaGreatDoor
namespace Go.Proofs.YtgddookioipjiaaGreatDoor
open Go.RowKit Go.KP Go.KI Go.Shelf
attribute [local go_sem] Oper.semAt_some

theorem natAbs_tmod_lt (x : Int) {y : Int} (hy : y ≠ 0) : (x.tmod y).natAbs < y.natAbs := by
  rw [Int.natAbs_tmod]
  exact Nat.mod_lt _ (by omega)
theorem natAbs_tdiv_le (x y : Int) : (x.tdiv y).natAbs ≤ x.natAbs := by
  rw [Int.natAbs_tdiv]
  exact Nat.div_le_self _ _
/-- The floor's quotient, from the cut-off one. -/
theorem floor_same {x y : Int} (hy : y ≠ 0) (h : x.tmod y = 0 ∨ (x.tmod y < 0 ↔ y < 0)) : x.tdiv y = x.fdiv y ∧ x.tmod y = x.fmod y := by
  have h1 := Int.mul_tdiv_add_tmod x y
  have h2 := natAbs_tmod_lt x hy
  rcases Int.lt_or_gt_of_ne hy with hn | hp
  · have := (Int.fdiv_fmod_unique' (a := x) (r := x.tmod y) (q := x.tdiv y) hn).2 ⟨by omega, by omega, by omega⟩
    exact ⟨this.1.symm, this.2.symm⟩
  · have := (Int.fdiv_fmod_unique (a := x) (r := x.tmod y) (q := x.tdiv y) hp).2 ⟨by omega, by omega, by omega⟩
    exact ⟨this.1.symm, this.2.symm⟩
theorem floor_less {x y : Int} (hy : y ≠ 0) (h0 : x.tmod y ≠ 0) (h : ¬ (x.tmod y < 0 ↔ y < 0)) : x.tdiv y - 1 = x.fdiv y ∧ x.tmod y + y = x.fmod y := by
  have h1 := Int.mul_tdiv_add_tmod x y
  have h2 := natAbs_tmod_lt x hy
  have h3 : y * (x.tdiv y - 1) = y * x.tdiv y - y := by rw [Int.mul_sub, Int.mul_one]
  rcases Int.lt_or_gt_of_ne hy with hn | hp
  · have := (Int.fdiv_fmod_unique' (a := x) (r := x.tmod y + y) (q := x.tdiv y - 1) hn).2 ⟨by omega, by omega, by omega⟩
    exact ⟨this.1.symm, this.2.symm⟩
  · have := (Int.fdiv_fmod_unique (a := x) (r := x.tmod y + y) (q := x.tdiv y - 1) hp).2 ⟨by omega, by omega, by omega⟩
    exact ⟨this.1.symm, this.2.symm⟩
/-- Three values: two texts and an error. -/
abbrev tripV (s r : List UInt8) (e : Int) : Value := .tuple #[.string (strB s), .string (strB r), .int .i64 e]
theorem results_tmp3' {fn : Func} {t u v : Tmp} (h : fn.results = #[.tmp t, .tmp u, .tmp v]) (tmps : Array Value) (P : Program) (w : World) :
    (results fn tmps).run P w = .ok (.tuple #[tmps.getD t undef, tmps.getD u undef, tmps.getD v undef]) w := by
  simp [results, h, go_sem]
set_option maxRecDepth 100000 in
set_option maxHeartbeats 2000000 in
theorem Divide_small (s t : ByteArray) (B : Nat) (w : World) (c1 : chkI s.data.toList = 0) (c2 : chkI t.data.toList = 0) (hs : s.size ≤ 18) (ht : t.size ≤ 18) (h0 : t.data.toList ≠ [48]) (hB : B ≤ w.heap.size) (hT : P10 B w) :
    Calls Tryz.prog 59 #[.string s, .string t] w (Ret w (tripV (Lib.itoa ((valI s.data.toList).fdiv (valI t.data.toList))) (Lib.itoa ((valI s.data.toList).fmod (valI t.data.toList))) 0)) := by
  have H1 := hide (both_any s t (by omega) (by omega) w)
  have hb0 : bothI s.data.toList t.data.toList = 0 := by unfold bothI; rw [if_pos c1, c2]
  rw [hb0] at H1
  have HT := hide hT
  have H2 := hide (fun w => small_yes s t c1 c2 hs ht w)
  have v1 := short_val (n := 18) c1 (by rw [bytes_len]; exact hs) (by omega)
  have v2 := short_val (n := 18) c2 (by rw [bytes_len]; exact ht) (by omega)
  rw [pow18] at v1 v2
  have hy0 : valI t.data.toList ≠ 0 := by
    intro e
    have := (chk_ok c2).1
    rw [e, itoa_zero] at this
    exact h0 this
  have hq : (t.toList == [48]) = false := by rw [ByteArray.toList_eq]; simpa using h0
  obtain ⟨x, hx⟩ : ∃ x, x = valI s.data.toList := ⟨_, rfl⟩
  obtain ⟨y, hy⟩ : ∃ y, y = valI t.data.toList := ⟨_, rfl⟩
  rw [← hx, ← hy] at H2 ⊢
  rw [← hx] at v1
  rw [← hy] at v2 hy0
  have r1 := natAbs_tmod_lt x hy0
  have q1 := natAbs_tdiv_le x y
  have hyq : (y == 0) = false := by simpa using hy0
  clear c1 c2 hs ht h0 hT hx hy hb0
  go_enter Tryz.func59, Tryz.ntmps59
  go_wp2_with fail
  refine H1.out.mono ?_
  rintro e w1 ⟨rfl, hb1⟩
  have HB1 := hide hb1
  clear hb1 H1
  go_wp2_with fail
  refine (H2.out _).mono ?_
  rintro e w2 ⟨rfl, hb2⟩
  have HB2 := hide (HB1.out.trans (hb2.mono HB1.out.size))
  clear hb2 H2 HB1
  go_wp2_with fail
  go_quiet (fail)
  obtain ⟨w3, hw3⟩ : ∃ w3, w3 = w2.drewN nq := ⟨_, rfl⟩
  rw [← hw3]
  have HB3 := hide (show Below w.heap.size w w3 by rw [hw3]; exact ⟨HB2.out.os, HB2.out.tape, HB2.out.output, HB2.out.size, HB2.out.block⟩)
  clear hw3 HB2
  have FS := hide (floor_same (x := x) hy0); have FL := hide (floor_less (x := x) hy0)
  obtain ⟨q, hq2⟩ : ∃ q, q = x.tdiv y := ⟨_, rfl⟩
  obtain ⟨r, hr2⟩ : ∃ r, r = x.tmod y := ⟨_, rfl⟩
  rw [← hq2] at q1
  rw [← hr2] at r1
  rw [← hq2, ← hr2] at FS FL ⊢
  clear hq2 hr2 hyq hy0 hq
  obtain ⟨g, hg⟩ : ∃ g, g = x.fdiv y := ⟨_, rfl⟩
  obtain ⟨h, hh⟩ : ∃ h, h = x.fmod y := ⟨_, rfl⟩
  rw [← hg, ← hh] at FS FL
  have HG := hide hg; have HH := hide hh
  clear hg hh
  by_cases hr0 : r = 0
  · obtain ⟨f1, f2⟩ := FS.out (.inl hr0)
    have t1 : (r != 0) = false := by simp [hr0]
    have F1 := hide (f1.trans HG.out); have F2 := hide (f2.trans HH.out)
    clear hr0 f1 f2
    go_wp2_with fail
    refine (itoa_any q (by omega) (by omega) B _ (HT.out.on HB3.out hB)).mono ?_
    rintro e w4 ⟨rfl, hb4⟩
    have HB4 := hide (HB3.out.trans (hb4.mono HB3.out.size))
    clear hb4 HB3
    go_wp2_with fail
    refine (itoa_any r (by omega) (by omega) B _ (HT.out.on HB4.out hB)).mono ?_
    rintro e w5 ⟨rfl, hb5⟩
    have HB5 := hide (HB4.out.trans (hb5.mono HB4.out.size))
    clear hb5 HB4
    go_wp2_with fail
    refine bodyPost_ret (results_tmp3' rfl _ _ _) rfl ?_
    exact ⟨by rw [← F1.out, ← F2.out]; rfl, HB5.out⟩
  · have t1 : (r != 0) = true := by simpa using hr0
    by_cases h1 : r < 0
    · by_cases h2 : y < 0
      · obtain ⟨f1, f2⟩ := FS.out (.inr ⟨fun _ => h2, fun _ => h1⟩)
        have F1 := hide (f1.trans HG.out); have F2 := hide (f2.trans HH.out)
        clear hr0 f1 f2
        go_wp2_with fail
        refine (itoa_any q (by omega) (by omega) B _ (HT.out.on HB3.out hB)).mono ?_
        rintro e w4 ⟨rfl, hb4⟩
        have HB4 := hide (HB3.out.trans (hb4.mono HB3.out.size))
        clear hb4 HB3
        go_wp2_with fail
        refine (itoa_any r (by omega) (by omega) B _ (HT.out.on HB4.out hB)).mono ?_
        rintro e w5 ⟨rfl, hb5⟩
        have HB5 := hide (HB4.out.trans (hb5.mono HB4.out.size))
        clear hb5 HB4
        go_wp2_with fail
        refine bodyPost_ret (results_tmp3' rfl _ _ _) rfl ?_
        exact ⟨by rw [← F1.out, ← F2.out]; rfl, HB5.out⟩
      · obtain ⟨f1, f2⟩ := FL.out hr0 (fun e => h2 (e.1 h1))
        have F1 := hide (f1.trans HG.out); have F2 := hide (f2.trans HH.out)
        have t2 : (y < 0) = False := eq_false h2
        clear hr0 f1 f2 h2
        go_wp2_with fail
        refine (itoa_any (q-1) (by omega) (by omega) B _ (HT.out.on HB3.out hB)).mono ?_
        rintro e w4 ⟨rfl, hb4⟩
        have HB4 := hide (HB3.out.trans (hb4.mono HB3.out.size))
        clear hb4 HB3
        go_wp2_with fail
        refine (itoa_any (r+y) (by omega) (by omega) B _ (HT.out.on HB4.out hB)).mono ?_
        rintro e w5 ⟨rfl, hb5⟩
        have HB5 := hide (HB4.out.trans (hb5.mono HB4.out.size))
        clear hb5 HB4
        go_wp2_with fail
        refine bodyPost_ret (results_tmp3' rfl _ _ _) rfl ?_
        exact ⟨by rw [← F1.out, ← F2.out]; rfl, HB5.out⟩
    · by_cases h2 : y < 0
      · obtain ⟨f1, f2⟩ := FL.out hr0 (fun e => h1 (e.2 h2))
        have F1 := hide (f1.trans HG.out); have F2 := hide (f2.trans HH.out)
        have t2 : (r < 0) = False := eq_false h1
        clear hr0 f1 f2 h1
        go_wp2_with fail
        refine (itoa_any (q-1) (by omega) (by omega) B _ (HT.out.on HB3.out hB)).mono ?_
        rintro e w4 ⟨rfl, hb4⟩
        have HB4 := hide (HB3.out.trans (hb4.mono HB3.out.size))
        clear hb4 HB3
        go_wp2_with fail
        refine (itoa_any (r+y) (by omega) (by omega) B _ (HT.out.on HB4.out hB)).mono ?_
        rintro e w5 ⟨rfl, hb5⟩
        have HB5 := hide (HB4.out.trans (hb5.mono HB4.out.size))
        clear hb5 HB4
        go_wp2_with fail
        refine bodyPost_ret (results_tmp3' rfl _ _ _) rfl ?_
        exact ⟨by rw [← F1.out, ← F2.out]; rfl, HB5.out⟩
      · obtain ⟨f1, f2⟩ := FS.out (.inr ⟨fun e => absurd e h1, fun e => absurd e h2⟩)
        have F1 := hide (f1.trans HG.out); have F2 := hide (f2.trans HH.out)
        have t2 : (r < 0) = False := eq_false h1
        have t3 : (y < 0) = False := eq_false h2
        clear hr0 f1 f2 h1 h2
        go_wp2_with fail
        refine (itoa_any q (by omega) (by omega) B _ (HT.out.on HB3.out hB)).mono ?_
        rintro e w4 ⟨rfl, hb4⟩
        have HB4 := hide (HB3.out.trans (hb4.mono HB3.out.size))
        clear hb4 HB3
        go_wp2_with fail
        refine (itoa_any r (by omega) (by omega) B _ (HT.out.on HB4.out hB)).mono ?_
        rintro e w5 ⟨rfl, hb5⟩
        have HB5 := hide (HB4.out.trans (hb5.mono HB4.out.size))
        clear hb5 HB4
        go_wp2_with fail
        refine bodyPost_ret (results_tmp3' rfl _ _ _) rfl ?_
        exact ⟨by rw [← F1.out, ← F2.out]; rfl, HB5.out⟩
end Go.Proofs.YtgddookioipjiaaGreatDoor
namespace Go.KI
open Go
theorem lead_le (l : List UInt8) : (lead l).length ≤ l.length := by
  have := congrArg List.length (lead_eq l).1
  rw [List.length_append] at this
  omega
theorem lead_at {l : List UInt8} {k : Nat} (h : k < (lead l).length) : ∃ c, l[k]? = some c ∧ isDg c = true := by
  obtain ⟨e1, e2, _⟩ := lead_eq l
  refine ⟨(lead l)[k], ?_, e2 _ (List.getElem_mem h)⟩
  have h2 := congrArg (fun m : List UInt8 => m[k]?) e1
  rw [h2, List.getElem?_append_left h]
  exact List.getElem?_eq_getElem h
theorem lead_end {l : List UInt8} {c : UInt8} (h : l[(lead l).length]? = some c) : isDg c = false := by
  obtain ⟨_, _, e3⟩ := lead_eq l
  refine e3 c ?_
  rw [List.head?_drop]
  exact h
theorem lead_take {l : List UInt8} : l.take (lead l).length = lead l := by
  obtain ⟨e1, _, _⟩ := lead_eq l
  have h := congrArg (List.take (lead l).length) e1
  rw [List.take_left] at h
  exact h
end Go.KI
namespace Go.Proofs.YtgddookioipjiaaGreatDoor
open Go.RowKit Go.KP Go.KI Go.Shelf
attribute [local go_sem] Oper.semAt_some

theorem ext_drop (s : ByteArray) (k : Nat) : s.extract k s.size = strB (s.data.toList.drop k) := by
  apply bytes_eq
  rw [strB_list]
  simp
  rw [List.take_of_length_le]
  rw [List.length_drop, bytes_len]
  omega
/-- What nativeInt returns. -/
def natIV (l : List UInt8) : Value := match natI l with
  | none => .tuple #[.int .i64 0, .string ⟨#[]⟩, .bool false]
  | some (n, rest) => .tuple #[.int .i64 n, .string (strB rest), .bool true]
theorem natIV_none {l : List UInt8} (h : (lead l).length = 0 ∨ 8 < (lead l).length ∨ (1 < (lead l).length ∧ l.head? = some 48)) : natIV l = .tuple #[.int .i64 0, .string ⟨#[]⟩, .bool false] := by
  unfold natIV natI
  rw [if_pos h]
theorem natIV_some {l : List UInt8} (h : ¬ ((lead l).length = 0 ∨ 8 < (lead l).length ∨ (1 < (lead l).length ∧ l.head? = some 48))) : natIV l = .tuple #[.int .i64 (dv (lead l) : Nat), .string (strB (l.drop (lead l).length)), .bool true] := by
  unfold natIV natI
  rw [if_neg h]
set_option maxRecDepth 100000 in
set_option maxHeartbeats 8000000 in
theorem nativeInt_any (s : ByteArray) (hs : s.size ≤ 1000000) (w : World) :
    Calls Tryz.prog 108 #[.string s] w (Ret w (natIV s.data.toList)) := by
  obtain ⟨L, hL⟩ : ∃ L, L = (lead s.data.toList).length := ⟨_, rfl⟩
  have hLs : L ≤ s.size := by rw [hL, ← bytes_len]; exact lead_le _
  have HLE := hide hL
  clear hL
  go_enter Tryz.func108, Tryz.ntmps108
  go_wp2_with fail
  go_loopw [5, 6] (fun n i wr => ∃ k A : Nat, k ≤ 9 ∧ k ≤ L ∧ i = .int .i64 k ∧ n = .int .i64 A ∧ Hid (A = dv (s.data.toList.take k)) ∧ wr = w) (fun _ i _ => 9 - (intOf i).toNat)
  case atStart => exact ⟨0, 0, by omega, by omega, rfl, rfl, rfl, rfl⟩
  case round =>
    obtain ⟨k, A, hk9, hkL, rfl, rfl, hA, rfl⟩ := hrel
    have hAl : A < 1000000000 := by
      have h1 := dv_lt (s.data.toList.take k) (fun c hc => by
        have h2 : s.data.toList.take k = (lead s.data.toList).take k := by
          conv => lhs; rw [(lead_eq s.data.toList).1]
          rw [List.take_append_of_le_length (by rw [← HLE.out]; exact hkL)]
        rw [h2] at hc
        exact (lead_eq s.data.toList).2.1 c (List.mem_of_mem_take hc))
      rw [← hA.out] at h1
      have h3 : (s.data.toList.take k).length ≤ 9 := by rw [List.length_take]; omega
      have h4 : (10 : Nat) ^ (s.data.toList.take k).length ≤ 10 ^ 9 := Nat.pow_le_pow_right (by omega) h3
      have h5 : (10 : Nat) ^ 9 = 1000000000 := by decide
      omega
    by_cases hgo : k < L ∧ k ≤ 8
    · obtain ⟨hkl, hk8⟩ := hgo
      have hlt : k < s.size := by omega
      have hki : (k : Int) < (s.size : Int) := by omega
      have hk8i : (k : Int) ≤ 8 := by omega
      have hk0 : (0 : Int) ≤ (k : Int) := by omega
      obtain ⟨c, hc, hcd⟩ := lead_at (l := s.data.toList) (k := k) (by rw [← HLE.out]; exact hkl)
      have hat : s.data.toList[k]? = some (s[k]'hlt) := by
        have h1 : s.data.toList[k]? = some s.data[k] := by simp
        exact h1
      obtain ⟨y, hyv⟩ : ∃ y : Nat, y = (s[k]'hlt).toNat := ⟨_, rfl⟩
      have hyv2 : (s[k]'hlt).toNat = y := hyv.symm
      have hdg : 48 ≤ y ∧ y ≤ 57 := by
        rw [hat] at hc
        injection hc with hc
        rw [hyv, hc]
        exact isDg_iff.1 hcd
      have hnew : dv (s.data.toList.take (k + 1)) = A * 10 + (y - 48) := by
        rw [List.take_add_one, hat]
        show dv (_ ++ [s[k]'hlt]) = _
        rw [dv_snoc, hyv2, hA.out]
      have HN := hide hnew.symm
      have y0 : (48 : Int) ≤ (y : Int) := by omega
      have y1 : (y : Int) ≤ 57 := by omega
      have a1 : (A : Int) < 1000000000 := by omega
      have HC := hide (show 10 * (A : Int) + ((y : Int) - 48) = ((A * 10 + (y - 48) : Nat) : Int) by omega)
      clear hat hyv hdg hnew hA hc hcd hAl
      go_wp2_with fail
      go_roundw
      case rel => exact ⟨k + 1, A * 10 + (y - 48), by omega, by omega, by go_num, by rw [← HC.out], HN, trivial⟩
      case measure => simp [intOf]; omega
    · have hstop : ((k : Int) < (s.size : Int)) = False ∨ ((k : Int) < (s.size : Int) ∧ ((k : Int) ≤ 8) = False) ∨
          (∃ h : k < s.size, (k : Int) ≤ 8 ∧ ∃ y : Nat, (s[k]'h).toNat = y ∧ (y < 48 ∨ 57 < y)) := by
        by_cases h1 : k < s.size
        · by_cases h2 : k ≤ 8
          · have hkL2 : k = L := by omega
            obtain ⟨c, hc⟩ : ∃ c, s[k]'h1 = c := ⟨_, rfl⟩
            have hat : s.data.toList[k]? = some c := by
              have h3 : s.data.toList[k]? = some s.data[k] := by simp
              rw [h3]
              exact congrArg some hc
            have hat2 : s.data.toList[(lead s.data.toList).length]? = some c := by rw [← HLE.out, ← hkL2]; exact hat
            have h4 := lead_end hat2
            have h5 : ¬ (48 ≤ c.toNat ∧ c.toNat ≤ 57) := fun h => by
              have h6 := isDg_iff.2 h
              rw [h4] at h6
              cases h6
            exact .inr (.inr ⟨h1, by omega, c.toNat, by rw [hc], by omega⟩)
          · exact .inr (.inl ⟨by omega, eq_false (by omega)⟩)
        · exact .inl (eq_false (by omega))
      have hres : (((k : Int) == 0) = true ∧ natIV s.data.toList = .tuple #[.int .i64 0, .string ⟨#[]⟩, .bool false]) ∨ (((k : Int) == 0) = false ∧ (8 : Int) < (k : Int) ∧ natIV s.data.toList = .tuple #[.int .i64 0, .string ⟨#[]⟩, .bool false]) ∨
          (∃ h : 0 < s.size, ((k : Int) == 0) = false ∧ ((8 : Int) < (k : Int)) = False ∧ (1 : Int) < (k : Int) ∧ (((s[0]'h).toNat : Int) == 48) = true ∧ natIV s.data.toList = .tuple #[.int .i64 0, .string ⟨#[]⟩, .bool false]) ∨
          (∃ h : 0 < s.size, ((k : Int) == 0) = false ∧ ((8 : Int) < (k : Int)) = False ∧ (1 : Int) < (k : Int) ∧ (((s[0]'h).toNat : Int) == 48) = false ∧ natIV s.data.toList = .tuple #[.int .i64 A, .string (s.extract k s.size), .bool true]) ∨
          (((k : Int) == 0) = false ∧ ((8 : Int) < (k : Int)) = False ∧ ((1 : Int) < (k : Int)) = False ∧ natIV s.data.toList = .tuple #[.int .i64 A, .string (s.extract k s.size), .bool true]) := by
        have hz : k ≠ 0 → ((k : Int) == 0) = false := fun h => by
          simp only [beq_eq_false_iff_ne, ne_eq]
          omega
        rcases (show k = 0 ∨ 8 < k ∨ (1 < k ∧ k ≤ 8) ∨ k = 1 by omega) with h | h | ⟨h, h8⟩ | h
        · exact .inl ⟨by rw [h]; rfl, natIV_none (.inl (by rw [← HLE.out]; omega))⟩
        · exact .inr (.inl ⟨hz (by omega), by omega, natIV_none (.inr (.inl (by rw [← HLE.out]; omega)))⟩)
        · have hkL2 : k = L := by omega
          have hp : 0 < s.size := by omega
          have hh : s.data.toList.head? = some (s[0]'hp) := by
            have h3 : s.data.toList[0]? = some s.data[0] := by simp
            rw [List.head?_eq_getElem?]
            exact h3
          by_cases h48 : s[0]'hp = 48
          · refine .inr (.inr (.inl ⟨hp, hz (by omega), eq_false (by omega), by omega, by rw [h48]; rfl, natIV_none (.inr (.inr ⟨by rw [← HLE.out]; omega, by rw [hh, h48]⟩))⟩))
          · refine .inr (.inr (.inr (.inl ⟨hp, hz (by omega), eq_false (by omega), by omega, ?_, ?_⟩)))
            · have : (s[0]'hp).toNat ≠ 48 := fun e => h48 (UInt8.toNat_inj.1 e)
              simp only [beq_eq_false_iff_ne, ne_eq]
              omega
            · rw [natIV_some, hA.out, ext_drop, hkL2, HLE.out, lead_take]
              rintro (h1 | h1 | ⟨_, h1⟩)
              · rw [← HLE.out] at h1; omega
              · rw [← HLE.out] at h1; omega
              · rw [hh] at h1
                injection h1 with h1
                exact h48 h1
        · have hkL2 : k = L := by omega
          refine .inr (.inr (.inr (.inr ⟨hz (by omega), eq_false (by omega), eq_false (by omega), ?_⟩)))
          rw [natIV_some, hA.out, ext_drop, hkL2, HLE.out, lead_take]
          rintro (h1 | h1 | ⟨h1, _⟩)
          · rw [← HLE.out] at h1; omega
          · rw [← HLE.out] at h1; omega
          · rw [← HLE.out] at h1; omega
      clear hA hgo
      have hsk : k ≤ s.size := by omega
      have hk0 : (0 : Int) ≤ (k : Int) := by omega
      have hski : (k : Int) ≤ (s.size : Int) := by omega
      rcases hstop with h1 | ⟨h1, h2⟩ | ⟨h1, h2, y, hy, h3⟩
      case' inr.inr =>
        have h1i : (k : Int) < (s.size : Int) := by omega
        rcases h3 with h3 | h3
        case' inl => have h4 : ((48 : Int) ≤ (y : Int)) = False := eq_false (by omega)
        case' inr =>
          have h4 : (48 : Int) ≤ (y : Int) := by omega
          have h5 : ((y : Int) ≤ 57) = False := eq_false (by omega)
      all_goals
        rcases hres with ⟨r0, r2⟩ | ⟨r0, r8, r2⟩ | ⟨hp, r0, r8, r1, r3, r2⟩ | ⟨hp, r0, r8, r1, r3, r2⟩ | ⟨r0, r8, r1, r2⟩
      all_goals have HR := hide r2
      all_goals clear r2
      all_goals first | (exfalso; omega) | skip
      all_goals
        go_wp2_with fail
        first
          | (refine bodyPost_ret (results_tmp3' rfl _ _ _) rfl ?_
             rw [HR.out]
             exact ⟨rfl, Below.refl _ _⟩)
          | (go_quiet (fail)
             go_wp2_with fail
             refine bodyPost_ret (results_tmp3' rfl _ _ _) rfl ?_
             rw [HR.out]
             exact ⟨rfl, below_drewN (Below.refl _ _) _⟩)
end Go.Proofs.YtgddookioipjiaaGreatDoor
namespace Go.KI
open Go

/-- Both parts have at most p digits. -/
def sz (p : Nat) (x : Rat) : Prop := x.num.natAbs < 10 ^ p ∧ x.den < 10 ^ p
theorem sz_mono {p q : Nat} {x : Rat} (h : sz p x) (hp : p ≤ q) : sz q x :=
  ⟨Nat.lt_of_lt_of_le h.1 (Nat.pow_le_pow_right (by omega) hp), Nat.lt_of_lt_of_le h.2 (Nat.pow_le_pow_right (by omega) hp)⟩
theorem sz_fits {p : Nat} {x : Rat} (h : sz p x) (hp : p ≤ most) : fitsQ x :=
  ⟨fits_small hp h.1, fits_small hp (by rw [Int.natAbs_natCast]; exact h.2)⟩
theorem mul_pow_lt {a b p q : Nat} (ha : a < 10 ^ p) (hb : b < 10 ^ q) : a * b < 10 ^ (p + q) := by
  rw [Nat.pow_add]
  exact Nat.mul_lt_mul'' ha hb
theorem add_pow_lt {a b p : Nat} (ha : a < 10 ^ p) (hb : b < 10 ^ p) : a + b < 10 ^ (p + 1) := by
  have : (10 : Nat) ^ (p + 1) = 10 ^ p * 10 := Nat.pow_succ ..
  omega
theorem divInt_sz {n d : Int} {p : Nat} (hd : 0 < d) (hn : n.natAbs < 10 ^ p) (hd2 : d.natAbs < 10 ^ p) : sz p (Rat.divInt n d) := by
  obtain ⟨h1, h2⟩ := divInt_parts n hd
  refine ⟨?_, ?_⟩
  · rw [h1]
    refine Nat.lt_of_le_of_lt ?_ hn
    exact Int.natAbs_ediv_le_natAbs _ _
  · have h3 : ((Rat.divInt n d).den : Int).natAbs ≤ d.natAbs := by
      rw [h2]
      exact Int.natAbs_ediv_le_natAbs _ _
    rw [Int.natAbs_natCast] at h3
    omega
theorem den_ne (x : Rat) : (x.den : Int) ≠ 0 := by have := x.den_pos; omega
theorem dens_pos (x y : Rat) : 0 < (x.den : Int) * y.den := by
  have h1 := x.den_pos
  have h2 := y.den_pos
  exact Int.mul_pos (by omega) (by omega)
theorem num_den_lt {p q : Nat} {x y : Rat} (hx : sz p x) (hy : sz q y) : (x.num * (y.den : Int)).natAbs < 10 ^ (p + q) ∧ (y.num * (x.den : Int)).natAbs < 10 ^ (p + q) ∧ ((x.den : Int) * y.den).natAbs < 10 ^ (p + q) ∧ (x.num * y.num).natAbs < 10 ^ (p + q) := by
  refine ⟨?_, ?_, ?_, ?_⟩
  · rw [Int.natAbs_mul, Int.natAbs_natCast]
    exact mul_pow_lt hx.1 hy.2
  · rw [Int.natAbs_mul, Int.natAbs_natCast, Nat.add_comm]
    exact mul_pow_lt hy.1 hx.2
  · rw [Int.natAbs_mul, Int.natAbs_natCast, Int.natAbs_natCast]
    exact mul_pow_lt hx.2 hy.2
  · rw [Int.natAbs_mul]
    exact mul_pow_lt hx.1 hy.1
theorem sz_add {p q : Nat} {x y : Rat} (hx : sz p x) (hy : sz q y) : sz (p + q + 1) (x + y) := by
  obtain ⟨h1, h2, h3, _⟩ := num_den_lt hx hy
  rw [← divInt_add]
  refine divInt_sz (dens_pos x y) ?_ (Nat.lt_of_lt_of_le h3 (Nat.pow_le_pow_right (by omega) (by omega)))
  have := add_pow_lt h1 h2
  omega
theorem sz_sub {p q : Nat} {x y : Rat} (hx : sz p x) (hy : sz q y) : sz (p + q + 1) (x - y) := by
  obtain ⟨h1, h2, h3, _⟩ := num_den_lt hx hy
  rw [← divInt_sub]
  refine divInt_sz (dens_pos x y) ?_ (Nat.lt_of_lt_of_le h3 (Nat.pow_le_pow_right (by omega) (by omega)))
  have := add_pow_lt h1 h2
  omega
theorem sz_mul {p q : Nat} {x y : Rat} (hx : sz p x) (hy : sz q y) : sz (p + q) (x * y) := by
  obtain ⟨_, _, h3, h4⟩ := num_den_lt hx hy
  rw [← divInt_mul]
  exact divInt_sz (dens_pos x y) h4 h3
theorem sz_neg {p : Nat} {x : Rat} (hx : sz p x) : sz p (-x) := by
  refine ⟨?_, ?_⟩
  · rw [Rat.neg_num, Int.natAbs_neg]
    exact hx.1
  · rw [Rat.neg_den]
    exact hx.2
theorem sz_inv {p : Nat} {x : Rat} (hp : 1 ≤ p) (hx : sz p x) : sz p x⁻¹ := by
  have h10 : (10 : Nat) ^ 1 ≤ 10 ^ p := Nat.pow_le_pow_right (by omega) hp
  refine ⟨?_, ?_⟩
  · rw [Rat.num_inv, Int.natAbs_mul, Int.natAbs_natCast]
    have h1 : x.num.sign.natAbs ≤ 1 := by rw [Int.natAbs_sign]; split <;> omega
    have h2 : x.num.sign.natAbs * x.den ≤ 1 * x.den := Nat.mul_le_mul_right _ h1
    have := hx.2
    omega
  · rw [Rat.den_inv]
    split
    · omega
    · exact hx.1
theorem sz_div {p q : Nat} {x y : Rat} (hq : 1 ≤ q) (hx : sz p x) (hy : sz q y) : sz (p + q) (x / y) := by
  rw [Rat.div_def]
  exact sz_mul hx (sz_inv hq hy)
theorem addC_of {p q : Nat} {x y : Rat} (hx : sz p x) (hy : sz q y) (h : p + q + 1 ≤ most) : addC x y := by
  obtain ⟨h1, h2, h3, _⟩ := num_den_lt hx hy
  have h4 := add_pow_lt h1 h2
  exact ⟨fits_small (by omega) h1, fits_small (by omega) h2, fits_small h (by omega), fits_small (by omega) h3⟩
theorem subC_of {p q : Nat} {x y : Rat} (hx : sz p x) (hy : sz q y) (h : p + q + 1 ≤ most) : subC x y := by
  obtain ⟨h1, h2, h3, _⟩ := num_den_lt hx hy
  have h4 := add_pow_lt h1 h2
  exact ⟨fits_small (by omega) h1, fits_small (by omega) h2, fits_small h (by omega), fits_small (by omega) h3⟩
theorem mulC_of {p q : Nat} {x y : Rat} (hx : sz p x) (hy : sz q y) (h : p + q ≤ most) : mulC x y := by
  obtain ⟨_, _, h3, h4⟩ := num_den_lt hx hy
  exact ⟨fits_small h h4, fits_small h h3⟩
theorem cmpC_of {p q : Nat} {x y : Rat} (hx : sz p x) (hy : sz q y) (h : p + q ≤ most) : cmpC x y := by
  obtain ⟨h1, h2, _, _⟩ := num_den_lt hx hy
  exact ⟨fits_small h h1, fits_small h h2⟩
theorem natQ_sz {l : List UInt8} (h : natQ l) : sz 8 (valQ l) := by
  obtain ⟨h1, h2, _⟩ := natQ_lt h
  exact ⟨by simpa using h1, by simpa using h2⟩
/-- A short text is a number with short parts. -/
theorem chkQ_sz {l : List UInt8} {p : Nat} (h : chkQ l = 0) (hl : l.length ≤ p) (hp : 1 ≤ p) : sz p (valQ l) := by
  obtain ⟨e, _, _, _⟩ := chkQ_ok h
  have key : (Lib.decDigits (valQ l).num.natAbs).length ≤ p ∧ (Lib.decDigits (valQ l).den).length ≤ p := by
    have h1 : (ratS (valQ l)).length ≤ p := by rw [← e]; exact hl
    have h2 : (Lib.decDigits (valQ l).num.natAbs).length ≤ (Lib.itoa (valQ l).num).length := by
      rcases itoa_cases (valQ l).num with ⟨_, h⟩ | ⟨_, h⟩ <;> rw [h] <;> simp
    unfold ratS at h1
    by_cases hd : (valQ l).den = 1
    · rw [if_pos hd] at h1
      refine ⟨by omega, ?_⟩
      rw [hd, one_dec]
      exact hp
    · rw [if_neg hd] at h1
      simp only [List.length_append, List.length_cons] at h1
      exact ⟨by omega, by omega⟩
  exact ⟨(dec_len_le hp).1 key.1, (dec_len_le hp).1 key.2⟩
end Go.KI
namespace Go.KI
open Go

theorem lead_all {l : List UInt8} (h : ∀ c ∈ l, isDg c = true) : lead l = l := by
  have := lead_app (a := l) (b := []) h (by intro c hc; cases hc)
  rwa [List.append_nil] at this
theorem lead_full {l : List UInt8} (h : l.length ≤ (lead l).length) : ∀ c ∈ l, isDg c = true := by
  obtain ⟨e1, e2, _⟩ := lead_eq l
  have h1 : l.drop (lead l).length = [] := List.drop_eq_nil_of_le h
  rw [h1, List.append_nil] at e1
  rw [e1]
  exact e2
/-- The digits in front; none if a zero stands before others. -/
def digN (l : List UInt8) : Nat := if 1 < (lead l).length ∧ l.head? = some 48 then 0 else (lead l).length
theorem digN_le (l : List UInt8) : digN l ≤ l.length := by
  have h1 := congrArg List.length (lead_eq l).1
  rw [List.length_append] at h1
  unfold digN
  split <;> omega
theorem digN_numeral (l : List UInt8) : (digN l = 0 ∨ digN l < l.length) ↔ ¬ numeral l := by
  constructor
  · rintro h ⟨h1, h2, h3⟩
    have h4 := lead_all (List.all_eq_true.1 h2)
    have h5 : 0 < l.length := List.length_pos_iff.2 h1
    unfold digN at h
    rw [h4] at h
    by_cases hc : 1 < l.length ∧ l.head? = some 48
    · rw [h3 hc.2] at hc
      exact absurd hc.1 (by decide)
    · rw [if_neg hc] at h
      omega
  · intro h
    refine Decidable.byContradiction fun hn => h ?_
    have h0 : digN l ≠ 0 := fun e => hn (.inl e)
    have h1 : l.length ≤ digN l := Nat.le_of_not_lt fun e => hn (.inr e)
    unfold digN at h0 h1
    by_cases hc : 1 < (lead l).length ∧ l.head? = some 48
    · rw [if_pos hc] at h0
      exact absurd rfl h0
    · rw [if_neg hc] at h0 h1
      have h2 := lead_full h1
      have h3 := lead_all h2
      rw [h3] at h0 hc
      refine ⟨fun e => h0 (by rw [e]; rfl), List.all_eq_true.2 h2, fun hh => ?_⟩
      have h4 : ¬ 1 < l.length := fun e => hc ⟨e, hh⟩
      cases l with
      | nil => simp at hh
      | cons a b =>
        simp only [List.length_cons] at h4
        have : b = [] := List.eq_nil_of_length_eq_zero (by omega)
        rw [this]
        injection hh with hh
        rw [hh]
theorem chkI_11 (l : List UInt8) : chkI l = 11 ↔ (¬ numeral (digs l) ∨ (l.head? = some 45 ∧ digs l = [48])) := by
  have e : chkI l = 11 ↔ (digs l = [] ∨ ((digs l).head? = some 48 ∧ l ≠ [48]) ∨ ¬ (digs l).all isDg = true) := by
    unfold chkI
    split
    · rename_i h
      exact ⟨fun _ => h, fun _ => rfl⟩
    · rename_i h
      refine ⟨fun h2 => ?_, fun h2 => absurd h2 h⟩
      split at h2 <;> cases h2
  rw [e]
  have key : l.head? ≠ some 45 → digs l = l := by
    intro h
    cases l with
    | nil => rfl
    | cons c r =>
      have : c ≠ 45 := by simpa using h
      simp [digs, this]
  constructor
  · rintro (h | ⟨h1, h2⟩ | h)
    · exact .inl fun hn => hn.1 h
    · by_cases hd : digs l = [48]
      · by_cases h45 : l.head? = some 45
        · exact .inr ⟨h45, hd⟩
        · rw [key h45] at hd
          exact absurd hd h2
      · exact .inl fun hn => hd (hn.2.2 h1)
    · exact .inl fun hn => h hn.2.1
  · rintro (h | ⟨h1, h2⟩)
    · refine Decidable.byContradiction fun hn => h ⟨fun e => hn (.inl e), Decidable.byContradiction fun e => hn (.inr (.inr e)), fun hh => ?_⟩
      have hl : l = [48] := Decidable.byContradiction fun e => hn (.inr (.inl ⟨hh, e⟩))
      rw [hl]
      rfl
    · refine .inr (.inl ⟨by rw [h2]; rfl, fun e => ?_⟩)
      rw [e] at h1
      cases h1
/-- Has a text the form of a number? -/
def cutOK (l : List UInt8) : Prop := ¬ (chkI (numT l) = 11 ∨ (47 ∈ l ∧ (¬ numeral (denT l) ∨ denT l = [48] ∨ denT l = [49])))
instance (l : List UInt8) : Decidable (cutOK l) := inferInstanceAs (Decidable (¬ _))
/-- The denominator's text. -/
def denS (l : List UInt8) : List UInt8 := if 47 ∈ l then denT l else [49]
theorem cutOK_of {l : List UInt8} (h : chkQ l = 0) : cutOK l := by
  intro hn
  unfold chkQ at h
  rw [if_pos hn] at h
  cases h
theorem numT_of {l : List UInt8} (h : chkQ l = 0) : numT l = Lib.itoa (valQ l).num ∧ denS l = Lib.itoa ((valQ l).den : Int) := by
  obtain ⟨e1, _, e3, e4⟩ := chkQ_ok h
  constructor
  · rw [e3]
    exact (chkI_int (fun e => cutOK_of h (.inl e))).1
  · rw [e4, Lib.itoa_nonneg]
    unfold denS denQ
    by_cases hs : 47 ∈ l
    · rw [if_pos hs, if_pos hs]
      exact numeral_dec (Decidable.byContradiction fun e => cutOK_of h (.inr ⟨hs, .inl e⟩))
    · rw [if_neg hs, if_neg hs, one_dec]
/-- A text in the form of a number: its check, by the lengths of its parts and their divisor. -/
theorem chkQ_form {l : List UInt8} (h : cutOK l) : chkQ l = if 300 < (digs (numT l)).length ∨ 300 < (denS l).length then 4 else if 47 ∈ l ∧ Nat.gcd (valI (numT l)).natAbs (dv (denT l)) ≠ 1 then 11 else 0 := by
  unfold chkQ
  rw [if_neg h]
  obtain ⟨e1, e2⟩ := chkI_int (fun e => h (.inl e))
  have h4 : chkI (numT l) = 4 ↔ 300 < (digs (numT l)).length := by
    rw [e2]
    have h5 := @fits_len (valI (numT l))
    have h6 : (digs (numT l)).length = (Lib.decDigits (valI (numT l)).natAbs).length := by
      conv => lhs; rw [e1]
      rw [digs_itoa]
    rw [h6]
    by_cases hf : fits (valI (numT l))
    · rw [if_pos hf]
      have := h5.1 hf
      exact ⟨fun e => (by cases e), fun e => (by omega)⟩
    · rw [if_neg hf]
      exact ⟨fun _ => Nat.lt_of_not_le fun e => hf (h5.2 e), fun _ => rfl⟩
  have h7 : (47 ∈ l ∧ 300 < (denT l).length) ↔ 300 < (denS l).length := by
    unfold denS
    by_cases hs : 47 ∈ l
    · rw [if_pos hs]
      exact ⟨fun e => e.2, fun e => ⟨hs, e⟩⟩
    · rw [if_neg hs]
      exact ⟨fun e => absurd e.1 hs, fun e => absurd e (by decide)⟩
  simp only [h4, h7]
/-- A number whose parts are short. -/
theorem natQ_form {l : List UInt8} (h : natQ l) : cutOK l ∧ chkQ l = 0 := ⟨cutOK_of h.1, h.1⟩
end Go.KI
namespace Go.Proofs.YtgddookioipjiaaGreatDoor
open Go.RowKit Go.KP Go.KI Go.Shelf
attribute [local go_sem] Oper.semAt_some

set_option maxRecDepth 100000 in
set_option maxHeartbeats 4000000 in
theorem qdigits_any (s : ByteArray) (hs : s.size ≤ 1000000) (w : World) :
    Calls Tryz.prog 169 #[.string s] w (Ret w (.int .i64 (digN s.data.toList : Nat))) := by
  obtain ⟨L, hL⟩ : ∃ L, L = (lead s.data.toList).length := ⟨_, rfl⟩
  have hLs : L ≤ s.size := by rw [hL, ← bytes_len]; exact lead_le _
  have HLE := hide hL
  clear hL
  go_enter Tryz.func169, Tryz.ntmps169
  go_wp2_with fail
  go_loopw [3] (fun i wr => ∃ k : Nat, k ≤ L ∧ i = .int .i64 k ∧ wr = w) (fun i _ => s.size - (intOf i).toNat)
  case atStart => exact ⟨0, by omega, rfl, rfl⟩
  case round =>
    obtain ⟨k, hkL, rfl, rfl⟩ := hrel
    by_cases hkl : k < L
    · have hlt : k < s.size := by omega
      have hki : (k : Int) < (s.size : Int) := by omega
      have hk0 : (0 : Int) ≤ (k : Int) := by omega
      obtain ⟨c, hc, hcd⟩ := lead_at (l := s.data.toList) (k := k) (by rw [← HLE.out]; exact hkl)
      have hat : s.data.toList[k]? = some (s[k]'hlt) := by
        have h1 : s.data.toList[k]? = some s.data[k] := by simp
        exact h1
      obtain ⟨y, hyv⟩ : ∃ y : Nat, y = (s[k]'hlt).toNat := ⟨_, rfl⟩
      have hyv2 : (s[k]'hlt).toNat = y := hyv.symm
      have hdg : 48 ≤ y ∧ y ≤ 57 := by
        rw [hat] at hc
        injection hc with hc
        rw [hyv, hc]
        exact isDg_iff.1 hcd
      have y0 : (48 : Int) ≤ (y : Int) := by omega
      have y1 : (y : Int) ≤ 57 := by omega
      clear hat hyv hdg hc hcd
      go_wp2_with fail
      go_roundw
      case rel => exact ⟨k + 1, by omega, by go_num, trivial⟩
      case measure => simp [intOf]; omega
    · have hkL2 : k = L := by omega
      have hstop : ((k : Int) < (s.size : Int)) = False ∨ (∃ h : k < s.size, ∃ y : Nat, (s[k]'h).toNat = y ∧ (y < 48 ∨ 57 < y)) := by
        by_cases h1 : k < s.size
        · obtain ⟨c, hc⟩ : ∃ c, s[k]'h1 = c := ⟨_, rfl⟩
          have hat : s.data.toList[k]? = some c := by
            have h3 : s.data.toList[k]? = some s.data[k] := by simp
            rw [h3]
            exact congrArg some hc
          have hat2 : s.data.toList[(lead s.data.toList).length]? = some c := by rw [← HLE.out, ← hkL2]; exact hat
          have h4 := lead_end hat2
          have h5 : ¬ (48 ≤ c.toNat ∧ c.toNat ≤ 57) := fun h => by
            have h6 := isDg_iff.2 h
            rw [h4] at h6
            cases h6
          exact .inr ⟨h1, c.toNat, by rw [hc], by omega⟩
        · exact .inl (eq_false (by omega))
      have hres : (((1 : Int) < (k : Int)) = False ∧ digN s.data.toList = k) ∨ (∃ h : 0 < s.size, (1 : Int) < (k : Int) ∧ (((s[0]'h).toNat : Int) == 48) = true ∧ digN s.data.toList = 0) ∨ (∃ h : 0 < s.size, (1 : Int) < (k : Int) ∧ (((s[0]'h).toNat : Int) == 48) = false ∧ digN s.data.toList = k) := by
        unfold digN
        rw [← HLE.out, ← hkL2]
        by_cases h : 1 < k
        · have hp : 0 < s.size := by omega
          have hh : s.data.toList.head? = some (s[0]'hp) := by
            have h3 : s.data.toList[0]? = some s.data[0] := by simp
            rw [List.head?_eq_getElem?]
            exact h3
          by_cases h48 : s[0]'hp = 48
          · exact .inr (.inl ⟨hp, by omega, by rw [h48]; rfl, if_pos ⟨h, by rw [hh, h48]⟩⟩)
          · refine .inr (.inr ⟨hp, by omega, ?_, if_neg (fun h2 => ?_)⟩)
            · have : (s[0]'hp).toNat ≠ 48 := fun e => h48 (UInt8.toNat_inj.1 e)
              simp only [beq_eq_false_iff_ne, ne_eq]
              omega
            · rw [hh] at h2
              have h3 := h2.2
              injection h3 with h3
              exact h48 h3
        · exact .inl ⟨eq_false (by omega), if_neg (fun h2 => h h2.1)⟩
      clear hkl hkL2
      have hk0 : (0 : Int) ≤ (k : Int) := by omega
      rcases hstop with h1 | ⟨h1, y, hy, h3⟩
      case' inr =>
        have h1i : (k : Int) < (s.size : Int) := by omega
        rcases h3 with h3 | h3
        case' inl => have h4 : ((48 : Int) ≤ (y : Int)) = False := eq_false (by omega)
        case' inr =>
          have h4 : (48 : Int) ≤ (y : Int) := by omega
          have h5 : ((y : Int) ≤ 57) = False := eq_false (by omega)
      all_goals
        rcases hres with ⟨r0, r2⟩ | ⟨hp, r0, r1, r2⟩ | ⟨hp, r0, r1, r2⟩
      all_goals have HR := hide r2
      all_goals clear r2
      all_goals
        go_wp2_with fail
        go_ret
        rw [HR.out]
        exact ⟨rfl, Below.refl _ _⟩
end Go.Proofs.YtgddookioipjiaaGreatDoor
namespace Go.Proofs.YtgddookioipjiaaGreatDoor
open Go.RowKit Go.KP Go.KI Go.Shelf
attribute [local go_sem] Oper.semAt_some

/-- A native number. -/
abbrev natV (n d : Int) : Value := .agg #[.int .i64 n, .int .i64 d]
abbrev natO (n d : Int) : Obj := .cells #[.int .i64 n, .int .i64 d] 79
theorem tdiv_natc (a b : Nat) : (a : Int).tdiv (b : Int) = ((a / b : Nat) : Int) := by
  rw [Int.tdiv_eq_ediv_of_nonneg (by omega), Int.natCast_ediv]
theorem nat_quo {n : Int} {g : Nat} (h : (g : Int) ∣ n) : n.tdiv (g : Int) = n / (g : Int) := Int.tdiv_eq_ediv_of_dvd h
theorem itoa_short {z : Int} (h : z.natAbs < 100000000000000000) : (strB (Lib.itoa z)).size ≤ 18 := by
  rw [strB_size]
  have h1 := (dec_len_le (u := z.natAbs) (n := 17) (by omega)).2 (by simpa using h)
  rcases itoa_cases z with ⟨_, h2⟩ | ⟨_, h2⟩ <;> rw [h2]
  · rw [List.length_cons]
    omega
  · omega
set_option maxRecDepth 100000 in
set_option maxHeartbeats 4000000 in
theorem nnumber_any (n d : Int) (hn : n.natAbs < 100000000000000000) (hd : d.natAbs < 100000000000000000) (h0 : d ≠ 0) (B : Nat) (w : World) (hB : B ≤ w.heap.size) (hT : P10 B w) :
    Calls Tryz.prog 123 #[natV n d] w (Ret w (.string (strB (ratS (Rat.divInt n d))))) := by
  have HT := hide hT
  obtain ⟨b0, bs0, bb0⟩ := heap1 w (natO n d)
  have P0 := hide b0; have PB := hide bb0
  have k0 := cell_blk b0 0
  have k1 := cell_blk b0 1
  have f0 := froz_blk b0 0
  have f1 := froz_blk b0 1
  have hsz := lt_blk b0
  obtain ⟨N, D, hND, hsign⟩ : ∃ (N : Int) (D : Nat), Rat.divInt n d = Rat.divInt N D ∧ ((d < 0 ∧ N = -n ∧ (D : Int) = -d) ∨ ((d < 0) = False ∧ N = n ∧ (D : Int) = d)) := by
    rcases Int.lt_or_lt_of_ne h0 with h | h
    · exact ⟨-n, d.natAbs, by rw [show ((d.natAbs : Nat) : Int) = -d by omega, Rat.neg_divInt_neg], .inl ⟨h, rfl, by omega⟩⟩
    · exact ⟨n, d.natAbs, by rw [show ((d.natAbs : Nat) : Int) = d by omega], .inr ⟨eq_false (by omega), rfl, by omega⟩⟩
  rw [hND]
  have hDp : 0 < D := by rcases hsign with ⟨h1, h2, h3⟩ | ⟨h1, h2, h3⟩ <;> omega
  have hDl : D < 100000000000000000 := by rcases hsign with ⟨h1, h2, h3⟩ | ⟨h1, h2, h3⟩ <;> omega
  have hNl : N.natAbs < 100000000000000000 := by rcases hsign with ⟨h1, h2, h3⟩ | ⟨h1, h2, h3⟩ <;> omega
  obtain ⟨g, hg⟩ : ∃ g, g = Nat.gcd N.natAbs D := ⟨_, rfl⟩
  have hgp : 0 < g := by rw [hg]; exact Nat.gcd_pos_of_pos_right _ hDp
  have hgl : g ≤ D := by rw [hg]; exact Nat.gcd_le_right _ hDp
  have hgn : (g : Int) ∣ N := by rw [hg]; exact Int.ofNat_dvd_left.2 (Nat.gcd_dvd_left _ _)
  obtain ⟨Nq, hNq⟩ : ∃ Nq : Int, Nq = N / (g : Int) := ⟨_, rfl⟩
  obtain ⟨Dq, hDq⟩ : ∃ Dq : Nat, Dq = D / g := ⟨_, rfl⟩
  have q1 : N.tdiv (g : Int) = Nq := by rw [nat_quo hgn, hNq]
  have q2 : (D : Int) / (g : Int) = (Dq : Int) := by rw [hDq, Int.natCast_ediv]
  have q3 : (D : Int).tdiv (g : Int) = (Dq : Int) := by rw [tdiv_natc, hDq]
  have nq0 := hide q1; have dq0 := hide q2
  have HTX := hide (show ratS (Rat.divInt N D) = if Dq = 1 then Lib.itoa Nq else Lib.itoa Nq ++ 47 :: Lib.itoa (Dq : Int) by
    have h := ratS_of (n := N) (d := (D : Int)) (by omega)
    rw [Int.natAbs_natCast, ← hg, ← hNq, q2] at h
    rw [h]
    by_cases h1 : Dq = 1
    · rw [if_pos h1, if_pos (by omega)]
    · rw [if_neg h1, if_neg (by omega)])
  have hmx : max N (-N) = ((N.natAbs : Nat) : Int) := by omega
  have hNql : Nq.natAbs ≤ N.natAbs := by rw [hNq]; exact Int.natAbs_ediv_le_natAbs _ _
  have hDql : Dq ≤ D := by rw [hDq]; exact Nat.div_le_self _ _
  have HG := hide (fun w => qgcd_any N.natAbs D (by omega) (by omega) w)
  rw [← hg] at HG
  have hg0 : ((g : Int) == 0) = false := by
    simp only [beq_eq_false_iff_ne, ne_eq]
    omega
  clear hNq hDq hg hgn hND b0 bb0 hT
  obtain ⟨tx, htx⟩ : ∃ tx, tx = strB (ratS (Rat.divInt N D)) := ⟨_, rfl⟩
  rw [← htx]
  have HX := hide htx
  clear htx
  have H1 := hide (heap1 w (natO N D))
  rcases hsign with ⟨h1, h2, h3⟩ | ⟨h1, h2, h3⟩
  case' inl =>
    have e1 : -n = N := h2.symm
    have e2 : -d = (D : Int) := h3.symm
    have MX := hide hmx
    clear h2 h3 q2 q3 hmx q1
    go_enter Tryz.func123, Tryz.ntmps123
    go_wp2_with fail
    clear e1 e2
  case' inr =>
    subst h2
    subst h3
    have MX := hide hmx
    clear q2 q3 hmx q1
    go_enter Tryz.func123, Tryz.ntmps123
    go_wp2_with fail
  all_goals
    rw [MX.out]
    refine (HG.out _).mono ?_
    rintro e w1 ⟨rfl, hb1⟩
    have G1 := hide (below_blk hb1 H1.out.1 (lt_blk H1.out.1))
    have HB1 := hide (H1.out.2.2.trans (hb1.mono H1.out.2.2.size))
    have c0 := cell_blk G1.out 0
    have c1 := cell_blk G1.out 1
    have hlt1 := lt_blk G1.out
    have q1 : N.tdiv (g : Int) = Nq := nq0.out
    have q2 : (D : Int) / (g : Int) = (Dq : Int) := dq0.out
    clear hb1 k0 k1 f0 f1
    go_wp2_with fail
    go_quiet (fail)
    have HB2 := hide (below_drewN HB1.out nq)
    clear q1 q2 c0 c1 hg0
    by_cases hd1 : Dq = 1
    · have hde : ((Dq : Int) == 1) = true := by rw [hd1]; rfl
      have HE := hide (show tx = strB (Lib.itoa Nq) by rw [HX.out, HTX.out, if_pos hd1])
      clear hd1
      go_wp2_with fail
      refine (itoa_any Nq (by omega) (by omega) B _ (HT.out.on HB2.out hB)).mono ?_
      rintro e w3 ⟨rfl, hb3⟩
      have HB3 := hide (HB2.out.trans (hb3.mono HB2.out.size))
      clear hb3
      go_wp2_with fail
      go_ret
      rw [HE.out]
      exact ⟨rfl, HB3.out⟩
    · have hde : ((Dq : Int) == 1) = false := by
        simp only [beq_eq_false_iff_ne, ne_eq]
        omega
      have s1 := itoa_short (z := Nq) (by omega)
      have s2 := itoa_short (z := (Dq : Int)) (by omega)
      have HE := hide (show tx = strB (Lib.itoa Nq) ++ ⟨#[47]⟩ ++ strB (Lib.itoa (Dq : Int)) by
        rw [HX.out, HTX.out, if_neg hd1]
        apply bytes_eq
        simp [strB])
      have I1 := hide (fun w h => itoa_any Nq (by omega) (by omega) B w h)
      have I2 := hide (fun w h => itoa_any (Dq : Int) (by omega) (by omega) B w h)
      obtain ⟨t1, ht1⟩ : ∃ t, t = strB (Lib.itoa Nq) := ⟨_, rfl⟩
      obtain ⟨t2, ht2⟩ : ∃ t, t = strB (Lib.itoa (Dq : Int)) := ⟨_, rfl⟩
      rw [← ht1] at s1 HE I1
      rw [← ht2] at s2 HE I2
      have v1 : (9223372036854775807 < t1.size + 1) = False := eq_false (by omega)
      have v2 : (9223372036854775807 < t1.size + 1 + t2.size) = False := eq_false (by omega)
      clear hd1 ht1 ht2
      go_wp2_with fail
      refine (I1.out _ (HT.out.on HB2.out hB)).mono ?_
      rintro e w3 ⟨rfl, hb3⟩
      have HB3 := hide (HB2.out.trans (hb3.mono HB2.out.size))
      clear hb3
      go_wp2_with fail
      refine (I2.out _ (HT.out.on HB3.out hB)).mono ?_
      rintro e w4 ⟨rfl, hb4⟩
      have HB4 := hide (HB3.out.trans (hb4.mono HB3.out.size))
      clear hb4
      go_wp2_with fail
      go_ret
      rw [HE.out]
      exact ⟨rfl, HB4.out⟩
end Go.Proofs.YtgddookioipjiaaGreatDoor
namespace Go.KI
open Go

/-- Some digits and nothing else. -/
def allDg (l : List UInt8) : Prop := l ≠ [] ∧ ∀ c ∈ l, isDg c = true
instance (l : List UInt8) : Decidable (allDg l) := inferInstanceAs (Decidable (_ ∧ _))
/-- What stands ahead of the first c, and behind it. -/
def ahead (c : UInt8) (l : List UInt8) : List UInt8 := l.takeWhile (fun x => x != c)
def behind (c : UInt8) (l : List UInt8) : List UInt8 := (l.dropWhile (fun x => x != c)).drop 1
theorem cut_at {c : UInt8} {a b : List UInt8} (h : ∀ x ∈ a, x ≠ c) : ahead c (a ++ c :: b) = a ∧ behind c (a ++ c :: b) = b ∧ c ∈ a ++ c :: b := by
  obtain ⟨h1, h2⟩ := tw_all (p := fun x => x != c) (a := a) (b := c :: b) (fun x hx => by simpa using h x hx)
  refine ⟨?_, ?_, by simp⟩
  · unfold ahead; rw [h1]; simp
  · unfold behind; rw [h2]; simp
theorem cut_not {c : UInt8} {a : List UInt8} (h : ¬ c ∈ a) : ahead c a = a := by
  obtain ⟨h1, _⟩ := tw_all (p := fun x => x != c) (a := a) (b := []) (fun x hx => by
    have : x ≠ c := fun e => h (by rw [← e]; exact hx)
    simpa using this)
  unfold ahead
  simpa using h1
/-- The sign's factor. -/
def sgn (neg : Bool) (x : Rat) : Rat := if neg then -x else x
def isNeg (l : List UInt8) : Bool := decide (l.head? = some 45)
/-- What a text of a number says: an error, or the number. -/
def parseE (l : List UInt8) : Int :=
  if 90 < l.length then 4
  else if 46 ∈ digs l then (if allDg (ahead 46 (digs l)) ∧ allDg (behind 46 (digs l)) then 0 else 3)
  else if ¬ allDg (ahead 47 (digs l)) ∨ (47 ∈ digs l ∧ ¬ allDg (behind 47 (digs l))) then 3
  else if 47 ∈ digs l ∧ dv (behind 47 (digs l)) = 0 then 12 else 0
def parseV (l : List UInt8) : Rat :=
  if 46 ∈ digs l then sgn (isNeg l) ((dv (ahead 46 (digs l) ++ behind 46 (digs l)) : Nat) / ((10 ^ (behind 46 (digs l)).length : Nat) : Rat))
  else sgn (isNeg l) ((dv (ahead 47 (digs l)) : Nat) / ((if 47 ∈ digs l then dv (behind 47 (digs l)) else 1 : Nat) : Rat))
/-- The digits of a number of units of the last of p places. -/
def own (m : Int) (p : Nat) : List UInt8 := List.replicate (p + 1 - (Lib.decDigits m.natAbs).length) 48 ++ Lib.decDigits m.natAbs
def decT (m : Int) (p : Nat) : List UInt8 :=
  (if m < 0 then [45] else []) ++ (if p = 0 then Lib.decDigits m.natAbs else (own m p).take ((own m p).length - p) ++ 46 :: (own m p).drop ((own m p).length - p))
theorem own_len (m : Int) (p : Nat) : p + 1 ≤ (own m p).length := by
  unfold own
  rw [List.length_append, List.length_replicate]
  omega
theorem own_dg (m : Int) (p : Nat) : ∀ c ∈ own m p, isDg c = true := by
  intro c hc
  rcases List.mem_append.1 hc with h | h
  · rw [List.eq_of_mem_replicate h]; rfl
  · exact decDigits_dg _ c h
theorem dv_rep (k : Nat) : dv (List.replicate k 48) = 0 := by
  induction k with
  | zero => rfl
  | succ k ih => rw [List.replicate_succ', dv_snoc, ih]; rfl
theorem dv_own (m : Int) (p : Nat) : dv (own m p) = m.natAbs := by
  unfold own
  rw [dv_append, dv_rep, dv_decDigits]
  omega
theorem dg_ne {c x : UInt8} (h : isDg x = true) (hc : isDg c = false) : x ≠ c := fun e => by rw [e, hc] at h; cases h
theorem digs_sign (neg : Bool) {r : List UInt8} (hne : ∀ c, r.head? = some c → isDg c = true) (hr : r ≠ []) : digs ((if neg then [45] else []) ++ r) = r ∧ isNeg ((if neg then [45] else []) ++ r) = neg := by
  cases neg
  · cases r with
    | nil => exact absurd rfl hr
    | cons a b =>
      have h1 := hne a rfl
      have h2 : a ≠ 45 := dg_ne h1 (by decide)
      simp [digs, isNeg, h2]
  · simp [digs, isNeg]
/-- What is printed is read as so many units. -/
theorem parse_decT (m : Int) (p : Nat) (hl : (decT m p).length ≤ 90) : parseE (decT m p) = 0 ∧ parseV (decT m p) = (m : Rat) / ((10 ^ p : Nat) : Rat) := by
  have hb : (if m < 0 then [45] else [] : List UInt8) = if decide (m < 0) then [45] else [] := by by_cases h : m < 0 <;> simp [h]
  have hm : sgn (decide (m < 0)) (((m.natAbs : Nat) : Rat) / ((10 ^ p : Nat) : Rat)) = (m : Rat) / ((10 ^ p : Nat) : Rat) := by
    unfold sgn
    by_cases h : m < 0
    · have e : (m : Rat) = -((m.natAbs : Nat) : Rat) := by
        have : m = -((m.natAbs : Nat) : Int) := by omega
        conv => lhs; rw [this]
        rw [Rat.intCast_neg]
        rfl
      simp only [h, decide_true, if_true]
      rw [e, Rat.div_def, Rat.div_def, Rat.neg_mul]
    · have e : (m : Rat) = ((m.natAbs : Nat) : Rat) := by
        have : m = ((m.natAbs : Nat) : Int) := by omega
        conv => lhs; rw [this]
        rfl
      simp only [h, decide_false]
      rw [e]
      rfl
  rcases Nat.eq_zero_or_pos p with h0 | h0
  · subst h0
    have e : decT m 0 = (if decide (m < 0) then [45] else []) ++ Lib.decDigits m.natAbs := by unfold decT; rw [hb]; rfl
    rw [e] at hl ⊢
    have hhd : ∀ c, (Lib.decDigits m.natAbs).head? = some c → isDg c = true := fun c hc => decDigits_dg _ c (List.mem_of_mem_head? hc)
    obtain ⟨d1, d2⟩ := digs_sign (decide (m < 0)) hhd (decDigits_ne _)
    have n46 : ¬ 46 ∈ Lib.decDigits m.natAbs := fun h => dg_ne (decDigits_dg _ _ h) (by decide) rfl
    have n47 : ¬ 47 ∈ Lib.decDigits m.natAbs := fun h => dg_ne (decDigits_dg _ _ h) (by decide) rfl
    unfold parseE parseV
    rw [d1, d2, if_neg (by omega), if_neg n46, if_neg n46, cut_not n47, if_neg (by
      rintro (h | h)
      · exact h ⟨decDigits_ne _, decDigits_dg _⟩
      · exact n47 h.1), if_neg (fun h => n47 h.1), if_neg n47, dv_decDigits]
    refine ⟨rfl, ?_⟩
    have := hm
    simpa using this
  · have e : decT m p = (if decide (m < 0) then [45] else []) ++ ((own m p).take ((own m p).length - p) ++ 46 :: (own m p).drop ((own m p).length - p)) := by
      have hp0 : ¬ p = 0 := by omega
      unfold decT
      rw [hb]
      simp only [hp0, if_false]
    have hlen := own_len m p
    rw [e] at hl ⊢
    have hta : ∀ x ∈ (own m p).take ((own m p).length - p), isDg x = true := fun x hx => own_dg m p x (List.mem_of_mem_take hx)
    have htd : ∀ x ∈ (own m p).drop ((own m p).length - p), isDg x = true := fun x hx => own_dg m p x (List.mem_of_mem_drop hx)
    have hne1 : (own m p).take ((own m p).length - p) ≠ [] := fun h => by have := congrArg List.length h; rw [List.length_take] at this; simp at this; omega
    have hne2 : (own m p).drop ((own m p).length - p) ≠ [] := fun h => by have := congrArg List.length h; rw [List.length_drop] at this; simp at this; omega
    obtain ⟨d1, d2⟩ := digs_sign (decide (m < 0)) (r := (own m p).take ((own m p).length - p) ++ 46 :: (own m p).drop ((own m p).length - p)) (by
      intro c hc
      cases hq : (own m p).take ((own m p).length - p) with
      | nil => exact absurd hq hne1
      | cons a b =>
        rw [hq] at hc hta
        injection hc with hc
        rw [← hc]
        exact hta a (by simp)) (by simp)
    obtain ⟨k1, k2, k3⟩ := cut_at (c := 46) (b := (own m p).drop ((own m p).length - p)) (fun x hx => dg_ne (hta x hx) (by decide))
    unfold parseE parseV
    rw [d1, d2, k1, k2, if_neg (by omega), if_pos k3, if_pos ⟨⟨hne1, hta⟩, ⟨hne2, htd⟩⟩, if_pos k3, List.take_append_drop, dv_own, List.length_drop, show (own m p).length - ((own m p).length - p) = p by omega]
    exact ⟨rfl, hm⟩
end Go.KI
namespace Go.KI
open Go

theorem split_eq {c : UInt8} : ∀ {l : List UInt8}, c ∈ l → l = ahead c l ++ c :: behind c l := by
  intro l
  induction l with
  | nil => intro h; simp at h
  | cons x r ih =>
    intro h
    by_cases hx : x = c
    · simp [ahead, behind, hx]
    · have h1 : (x != c) = true := by simpa using hx
      have h2 : c ∈ r := by simpa [Ne.symm hx] using h
      have h3 := ih h2
      unfold ahead behind at h3 ⊢
      simp only [List.takeWhile_cons, List.dropWhile_cons, h1, if_true, List.cons_append]
      rw [← h3]
theorem ahead_ne {c : UInt8} (l : List UInt8) : ∀ x ∈ ahead c l, x ≠ c := by
  intro x hx
  unfold ahead at hx
  induction l with
  | nil => simp at hx
  | cons y r ih =>
    by_cases h : (y != c) = true
    · simp only [List.takeWhile_cons, h, if_true, List.mem_cons] at hx
      rcases hx with h1 | h1
      · rw [h1]; simpa using h
      · exact ih h1
    · simp [h] at hx
theorem lib_cut (c : UInt8) (l : List UInt8) : Lib.cut l [c] = if c ∈ l then (ahead c l, behind c l, true) else (l, [], false) := by
  unfold Lib.cut
  by_cases h : c ∈ l
  · have e := split_eq h
    have hna := ahead_ne (c := c) l
    rw [if_pos h]
    obtain ⟨a, ha⟩ : ∃ a, a = ahead c l := ⟨_, rfl⟩
    obtain ⟨b, hb⟩ : ∃ b, b = behind c l := ⟨_, rfl⟩
    rw [← ha] at e hna ⊢
    rw [← hb] at e ⊢
    clear ha hb h
    subst e
    have hi : Lib.index (a ++ c :: b) [c] = (a.length : Int) := by
      refine Lib.index_first (by simp) ?_ ?_
      · unfold Lib.occAt
        rw [List.drop_left]
        simp
      · intro j hj
        cases ho : Lib.occAt (a ++ c :: b) [c] j with
        | false => rfl
        | true =>
          have h1 := Lib.occAt_head rfl ho
          rw [List.getElem?_append_left hj] at h1
          exact absurd rfl (hna c (List.mem_of_getElem? h1))
    rw [hi, if_pos (by omega), Int.toNat_natCast]
    have e2 : (a ++ c :: b).drop (a.length + [c].length) = b := by
      rw [List.drop_append]
      simp
    rw [List.take_left, e2]
  · rw [if_neg h, if_neg]
    intro hn
    have hnone : Lib.index l [c] = -1 := Lib.index_none (fun j _ => by
      cases ho : Lib.occAt l [c] j with
      | false => rfl
      | true => exact absurd (List.mem_of_getElem? (Lib.occAt_head rfl ho)) h)
    omega
theorem ahead47 (l : List UInt8) : numT l = ahead 47 l ∧ denT l = behind 47 l := ⟨rfl, rfl⟩
end Go.KI
namespace Go.Proofs.YtgddookioipjiaaGreatDoor
open Go.RowKit Go.KP Go.KI Go.Shelf
attribute [local go_sem] Oper.semAt_some

/-- What the walks of numbers ask of a world: the table of powers stands, and strings.Cut's variable. -/
structure PQ (B : Nat) (w : World) : Prop where
  p10 : P10 B w
  lt : 4 < B
  len : ∃ m, w.cell? ⟨4, 0, none⟩ = some (.int .i64 m)
theorem PQ.on {B n : Nat} {w w2 : World} (h : PQ B w) (hb : Below n w w2) (hB : B ≤ n) : PQ B w2 := by
  refine ⟨h.p10.on hb hB, h.lt, ?_⟩
  obtain ⟨m, hm⟩ := h.len
  have := h.lt
  exact ⟨m, (hb.cell (p := ⟨4, 0, none⟩) (show 4 < n by omega)).trans hm⟩
theorem PQ.mono {B B2 : Nat} {w : World} (h : PQ B w) (hB : B ≤ B2) : PQ B2 w := ⟨h.p10.mono hB, Nat.lt_of_lt_of_le h.lt hB, h.len⟩
/-- strings.Cut at a byte. -/
theorem scut_any (c : UInt8) (s : ByteArray) (hl : s.size ≤ 1000000) (B : Nat) (w : World) (hT : PQ B w) :
    Calls Tryz.prog 167 #[.string s, .string ⟨#[c]⟩] w (Ret w (.tuple #[.string (strB (KI.ahead c s.data.toList)), .string (strB (if c ∈ s.data.toList then KI.behind c s.data.toList else [])), .bool (decide (c ∈ s.data.toList))])) := by
  obtain ⟨m, hm⟩ := hT.len
  refine (Tryz.strings_Cut s ⟨#[c]⟩ m w (by omega) hm).mono ?_
  rintro e w' ⟨he, n, rfl⟩
  have e1 : Lib.cut s.data.toList (⟨#[c]⟩ : ByteArray).data.toList = Lib.cut s.data.toList [c] := rfl
  rw [e1, lib_cut] at he
  refine ⟨?_, below_drewN (Below.refl _ _) n⟩
  rw [he]
  by_cases h : c ∈ s.data.toList
  · simp [h, strB]
  · rw [cut_not h]
    simp [h, strB]
/-- The two parts of a number. -/
abbrev partsV (n d : ByteArray) : Value := .agg #[.string n, .string d]
abbrev partsO (n d : ByteArray) : Obj := .cells #[.string n, .string d] 84
theorem exit_cut {R : Ending → World → Prop} {a : Act} {W : World} {b : Nat} {n d : ByteArray} {ok : Bool} (hb : W.heap[b]? = some (partsO n d)) (h2 : a.tmps[2]? = some (.pointer (some ⟨b, 0, none⟩))) (h3 : a.tmps[3]? = some (.bool ok)) (hd : a.defers = []) (hR : R (.returned (.tuple #[partsV n d, .bool ok])) W) :
    bodyPost Tryz.prog Tryz.f111 R .ret a W := by
  have hcell := fun o => cell_blk hb o
  refine bodyPost_ret ?_ hd hR
  simp [results, go_sem, hcell, h2, h3]
theorem exit_cutSet {R : Ending → World → Prop} {a : Act} {W : World} {b : Nat} {n d u0 u1 : ByteArray} {ok : Bool} (hb : W.heap[b]? = some (partsO u0 u1)) (h2 : a.tmps[2]? = some (.pointer (some ⟨b, 0, none⟩))) (h3 : a.tmps[3]? = some (.bool ok)) (hd : a.defers = [])
    (hR : Below b W ((W.setCell ⟨b, 0, none⟩ (.string n)).setCell ⟨b, 1, none⟩ (.string d)) → R (.returned (.tuple #[partsV n d, .bool ok])) ((W.setCell ⟨b, 0, none⟩ (.string n)).setCell ⟨b, 1, none⟩ (.string d))) :
    bodyPost Tryz.prog Tryz.f111 R .ret a ((W.setCell ⟨b, 0, none⟩ (.string n)).setCell ⟨b, 1, none⟩ (.string d)) := by
  obtain ⟨s1, s2⟩ := set2 hb (.string n) (.string d)
  exact exit_cut s1 h2 h3 hd (hR s2)
theorem exit_readQ {R : Ending → World → Prop} {a : Act} {W : World} {b : Nat} {n d : ByteArray} {z : Int} (hb : W.heap[b]? = some (partsO n d)) (h2 : a.tmps[2]? = some (.pointer (some ⟨b, 0, none⟩))) (h3 : a.tmps[3]? = some (.int .i64 z)) (hd : a.defers = []) (hR : R (.returned (.tuple #[partsV n d, .int .i64 z])) W) :
    bodyPost Tryz.prog Tryz.f58 R .ret a W := by
  have hcell := fun o => cell_blk hb o
  refine bodyPost_ret ?_ hd hR
  simp [results, go_sem, hcell, h2, h3]
theorem exit_readQSet {R : Ending → World → Prop} {a : Act} {W : World} {b : Nat} {n d u0 u1 : ByteArray} {z : Int} (hb : W.heap[b]? = some (partsO u0 u1)) (h2 : a.tmps[2]? = some (.pointer (some ⟨b, 0, none⟩))) (h3 : a.tmps[3]? = some (.int .i64 z)) (hd : a.defers = [])
    (hR : Below b W ((W.setCell ⟨b, 0, none⟩ (.string n)).setCell ⟨b, 1, none⟩ (.string d)) → R (.returned (.tuple #[partsV n d, .int .i64 z])) ((W.setCell ⟨b, 0, none⟩ (.string n)).setCell ⟨b, 1, none⟩ (.string d))) :
    bodyPost Tryz.prog Tryz.f58 R .ret a ((W.setCell ⟨b, 0, none⟩ (.string n)).setCell ⟨b, 1, none⟩ (.string d)) := by
  obtain ⟨s1, s2⟩ := set2 hb (.string n) (.string d)
  exact exit_readQ s1 h2 h3 hd (hR s2)
theorem beq0 {k : Nat} : (k = 0 → ((k : Int) == 0) = true) ∧ (k ≠ 0 → ((k : Int) == 0) = false) := by
  constructor
  · intro h; rw [h]; rfl
  · intro h
    simp only [beq_eq_false_iff_ne, ne_eq]
    omega
theorem lit_eq {s : ByteArray} {l m : List UInt8} (h : s.data.toList = l) : (l = m → (s.toList == m) = true) ∧ (l ≠ m → (s.toList == m) = false) := by
  rw [ByteArray.toList_eq, h]
  exact ⟨fun e => by rw [e]; simp, fun e => by simpa using e⟩
theorem itoa_len (z : Int) : (Lib.itoa z).length ≤ (Lib.decDigits z.natAbs).length + 1 := by
  rcases itoa_cases z with ⟨_, h⟩ | ⟨_, h⟩ <;> rw [h]
  · rw [List.length_cons]
    omega
  · omega
theorem fits_size {s : ByteArray} {z : Int} (h : s.data.toList = Lib.itoa z) (hf : fits z) : s.size ≤ 301 := by
  have h1 := itoa_len z
  have h2 := fits_len.1 hf
  rw [← bytes_len, h]
  omega
theorem itoa_head (z : Int) : (Lib.itoa z).head? = some 45 ↔ z < 0 := by
  rcases itoa_cases z with ⟨h1, h⟩ | ⟨h1, h⟩ <;> rw [h]
  · exact ⟨fun _ => h1, fun _ => rfl⟩
  · exact ⟨fun e => absurd e (dec_head45 _), fun e => by omega⟩
theorem itoa_is_one (z : Int) : Lib.itoa z = [49] ↔ z = 1 := by
  constructor
  · intro h
    have := val_itoa z
    rw [h] at this
    exact this.symm.trans (by decide)
  · intro h
    rw [h, show (1 : Int) = ((1 : Nat) : Int) from rfl, Lib.itoa_nonneg, one_dec]
end Go.Proofs.YtgddookioipjiaaGreatDoor
namespace Go.Proofs.YtgddookioipjiaaGreatDoor
open Go.RowKit Go.KP Go.KI Go.Shelf
attribute [local go_sem] Oper.semAt_some

set_option maxRecDepth 100000 in
set_option maxHeartbeats 2000000 in
theorem Gcd_small (s t : ByteArray) (B : Nat) (w : World) (c1 : chkI s.data.toList = 0) (c2 : chkI t.data.toList = 0) (hs : s.size ≤ 18) (ht : t.size ≤ 18) (hB : B ≤ w.heap.size) (hT : P10 B w) :
    Calls Tryz.prog 112 #[.string s, .string t] w (Ret w (pairV (Lib.itoa ((Nat.gcd (valI s.data.toList).natAbs (valI t.data.toList).natAbs : Nat) : Int)) 0)) := by
  have H1 := hide (both_any s t (by omega) (by omega) w)
  have hb0 : bothI s.data.toList t.data.toList = 0 := by unfold bothI; rw [if_pos c1, c2]
  rw [hb0] at H1
  have HT := hide hT
  have H2 := hide (fun w => small_yes s t c1 c2 hs ht w)
  have v1 := short_val (n := 18) c1 (by rw [bytes_len]; exact hs) (by omega)
  have v2 := short_val (n := 18) c2 (by rw [bytes_len]; exact ht) (by omega)
  rw [pow18] at v1 v2
  obtain ⟨x, hx⟩ : ∃ x, x = valI s.data.toList := ⟨_, rfl⟩
  obtain ⟨y, hy⟩ : ∃ y, y = valI t.data.toList := ⟨_, rfl⟩
  rw [← hx, ← hy] at H2 ⊢
  rw [← hx] at v1
  rw [← hy] at v2
  obtain ⟨G, hG⟩ : ∃ G, G = Nat.gcd x.natAbs y.natAbs := ⟨_, rfl⟩
  rw [← hG]
  have HG := hide hG
  have V1 := hide v1; have V2 := hide v2
  clear c1 c2 hs ht hT hx hy hb0 hG v1 v2
  go_enter Tryz.func112, Tryz.ntmps112
  go_wp2_with fail
  refine H1.out.mono ?_
  rintro e w1 ⟨rfl, hb1⟩
  have HB1 := hide hb1
  clear hb1 H1
  go_wp2_with fail
  refine (H2.out _).mono ?_
  rintro e w2 ⟨rfl, hb2⟩
  have HB2 := hide (HB1.out.trans (hb2.mono HB1.out.size))
  clear hb2 H2 HB1
  go_wp2_with fail
  go_loopw [7, 8] (fun a b wr => ∃ p q : Int, a = .int .i64 p ∧ b = .int .i64 q ∧ p.natAbs < 1000000000000000000 ∧ q.natAbs < 1000000000000000000 ∧ Hid (Nat.gcd p.natAbs q.natAbs = G ∧ Below w.heap.size w wr)) (fun _ b _ => (intOf b).natAbs)
  case atStart => exact ⟨x, y, rfl, rfl, V1.out, V2.out, HG.out.symm, HB2.out⟩
  case round =>
    obtain ⟨p, q, rfl, rfl, hp, hq, hin⟩ := hrel
    have IN := hide hin.out
    clear hin
    by_cases hq0 : q = 0
    · subst hq0
      have hqq : ((0 : Int) != 0) = false := rfl
      have hG : (p.natAbs : Nat) = G := by have := IN.out.1; simpa using this
      have GG := hide hG
      clear hq hG
      go_wp2_with fail
      have hmx : max p (-p) = (G : Int) := by have := GG.out; omega
      rw [hmx]
      have hG1 : (G : Int) ≤ 9223372036854775807 := by have := GG.out; omega
      clear hmx hqq
      refine (itoa_any G (by omega) hG1 B _ (HT.out.on IN.out.2 hB)).mono ?_
      rintro e w3 ⟨rfl, hb3⟩
      have HB3 := hide (IN.out.2.trans (hb3.mono IN.out.2.size))
      clear hb3
      go_wp2_with fail
      refine bodyPost_ret (results_tmp2 rfl _ _ _) rfl ?_
      exact ⟨rfl, HB3.out⟩
    · have hqq : (q != 0) = true := by simpa using hq0
      have hyq : (q == 0) = false := by simpa using hq0
      have hr := natAbs_tmod_lt p hq0
      have hgc : Nat.gcd q.natAbs (p.tmod q).natAbs = G := by
        rw [Int.natAbs_tmod, ← IN.out.1, Nat.gcd_comm q.natAbs, ← Nat.gcd_rec, Nat.gcd_comm]
      have GG := hide hgc
      clear hq0 hgc
      go_wp2_with fail
      go_quiet (fail)
      clear hyq hqq
      go_wp2_with fail
      go_roundw
      case rel => exact ⟨q, p.tmod q, rfl, rfl, hq, by omega, GG.out, ⟨IN.out.2.os, IN.out.2.tape, IN.out.2.output, IN.out.2.size, IN.out.2.block⟩⟩
      case measure => simpa [intOf] using hr
end Go.Proofs.YtgddookioipjiaaGreatDoor
