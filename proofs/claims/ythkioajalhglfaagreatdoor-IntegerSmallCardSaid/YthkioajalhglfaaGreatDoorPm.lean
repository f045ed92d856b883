/-
  Integers: Sub walked.
-/
import Derived.Test.YthkioajalhglfaaGreatDoorPk
namespace Go.Proofs.YthkioajalhglfaaGreatDoor
open Go.RowKit Go.KP Go.KI Go.Shelf
attribute [local go_sem] Oper.semAt_some

theorem set1 {w : World} {b : Nat} {u0 u1 : Value} {t : TypeId} (h : w.heap[b]? = some (.cells #[u0, u1] t (0, 0))) (v0 : Value) :
    (w.setCell ⟨b, 0, none⟩ v0).heap[b]? = some (.cells #[v0, u1] t (0, 0)) ∧ Below b w (w.setCell ⟨b, 0, none⟩ v0) := by
  refine ⟨?_, (Below.refl b w).setCell (p := ⟨b, 0, none⟩) (Nat.le_refl _) _⟩
  simp only [World.setCell, Array.getElem?_modify, h]
  simp
theorem valS_not (m : Bool) (n : Nat) : valS (!m) n = - valS m n := by cases m <;> simp [valS]
set_option maxRecDepth 100000 in
set_option maxHeartbeats 2000000 in
theorem Sub_any (s t : ByteArray) (B : Nat) (w : World) (hs : s.size ≤ 1000000) (ht : t.size ≤ 1000000) (hB : B ≤ w.heap.size) (hT : P10 B w) :
    Calls Tryz.prog 27 #[.string s, .string t] w (Ret w (pairV (op2S (· - ·) s.data.toList t.data.toList) (op2E (· - ·) s.data.toList t.data.toList))) := by
  have H1 := hide (both_any s t hs ht w)
  have HT := hide hT
  by_cases hE : bothI s.data.toList t.data.toList = 0
  · obtain ⟨c1, c2, e1, e2⟩ := op2_good (f := (· - ·)) hE
    rw [e1, e2]
    have C1 := hide c1; have C2 := hide c2
    rw [hE] at H1
    clear e1 e2 hE hT hs ht
    by_cases hsm : s.size ≤ 18 ∧ t.size ≤ 18
    · have H2 := hide (fun w => small_yes s t c1 c2 hsm.1 hsm.2 w)
      have v1 := short_val (n := 18) c1 (by rw [bytes_len]; exact hsm.1) (by omega)
      have v2 := short_val (n := 18) c2 (by rw [bytes_len]; exact hsm.2) (by omega)
      rw [pow18] at v1 v2
      obtain ⟨x, hx⟩ : ∃ x, x = valI s.data.toList := ⟨_, rfl⟩
      obtain ⟨y, hy⟩ : ∃ y, y = valI t.data.toList := ⟨_, rfl⟩
      rw [← hx, ← hy] at H2 ⊢
      rw [← hx] at v1
      rw [← hy] at v2
      obtain ⟨z, hz⟩ : ∃ z, z = x - y := ⟨_, rfl⟩
      have hw : IntKind.i64.wrap (x - y) = z := by rw [hz]; exact IntWalk.i64_in _ (by omega)
      obtain ⟨e3, e4⟩ := resS_small (z := z) (Nat.lt_of_lt_of_le (m := 10 ^ 19) (by omega) (Nat.pow_le_pow_right (by omega) (by omega)))
      have hz1 : -9223372036854775808 ≤ z := by omega
      have hz2 : z ≤ 9223372036854775807 := by omega
      show Calls _ _ _ _ (Ret w (pairV (resS (x - y)) (resE (x - y))))
      rw [← hz, e3, e4]
      clear c1 c2 hsm hx hy hz e3 e4
      go_enter Tryz.func27, Tryz.ntmps27
      go_wp2_with fail
      refine H1.out.mono ?_
      rintro e w1 ⟨rfl, hb1⟩
      have HB1 := hide hb1
      clear hb1 H1
      go_wp2_with fail
      refine (H2.out _).mono ?_
      rintro e w2 ⟨rfl, hb2⟩
      have HB2 := hide (HB1.out.trans (hb2.mono HB1.out.size))
      clear hb2 H2 HB1
      go_wp2_with fail
      refine (itoa_any z hz1 hz2 B w2 (HT.out.on HB2.out hB)).mono ?_
      rintro e w3 ⟨rfl, hb3⟩
      have HB3 := hide (HB2.out.trans (hb3.mono HB2.out.size))
      clear hb3 HB2
      go_wp2_with fail
      refine bodyPost_ret (results_tmp2 rfl _ _ _) rfl ?_
      exact ⟨rfl, HB3.out⟩
    · have H2 := hide (fun w => small_no s t hsm w)
      have R1 := hide (fun w => read_good s c1 w)
      have R2 := hide (fun w => read_good t c2 w)
      clear c1 c2 hsm
      go_enter Tryz.func27, Tryz.ntmps27
      go_wp2_with fail
      refine H1.out.mono ?_
      rintro e w1 ⟨rfl, hb1⟩
      have HB1 := hide hb1
      clear hb1 H1
      go_wp2_with fail
      refine (H2.out _).mono ?_
      rintro e w2 ⟨rfl, hb2⟩
      have HB2 := hide (HB1.out.trans (hb2.mono HB1.out.size))
      clear hb2 H2 HB1
      go_wp2_with fail
      refine (R2.out _).mono ?_
      rintro e w3 ⟨m2, a2, l2, rfl, hb3, o2, n2, q2, k2⟩
      obtain ⟨av, cv, hvf, _, _⟩ := o2.form
      subst hvf
      obtain ⟨g0, gs0, gb0⟩ := heap1 w3 (.cells #[.bool m2, .slice av l2.length cv] 48)
      have c0 := cell_blk g0 0
      have c1 := cell_blk g0 1
      have f0 := froz_blk g0 0
      have HB3 := hide (HB2.out.trans (hb3.mono HB2.out.size))
      have O2 := hide o2; have N2 := hide n2; have Q2 := hide q2
      clear hb3 HB2 R2 o2 n2 q2 g0 gs0 gb0
      go_wp2_with fail
      clear c0 c1 f0
      obtain ⟨g0, gs0, gb0⟩ := heap1 w3 (.cells #[.bool (!m2), .slice av l2.length cv] 48)
      obtain ⟨w4, hw4⟩ : ∃ w4, w3.alloc (.cells #[.bool (!m2), .slice av l2.length cv] 48) = w4 := ⟨_, rfl⟩
      rw [hw4] at g0 gs0 gb0 ⊢
      have c0 := cell_blk g0 0
      have c1 := cell_blk g0 1
      have O4 := hide (OwnL.keep O2.out gb0)
      have HB4 := hide (HB3.out.trans (gb0.mono HB3.out.size)); have G0 := hide g0
      have hs4 : w3.heap.size < w4.heap.size := by omega
      obtain ⟨nb, hnb⟩ : ∃ nb, nb = w3.heap.size := ⟨_, rfl⟩
      rw [← hnb] at c0 c1 G0 hs4 ⊢
      clear g0 gs0 gb0 hw4 O2 HB3 hnb
      go_region_held3 (fun w' => w'.cell? ⟨nb, 0, none⟩ = some (.bool (!m2)) ∧ w'.cell? ⟨nb, 1, none⟩ = some (.slice av l2.length cv)) (first | exact ⟨c0, c1⟩ | exact ⟨d0, d1⟩ | exact ⟨x0, x1⟩ | exact ⟨y0, y1⟩)
        (first
          | (go_at_call 38
             refine (R1.out _).mono ?_
             rintro e w5 ⟨m1, a1, l1, rfl, hb5, o1, n1, q1, k1⟩
             obtain ⟨d0, d1⟩ : w5.cell? ⟨nb, 0, none⟩ = some (.bool (!m2)) ∧ w5.cell? ⟨nb, 1, none⟩ = some (.slice av l2.length cv) := ⟨cell_blk (below_blk hb5 G0.out hs4) 0, cell_blk (below_blk hb5 G0.out hs4) 1⟩
             have D0 := hide (below_blk hb5 G0.out hs4)
             have D2 := hide (show OwnL 0 w5 (.slice av l2.length cv) l2 from OwnL.keep (show OwnL 0 w4.drew (.slice av l2.length cv) l2 from O4.out.drew) hb5)
             have DB := hide (show Below w.heap.size w w5 from (HB4.out.drew).trans (hb5.mono HB4.out.size))
             have hs5 : nb < w5.heap.size := Nat.lt_of_lt_of_le hs4 hb5.size
             have O1 := hide o1; have N1 := hide n1; have Q1 := hide q1
             clear hb5 o1 n1 q1)
          | (go_at_call 59
             refine (add_any m1 (!m2) a1 _ l1 l2 w5.heap.size w5 (.of_own O1.out) (.of_own D2.out) (Nat.le_refl _) N1.out N2.out (by omega) (by omega)).mono ?_
             rintro e w6 ⟨_, rfl, hb6, m3, a3, l3, rfl, o3, n3, q3, k3⟩
             obtain ⟨x0, x1⟩ : w6.cell? ⟨nb, 0, none⟩ = some (.bool (!m2)) ∧ w6.cell? ⟨nb, 1, none⟩ = some (.slice av l2.length cv) := ⟨cell_blk (below_blk hb6 D0.out hs5) 0, cell_blk (below_blk hb6 D0.out hs5) 1⟩
             have X0 := hide (below_blk hb6 D0.out hs5)
             have hs6 : nb < w6.heap.size := Nat.lt_of_lt_of_le hs5 hb6.size
             have XB := hide (DB.out.trans (hb6.mono DB.out.size))
             have O3 := hide o3; have N3 := hide n3; have Q3 := hide q3
             clear hb6 o3 n3 q3)
          | (go_at_call 39
             refine (result_own m3 a3 l3 0 B w6 O3.out N3.out (by omega) (HT.out.on XB.out hB) (Nat.le_trans hB XB.out.size)).mono ?_
             rintro e w7 ⟨rfl, hb7⟩
             obtain ⟨y0, y1⟩ : w7.cell? ⟨nb, 0, none⟩ = some (.bool (!m2)) ∧ w7.cell? ⟨nb, 1, none⟩ = some (.slice av l2.length cv) := ⟨cell_blk (below_blk hb7 X0.out hs6) 0, cell_blk (below_blk hb7 X0.out hs6) 1⟩
             have YB := hide (XB.out.trans (hb7.mono XB.out.size))
             clear hb7)
          | fail)
      have hz : valS m3 (lv 1000000000 l3) = valI s.data.toList - valI t.data.toList := by
        rw [Q3.out, Q1.out, valS_not, Q2.out]
        omega
      rw [hz]
      clear hz c0 c1 d0 d1 x0 x1 y0 y1
      go_wp2_with fail
      refine bodyPost_ret (results_tmp2 rfl _ _ _) rfl ?_
      exact ⟨rfl, YB.out⟩
  · obtain ⟨e1, e2⟩ := op2_bad (f := (· - ·)) hE
    rw [e1, e2]
    have hne : (bothI s.data.toList t.data.toList != 0) = true := by simpa using hE
    obtain ⟨E, hEE⟩ : ∃ E, E = bothI s.data.toList t.data.toList := ⟨_, rfl⟩
    rw [← hEE] at H1 hne ⊢
    clear e1 e2 hE hEE hT
    go_enter Tryz.func27, Tryz.ntmps27
    go_wp2_with fail
    refine H1.out.mono ?_
    rintro e w1 ⟨rfl, hb1⟩
    have HB1 := hide hb1
    clear hb1 H1
    go_wp2_with fail
    refine bodyPost_ret (results_tmp2 rfl _ _ _) rfl ?_
    exact ⟨rfl, HB1.out⟩
end Go.Proofs.YthkioajalhglfaaGreatDoor
