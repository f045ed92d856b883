/-
  Texts of the integers, laid together: Rm, Rn, Rg, L8.
-/
import Derived.Test.YthkioajalhglfaaGreatDoorZ9
import Derived.Test.YthkioajalhglfaaGreatDoorZ10
import Derived.Test.YthkioajalhglfaaGreatDoorZ11
namespace Go.Proofs.YthkioajalhglfaaGreatDoor
open Go.RowKit Go.KP Go.KI Go.Shelf
attribute [local go_sem] Oper.semAt_some

theorem pow17 : (10 : Nat) ^ 17 = 100000000000000000 := by decide
set_option maxRecDepth 100000 in
set_option maxHeartbeats 2000000 in
theorem rAdd_any (s t : ByteArray) (B : Nat) (w : World) (hs : s.size ≤ 1000000) (ht : t.size ≤ 1000000) (hB : B ≤ w.heap.size) (hT : P10 B w) :
    Calls Tryz.prog 28 #[.string s, .string t] w (Ret w (pairV (op2S (· + ·) s.data.toList t.data.toList) (op2E (· + ·) s.data.toList t.data.toList))) := by
  have H1 := hide (rboth_any s t hs ht w)
  have HT := hide hT
  by_cases hE : bothI s.data.toList t.data.toList = 0
  · obtain ⟨c1, c2, e1, e2⟩ := op2_good (f := (· + ·)) hE
    rw [e1, e2]
    have C1 := hide c1; have C2 := hide c2
    rw [hE] at H1
    clear e1 e2 hE hT hs ht
    by_cases hsm : s.size ≤ 17 ∧ t.size ≤ 17
    · have H2 := hide (fun w => rtwo_yes s t c1 c2 (by omega) (by omega) w)
      have v1 := short_val (n := 17) c1 (by rw [bytes_len]; omega) (by omega)
      have v2 := short_val (n := 17) c2 (by rw [bytes_len]; omega) (by omega)
      rw [pow17] at v1 v2
      obtain ⟨x, hx⟩ : ∃ x, x = valI s.data.toList := ⟨_, rfl⟩
      obtain ⟨y, hy⟩ : ∃ y, y = valI t.data.toList := ⟨_, rfl⟩
      rw [← hx, ← hy] at H2 ⊢
      rw [← hx] at v1
      rw [← hy] at v2
      obtain ⟨z, hz⟩ : ∃ z, z = x + y := ⟨_, rfl⟩
      have hw : IntKind.i64.wrap (x + y) = z := by rw [hz]; exact IntWalk.i64_in _ (by omega)
      obtain ⟨e3, e4⟩ := resS_small (z := z) (Nat.lt_of_lt_of_le (m := 10 ^ 19) (by omega) (Nat.pow_le_pow_right (by omega) (by omega)))
      have hz1 : -9223372036854775808 ≤ z := by omega
      have hz2 : z ≤ 9223372036854775807 := by omega
      show Calls _ _ _ _ (Ret w (pairV (resS (x + y)) (resE (x + y))))
      rw [← hz, e3, e4]
      clear c1 c2 hsm hx hy hz e3 e4
      go_enter Tryz.func28, Tryz.ntmps28
      go_wp2_with fail
      refine H1.out.mono ?_
      rintro e w1 ⟨rfl, hb1⟩
      have HB1 := hide hb1
      clear hb1 H1
      go_wp2_with fail
      refine (H2.out _).mono ?_
      rintro e w2 ⟨rfl, hb2⟩
      have HB2 := hide (HB1.out.trans (hb2.mono HB1.out.size))
      clear hb2 H2 HB1
      go_wp2_with fail
      refine (itoa_any z hz1 hz2 B w2 (HT.out.on HB2.out hB)).mono ?_
      rintro e w3 ⟨rfl, hb3⟩
      have HB3 := hide (HB2.out.trans (hb3.mono HB2.out.size))
      clear hb3 HB2
      go_wp2_with fail
      refine bodyPost_ret (results_tmp2 rfl _ _ _) rfl ?_
      exact ⟨rfl, HB3.out⟩
    · have H2 := hide (fun w => rtwo_no s t c1 hsm w)
      have R1 := hide (fun w => rread_good s c1 w)
      have R2 := hide (fun w => rread_good t c2 w)
      clear c1 c2 hsm
      go_enter Tryz.func28, Tryz.ntmps28
      go_wp2_with fail
      refine H1.out.mono ?_
      rintro e w1 ⟨rfl, hb1⟩
      have HB1 := hide hb1
      clear hb1 H1
      go_wp2_with fail
      refine (H2.out _).mono ?_
      rintro e w2 ⟨x0, y0, rfl, hb2⟩
      have HB2 := hide (HB1.out.trans (hb2.mono HB1.out.size))
      clear hb2 H2 HB1
      go_wp2_with fail
      refine (R1.out _).mono ?_
      rintro e w3 ⟨m1, v1, l1, rfl, hb3, o1, n1, q1, k1⟩
      obtain ⟨a1, g1, hvf, _, _⟩ := o1.form
      subst hvf
      have HB3 := hide (HB2.out.trans (hb3.mono HB2.out.size))
      have O1 := hide o1; have N1 := hide n1; have Q1 := hide q1
      clear hb3 HB2 R1 o1 n1 q1
      go_wp2_with fail
      refine (R2.out _).mono ?_
      rintro e w4 ⟨m2, v2, l2, rfl, hb4, o2, n2, q2, k2⟩
      obtain ⟨a2, g2, hvf, _, _⟩ := o2.form
      subst hvf
      have HB4 := hide (HB3.out.trans (hb4.mono HB3.out.size))
      have O1' := hide (O1.out.keep hb4)
      have O2 := hide o2; have N2 := hide n2; have Q2 := hide q2
      clear hb4 HB3 R2 o2 n2 q2 O1
      go_wp2_with fail
      refine (radd_any m1 m2 a1 a2 g1 g2 l1 l2 w4 (.of_own O1'.out) (.of_own O2.out) N1.out N2.out (by omega) (by omega)).mono ?_
      rintro e w5 ⟨m3, v3, l3, rfl, hb5, o3, n3, q3, k3⟩
      obtain ⟨a3, g3, hvf, _, _⟩ := o3.form
      subst hvf
      have HB5 := hide (HB4.out.trans (hb5.mono HB4.out.size))
      have O3 := hide o3; have N3 := hide n3
      rw [Q1.out, Q2.out] at q3
      have Q3 := hide q3
      clear hb5 HB4 O1' O2 N1 N2 Q1 Q2 o3 n3 q3
      go_wp2_with fail
      refine (rresult_any m3 _ l3 w5.heap.size w5 (.of_own O3.out) (Nat.le_refl _) N3.out (by omega)).mono ?_
      rintro e w6 ⟨rfl, hb6⟩
      rw [Q3.out]
      have HB6 := hide (HB5.out.trans (hb6.mono HB5.out.size))
      clear hb6 HB5
      go_wp2_with fail
      refine bodyPost_ret (results_tmp2 rfl _ _ _) rfl ?_
      exact ⟨rfl, HB6.out⟩
  · obtain ⟨e1, e2⟩ := op2_bad (f := (· + ·)) hE
    rw [e1, e2]
    have hne : (bothI s.data.toList t.data.toList != 0) = true := by simpa using hE
    obtain ⟨E, hEE⟩ : ∃ E, E = bothI s.data.toList t.data.toList := ⟨_, rfl⟩
    rw [← hEE] at H1 hne ⊢
    clear e1 e2 hE hEE hT
    go_enter Tryz.func28, Tryz.ntmps28
    go_wp2_with fail
    refine H1.out.mono ?_
    rintro e w1 ⟨rfl, hb1⟩
    have HB1 := hide hb1
    clear hb1 H1
    go_wp2_with fail
    refine bodyPost_ret (results_tmp2 rfl _ _ _) rfl ?_
    exact ⟨rfl, HB1.out⟩
set_option maxRecDepth 100000 in
set_option maxHeartbeats 2000000 in
theorem rSub_any (s t : ByteArray) (B : Nat) (w : World) (hs : s.size ≤ 1000000) (ht : t.size ≤ 1000000) (hB : B ≤ w.heap.size) (hT : P10 B w) :
    Calls Tryz.prog 29 #[.string s, .string t] w (Ret w (pairV (op2S (· - ·) s.data.toList t.data.toList) (op2E (· - ·) s.data.toList t.data.toList))) := by
  have H1 := hide (rboth_any s t hs ht w)
  have HT := hide hT
  by_cases hE : bothI s.data.toList t.data.toList = 0
  · obtain ⟨c1, c2, e1, e2⟩ := op2_good (f := (· - ·)) hE
    rw [e1, e2]
    have C1 := hide c1; have C2 := hide c2
    rw [hE] at H1
    clear e1 e2 hE hT hs ht
    by_cases hsm : s.size ≤ 17 ∧ t.size ≤ 17
    · have H2 := hide (fun w => rtwo_yes s t c1 c2 (by omega) (by omega) w)
      have v1 := short_val (n := 17) c1 (by rw [bytes_len]; omega) (by omega)
      have v2 := short_val (n := 17) c2 (by rw [bytes_len]; omega) (by omega)
      rw [pow17] at v1 v2
      obtain ⟨x, hx⟩ : ∃ x, x = valI s.data.toList := ⟨_, rfl⟩
      obtain ⟨y, hy⟩ : ∃ y, y = valI t.data.toList := ⟨_, rfl⟩
      rw [← hx, ← hy] at H2 ⊢
      rw [← hx] at v1
      rw [← hy] at v2
      obtain ⟨z, hz⟩ : ∃ z, z = x - y := ⟨_, rfl⟩
      have hw : IntKind.i64.wrap (x - y) = z := by rw [hz]; exact IntWalk.i64_in _ (by omega)
      obtain ⟨e3, e4⟩ := resS_small (z := z) (Nat.lt_of_lt_of_le (m := 10 ^ 19) (by omega) (Nat.pow_le_pow_right (by omega) (by omega)))
      have hz1 : -9223372036854775808 ≤ z := by omega
      have hz2 : z ≤ 9223372036854775807 := by omega
      show Calls _ _ _ _ (Ret w (pairV (resS (x - y)) (resE (x - y))))
      rw [← hz, e3, e4]
      clear c1 c2 hsm hx hy hz e3 e4
      go_enter Tryz.func29, Tryz.ntmps29
      go_wp2_with fail
      refine H1.out.mono ?_
      rintro e w1 ⟨rfl, hb1⟩
      have HB1 := hide hb1
      clear hb1 H1
      go_wp2_with fail
      refine (H2.out _).mono ?_
      rintro e w2 ⟨rfl, hb2⟩
      have HB2 := hide (HB1.out.trans (hb2.mono HB1.out.size))
      clear hb2 H2 HB1
      go_wp2_with fail
      refine (itoa_any z hz1 hz2 B w2 (HT.out.on HB2.out hB)).mono ?_
      rintro e w3 ⟨rfl, hb3⟩
      have HB3 := hide (HB2.out.trans (hb3.mono HB2.out.size))
      clear hb3 HB2
      go_wp2_with fail
      refine bodyPost_ret (results_tmp2 rfl _ _ _) rfl ?_
      exact ⟨rfl, HB3.out⟩
    · have H2 := hide (fun w => rtwo_no s t c1 hsm w)
      have R1 := hide (fun w => rread_good s c1 w)
      have R2 := hide (fun w => rread_good t c2 w)
      clear c1 c2 hsm
      go_enter Tryz.func29, Tryz.ntmps29
      go_wp2_with fail
      refine H1.out.mono ?_
      rintro e w1 ⟨rfl, hb1⟩
      have HB1 := hide hb1
      clear hb1 H1
      go_wp2_with fail
      refine (H2.out _).mono ?_
      rintro e w2 ⟨x0, y0, rfl, hb2⟩
      have HB2 := hide (HB1.out.trans (hb2.mono HB1.out.size))
      clear hb2 H2 HB1
      go_wp2_with fail
      refine (R1.out _).mono ?_
      rintro e w3 ⟨m1, v1, l1, rfl, hb3, o1, n1, q1, k1⟩
      obtain ⟨a1, g1, hvf, _, _⟩ := o1.form
      subst hvf
      have HB3 := hide (HB2.out.trans (hb3.mono HB2.out.size))
      have O1 := hide o1; have N1 := hide n1; have Q1 := hide q1
      clear hb3 HB2 R1 o1 n1 q1
      go_wp2_with fail
      refine (R2.out _).mono ?_
      rintro e w4 ⟨m2, v2, l2, rfl, hb4, o2, n2, q2, k2⟩
      obtain ⟨a2, g2, hvf, _, _⟩ := o2.form
      subst hvf
      have HB4 := hide (HB3.out.trans (hb4.mono HB3.out.size))
      have O1' := hide (O1.out.keep hb4)
      have O2 := hide o2; have N2 := hide n2; have Q2 := hide q2
      clear hb4 HB3 R2 o2 n2 q2 O1
      go_wp2_with fail
      refine (rnegative_any m2 a2 g2 l2 w4).mono ?_
      rintro e w41 ⟨m21, rfl, hb41, q21⟩
      have HB41 := hide (HB4.out.trans (hb41.mono HB4.out.size))
      have O11 := hide (O1'.out.keep hb41)
      have O21 := hide (O2.out.keep hb41)
      have Q21 := hide q21
      clear hb41 q21
      go_wp2_with fail
      refine (radd_any m1 m21 a1 a2 g1 g2 l1 l2 w41 (.of_own O11.out) (.of_own O21.out) N1.out N2.out (by omega) (by omega)).mono ?_
      rintro e w5 ⟨m3, v3, l3, rfl, hb5, o3, n3, q3, k3⟩
      obtain ⟨a3, g3, hvf, _, _⟩ := o3.form
      subst hvf
      have HB5 := hide (HB41.out.trans (hb5.mono HB41.out.size))
      have O3 := hide o3; have N3 := hide n3
      have hq3 : valS m3 (lv 1000000 l3) = valI s.data.toList - valI t.data.toList := by
        rw [q3, Q1.out, Q21.out, Q2.out]
        omega
      clear q3
      have q3 := hq3
      have Q3 := hide q3
      clear hb5 HB4 HB41 O11 O21 Q21 hq3 O1' O2 N1 N2 Q1 Q2 o3 n3 q3
      go_wp2_with fail
      refine (rresult_any m3 _ l3 w5.heap.size w5 (.of_own O3.out) (Nat.le_refl _) N3.out (by omega)).mono ?_
      rintro e w6 ⟨rfl, hb6⟩
      rw [Q3.out]
      have HB6 := hide (HB5.out.trans (hb6.mono HB5.out.size))
      clear hb6 HB5
      go_wp2_with fail
      refine bodyPost_ret (results_tmp2 rfl _ _ _) rfl ?_
      exact ⟨rfl, HB6.out⟩
  · obtain ⟨e1, e2⟩ := op2_bad (f := (· - ·)) hE
    rw [e1, e2]
    have hne : (bothI s.data.toList t.data.toList != 0) = true := by simpa using hE
    obtain ⟨E, hEE⟩ : ∃ E, E = bothI s.data.toList t.data.toList := ⟨_, rfl⟩
    rw [← hEE] at H1 hne ⊢
    clear e1 e2 hE hEE hT
    go_enter Tryz.func29, Tryz.ntmps29
    go_wp2_with fail
    refine H1.out.mono ?_
    rintro e w1 ⟨rfl, hb1⟩
    have HB1 := hide hb1
    clear hb1 H1
    go_wp2_with fail
    refine bodyPost_ret (results_tmp2 rfl _ _ _) rfl ?_
    exact ⟨rfl, HB1.out⟩
/-- What two returns. -/
def TwoRes (s t : ByteArray) (w : World) (e : Ending) (w2 : World) : Prop := ∃ (x y : Int) (i : Bool), Ret w (.tuple #[.int .i64 x, .int .i64 y, .bool i]) e w2 ∧ (i = true → s.size ≤ 17 ∧ t.size ≤ 17)
theorem two_res (s t : ByteArray) (c1 : chkI s.data.toList = 0) (c2 : chkI t.data.toList = 0) (w : World) :
    Calls Tryz.prog 42 #[.string s, .string t] w (TwoRes s t w) := by
  by_cases h : s.size ≤ 17 ∧ t.size ≤ 17
  · exact (rtwo_yes s t c1 c2 h.1 h.2 w).mono (fun e w2 hr => ⟨_, _, true, hr, fun _ => h⟩)
  · exact (rtwo_no s t c1 h w).mono (fun e w2 ⟨x, y, hr⟩ => ⟨x, y, false, hr, fun h => by cases h⟩)
set_option maxRecDepth 100000 in
set_option maxHeartbeats 2000000 in
theorem rMul_any (s t : ByteArray) (B : Nat) (w : World) (hs : s.size ≤ 1000000) (ht : t.size ≤ 1000000) (hB : B ≤ w.heap.size) (hT : P10 B w) :
    Calls Tryz.prog 16 #[.string s, .string t] w (Ret w (pairV (op2S (· * ·) s.data.toList t.data.toList) (op2E (· * ·) s.data.toList t.data.toList))) := by
  have H1 := hide (rboth_any s t hs ht w)
  have HT := hide hT
  by_cases hE : bothI s.data.toList t.data.toList = 0
  · obtain ⟨c1, c2, e1, e2⟩ := op2_good (f := (· * ·)) hE
    rw [e1, e2]
    have C1 := hide c1; have C2 := hide c2
    rw [hE] at H1
    clear e1 e2 hE hT hs ht
    by_cases hsm : s.size ≤ 17 ∧ t.size ≤ 17 ∧ s.size + t.size ≤ 18
    · have H2 := hide (fun w => rtwo_yes s t c1 c2 (by omega) (by omega) w)
      have z1 := chk_pos c1
      have z2 := chk_pos c2
      rw [bytes_len] at z1 z2
      have v1 := short_val (n := s.size) c1 (by rw [bytes_len]; exact Nat.le_refl _) z1
      have v2 := short_val (n := t.size) c2 (by rw [bytes_len]; exact Nat.le_refl _) z2
      obtain ⟨x, hx⟩ : ∃ x, x = valI s.data.toList := ⟨_, rfl⟩
      obtain ⟨y, hy⟩ : ∃ y, y = valI t.data.toList := ⟨_, rfl⟩
      rw [← hx, ← hy] at H2 ⊢
      rw [← hx] at v1
      rw [← hy] at v2
      obtain ⟨z, hz⟩ : ∃ z, z = x * y := ⟨_, rfl⟩
      have hzz : z.natAbs < 1000000000000000000 := by
        rw [hz, Int.natAbs_mul, ← pow18]
        refine Nat.lt_of_lt_of_le (Nat.mul_lt_mul'' v1 v2) ?_
        rw [← Nat.pow_add]
        exact Nat.pow_le_pow_right (by omega) (by omega)
      have hw : IntKind.i64.wrap (x * y) = z := by rw [← hz]; exact IntWalk.i64_in _ (by omega)
      obtain ⟨e3, e4⟩ := resS_small (z := z) (Nat.lt_of_lt_of_le (m := 10 ^ 19) (by omega) (Nat.pow_le_pow_right (by omega) (by omega)))
      have hz1 : -9223372036854775808 ≤ z := by omega
      have hz2 : z ≤ 9223372036854775807 := by omega
      have hle : (s.size : Int) + (t.size : Int) ≤ 18 := by omega
      clear v1 v2 z1 z2 hzz
      show Calls _ _ _ _ (Ret w (pairV (resS (x * y)) (resE (x * y))))
      rw [← hz, e3, e4]
      clear c1 c2 hsm hx hy hz e3 e4
      go_enter Tryz.func16, Tryz.ntmps16
      go_wp2_with fail
      refine H1.out.mono ?_
      rintro e w1 ⟨rfl, hb1⟩
      have HB1 := hide hb1
      clear hb1 H1
      go_wp2_with fail
      refine (H2.out _).mono ?_
      rintro e w2 ⟨rfl, hb2⟩
      have HB2 := hide (HB1.out.trans (hb2.mono HB1.out.size))
      clear hb2 H2 HB1
      go_wp2_with fail
      refine (itoa_any z hz1 hz2 B w2 (HT.out.on HB2.out hB)).mono ?_
      rintro e w3 ⟨rfl, hb3⟩
      have HB3 := hide (HB2.out.trans (hb3.mono HB2.out.size))
      clear hb3 HB2
      go_wp2_with fail
      refine bodyPost_ret (results_tmp2 rfl _ _ _) rfl ?_
      exact ⟨rfl, HB3.out⟩
    · have H2 := hide (fun w => two_res s t c1 c2 w)
      have R1 := hide (fun w => rread_good s c1 w)
      have R2 := hide (fun w => rread_good t c2 w)
      clear c1 c2
      go_enter Tryz.func16, Tryz.ntmps16
      go_wp2_with fail
      refine H1.out.mono ?_
      rintro e w1 ⟨rfl, hb1⟩
      have HB1 := hide hb1
      clear hb1 H1
      go_wp2_with fail
      refine (H2.out _).mono ?_
      rintro e w2 ⟨x0, y0, I0, ⟨rfl, hb2⟩, hI0⟩
      have HB2 := hide (HB1.out.trans (hb2.mono HB1.out.size))
      clear hb2 H2 HB1
      have hcl : I0 = false ∨ (I0 = true ∧ s.size ≤ 17 ∧ t.size ≤ 17 ∧ ((s.size : Int) + (t.size : Int) ≤ 18) = False) := by
        cases hI : I0
        · exact .inl rfl
        · have := hI0 hI
          exact .inr ⟨rfl, this.1, this.2, eq_false (by omega)⟩
      clear hsm hI0
      rcases hcl with rfl | ⟨rfl, hs17, ht17, hgt⟩
      all_goals
        go_wp2_with fail
        refine (R1.out _).mono ?_
        rintro e w3 ⟨m1, v1, l1, rfl, hb3, o1, n1, q1, k1⟩
        obtain ⟨a1, g1, hvf, _, _⟩ := o1.form
        subst hvf
        have HB3 := hide (HB2.out.trans (hb3.mono HB2.out.size))
        have O1 := hide o1; have N1 := hide n1; have Q1 := hide q1
        clear hb3 HB2 R1 o1 n1 q1
        go_wp2_with fail
        refine (R2.out _).mono ?_
        rintro e w4 ⟨m2, v2, l2, rfl, hb4, o2, n2, q2, k2⟩
        obtain ⟨a2, g2, hvf, _, _⟩ := o2.form
        subst hvf
        have HB4 := hide (HB3.out.trans (hb4.mono HB3.out.size))
        have O1' := hide (O1.out.keep hb4)
        have O2 := hide o2; have N2 := hide n2; have Q2 := hide q2
        clear hb4 HB3 R2 o2 n2 q2 O1
        go_wp2_with fail
        refine (rmul_any m1 m2 a1 a2 g1 g2 l1 l2 w4 (.of_own O1'.out) (.of_own O2.out) N1.out.lt N2.out.lt (by omega) (by omega)).mono ?_
        rintro e w5 ⟨m3, v3, l3, rfl, hb5, o3, n3, q3, k3⟩
        obtain ⟨a3, g3, hvf, _, _⟩ := o3.form
        subst hvf
        have HB5 := hide (HB4.out.trans (hb5.mono HB4.out.size))
        have O3 := hide o3; have N3 := hide n3
        rw [Q1.out, Q2.out] at q3
        have Q3 := hide q3
        clear hb5 HB4 O1' O2 N1 N2 Q1 Q2 o3 n3 q3
        go_wp2_with fail
        refine (rresult_any m3 _ l3 w5.heap.size w5 (.of_own O3.out) (Nat.le_refl _) N3.out (by omega)).mono ?_
        rintro e w6 ⟨rfl, hb6⟩
        rw [Q3.out]
        have HB6 := hide (HB5.out.trans (hb6.mono HB5.out.size))
        clear hb6 HB5
        go_wp2_with fail
        refine bodyPost_ret (results_tmp2 rfl _ _ _) rfl ?_
        exact ⟨rfl, HB6.out⟩
  · obtain ⟨e1, e2⟩ := op2_bad (f := (· * ·)) hE
    rw [e1, e2]
    have hne : (bothI s.data.toList t.data.toList != 0) = true := by simpa using hE
    obtain ⟨E, hEE⟩ : ∃ E, E = bothI s.data.toList t.data.toList := ⟨_, rfl⟩
    rw [← hEE] at H1 hne ⊢
    clear e1 e2 hE hEE hT
    go_enter Tryz.func16, Tryz.ntmps16
    go_wp2_with fail
    refine H1.out.mono ?_
    rintro e w1 ⟨rfl, hb1⟩
    have HB1 := hide hb1
    clear hb1 H1
    go_wp2_with fail
    refine bodyPost_ret (results_tmp2 rfl _ _ _) rfl ?_
    exact ⟨rfl, HB1.out⟩
end Go.Proofs.YthkioajalhglfaaGreatDoor
namespace Go.Proofs.YthkioajalhglfaaGreatDoor
open Go.RowKit Go.KP Go.KI Go.Shelf
attribute [local go_sem] Oper.semAt_some

theorem cmp_cases (x y : Int) : (x < y ∧ Lib.compareInt x y = -1) ∨ (y < x ∧ Lib.compareInt x y = 1) ∨ (x = y ∧ Lib.compareInt x y = 0) := by
  have h1 := cmp_bound x y
  have h2 := cmp_zero (x := x) (y := y)
  unfold Lib.compareInt at *
  rcases Int.lt_trichotomy x y with h | h | h
  · exact .inl ⟨h, by simp [h]⟩
  · exact .inr (.inr ⟨h, by simp [h]⟩)
  · exact .inr (.inl ⟨h, by simp [h, show ¬ x < y by omega]⟩)
set_option maxRecDepth 100000 in
set_option maxHeartbeats 4000000 in
theorem rCompare_any (s t : ByteArray) (w : World) (hs : s.size ≤ 1000000) (ht : t.size ≤ 1000000) :
    Calls Tryz.prog 31 #[.string s, .string t] w (Ret w (.tuple #[.int .i64 (cmpV s.data.toList t.data.toList), .int .i64 (bothI s.data.toList t.data.toList)])) := by
  have H1 := hide (rboth_any s t hs ht w)
  by_cases hE : bothI s.data.toList t.data.toList = 0
  · have e1 : cmpV s.data.toList t.data.toList = Lib.compareInt (valI s.data.toList) (valI t.data.toList) := if_pos hE
    obtain ⟨c1, c2, _, _⟩ := op2_good (f := (· + ·)) hE
    rw [e1, hE]
    rw [hE] at H1
    clear e1 hE hs ht
    obtain ⟨V, hV⟩ : ∃ V, V = Lib.compareInt (valI s.data.toList) (valI t.data.toList) := ⟨_, rfl⟩
    rw [← hV]
    have hcmp := cmp_cases (valI s.data.toList) (valI t.data.toList)
    rw [← hV] at hcmp
    by_cases hsm : s.size ≤ 17 ∧ t.size ≤ 17
    · have H2 := hide (fun w => rtwo_yes s t c1 c2 hsm.1 hsm.2 w)
      obtain ⟨x, hx⟩ : ∃ x, x = valI s.data.toList := ⟨_, rfl⟩
      obtain ⟨y, hy⟩ : ∃ y, y = valI t.data.toList := ⟨_, rfl⟩
      rw [← hx, ← hy] at H2 hcmp
      clear c1 c2 hsm hx hy hV
      rcases hcmp with ⟨h, rfl⟩ | ⟨h, rfl⟩ | ⟨h, rfl⟩
      case' inl => have t1 : x < y := h
      case' inr.inl =>
        have t1 : (x < y) = False := eq_false (by omega)
        have t2 : y < x := h
      case' inr.inr =>
        have t1 : (x < y) = False := eq_false (by omega)
        have t2 : (y < x) = False := eq_false (by omega)
      all_goals
        clear h
        go_enter Tryz.func31, Tryz.ntmps31
        go_wp2_with fail
        refine H1.out.mono ?_
        rintro e w1 ⟨rfl, hb1⟩
        have HB1 := hide hb1
        clear hb1 H1
        go_wp2_with fail
        refine (H2.out _).mono ?_
        rintro e w2 ⟨rfl, hb2⟩
        have HB2 := hide (HB1.out.trans (hb2.mono HB1.out.size))
        clear hb2 H2 HB1
        go_wp2_with fail
        refine bodyPost_ret (results_tmp2 rfl _ _ _) rfl ?_
        exact ⟨rfl, HB2.out⟩
    · have H2 := hide (fun w => rtwo_no s t c1 hsm w)
      have R1 := hide (fun w => rread_good s c1 w)
      have R2 := hide (fun w => rread_good t c2 w)
      clear c1 c2 hsm hV
      have HCMP := hide hcmp
      clear hcmp
      go_enter Tryz.func31, Tryz.ntmps31
      go_wp2_with fail
      refine H1.out.mono ?_
      rintro e w1 ⟨rfl, hb1⟩
      have HB1 := hide hb1
      clear hb1 H1
      go_wp2_with fail
      refine (H2.out _).mono ?_
      rintro e w2 ⟨x0, y0, rfl, hb2⟩
      have HB2 := hide (HB1.out.trans (hb2.mono HB1.out.size))
      clear hb2 H2 HB1
      go_wp2_with fail
      refine (R1.out _).mono ?_
      rintro e w3 ⟨m1, v1, l1, rfl, hb3, o1, n1, q1, k1⟩
      obtain ⟨a1, g1, hvf, _, _⟩ := o1.form
      subst hvf
      have HB3 := hide (HB2.out.trans (hb3.mono HB2.out.size))
      have O1 := hide o1; have N1 := hide n1; have Q1 := hide q1
      clear hb3 HB2 R1 o1 n1 q1
      go_wp2_with fail
      refine (R2.out _).mono ?_
      rintro e w4 ⟨m2, v2, l2, rfl, hb4, o2, n2, q2, k2⟩
      obtain ⟨a2, g2, hvf, _, _⟩ := o2.form
      subst hvf
      have HB4 := hide (HB3.out.trans (hb4.mono HB3.out.size))
      have O1' := hide (O1.out.keep hb4)
      have O2 := hide o2; have N2 := hide n2; have Q2 := hide q2
      clear hb4 HB3 R2 o2 n2 q2 O1
      go_wp2_with fail
      refine (rnegative_any m2 a2 g2 l2 w4).mono ?_
      rintro e w41 ⟨m21, rfl, hb41, q21⟩
      have HB41 := hide (HB4.out.trans (hb41.mono HB4.out.size))
      have O11 := hide (O1'.out.keep hb41)
      have O21 := hide (O2.out.keep hb41)
      have Q21 := hide q21
      clear hb41 q21 O1' O2 HB4
      go_wp2_with fail
      refine (radd_any m1 m21 a1 a2 g1 g2 l1 l2 w41 (.of_own O11.out) (.of_own O21.out) N1.out N2.out (by omega) (by omega)).mono ?_
      rintro e w5 ⟨m3, v3, l3, rfl, hb5, o3, n3, q3, k3⟩
      obtain ⟨a3, g3, hvf, _, _⟩ := o3.form
      subst hvf
      have HB5 := hide (HB41.out.trans (hb5.mono HB41.out.size))
      have hq3 : valS m3 (lv 1000000 l3) = valI s.data.toList - valI t.data.toList := by
        rw [q3, Q1.out, Q21.out, Q2.out]
        omega
      have hcmp := HCMP.out
      have hpos : l3 ≠ [] → 1 ≤ lv 1000000 l3 := fun h => by
        rcases Nat.eq_zero_or_pos (lv 1000000 l3) with h1 | h1
        · exact absurd ((n3.zero (by omega)).1 h1) h
        · exact h1
      have hres : (l3 = [] ∧ V = 0) ∨ (l3 ≠ [] ∧ m3 = true ∧ V = -1) ∨ (l3 ≠ [] ∧ m3 = false ∧ V = 1) := by
        by_cases h : l3 = []
        · refine .inl ⟨h, ?_⟩
          have h0 : valS m3 (lv 1000000 l3) = 0 := by rw [h]; cases m3 <;> rfl
          omega
        · have h1 := hpos h
          cases m3
          · exact .inr (.inr ⟨h, rfl, by simp [valS] at hq3; omega⟩)
          · exact .inr (.inl ⟨h, rfl, by simp [valS] at hq3; omega⟩)
      have F0 := hide (heap1 w5 (bigO m3 (.slice a3 l3.length g3)))
      clear hb5 q3 hq3 hpos HCMP hcmp HB41 O11 O21 N1 N2 Q1 Q2 Q21 o3 n3
      rcases hres with ⟨h, rfl⟩ | ⟨h, rfl, rfl⟩ | ⟨h, rfl, rfl⟩
      case' inl => have hl0 : ((l3.length : Int) == 0) = true := by rw [h]; rfl
      case' inr.inl =>
        have hl0 : ((l3.length : Int) == 0) = false := by
          have : l3.length ≠ 0 := fun h2 => h (List.eq_nil_of_length_eq_zero h2)
          simp only [beq_eq_false_iff_ne, ne_eq]
          omega
      case' inr.inr =>
        have hl0 : ((l3.length : Int) == 0) = false := by
          have : l3.length ≠ 0 := fun h2 => h (List.eq_nil_of_length_eq_zero h2)
          simp only [beq_eq_false_iff_ne, ne_eq]
          omega
      all_goals
        clear h
        obtain ⟨b0, bs0, bb0⟩ := F0.out
        have z0 := cell_blk b0 0
        have z1 := cell_blk b0 1
        have f0 := froz_blk b0 0
        have f1 := froz_blk b0 1
        have HB6 := hide (HB5.out.trans (bb0.mono HB5.out.size))
        clear b0 bs0 bb0
        go_wp2_with fail
        refine bodyPost_ret (results_tmp2 rfl _ _ _) rfl ?_
        exact ⟨rfl, HB6.out⟩
  · have e1 : cmpV s.data.toList t.data.toList = 0 := if_neg hE
    rw [e1]
    have hne : (bothI s.data.toList t.data.toList != 0) = true := by simpa using hE
    obtain ⟨E, hEE⟩ : ∃ E, E = bothI s.data.toList t.data.toList := ⟨_, rfl⟩
    rw [← hEE] at H1 hne ⊢
    clear e1 hE hEE
    go_enter Tryz.func31, Tryz.ntmps31
    go_wp2_with fail
    refine H1.out.mono ?_
    rintro e w1 ⟨rfl, hb1⟩
    have HB1 := hide hb1
    clear hb1 H1
    go_wp2_with fail
    refine bodyPost_ret (results_tmp2 rfl _ _ _) rfl ?_
    exact ⟨rfl, HB1.out⟩
end Go.Proofs.YthkioajalhglfaaGreatDoor
namespace Go.Proofs.YthkioajalhglfaaGreatDoor
open Go.RowKit Go.KP Go.KI Go.Shelf
attribute [local go_sem] Oper.semAt_some

/-- A text that the statements do not examine. -/
def greatS (s : ByteArray) : Prop := (80 < s.size ∧ s.size < 299) ∨ 304 < s.size
instance (s : ByteArray) : Decidable (greatS s) := by unfold greatS; infer_instance
set_option maxRecDepth 100000 in
set_option maxHeartbeats 4000000 in
theorem rgreat_any (b : Nat) (l : List ByteArray) (w : World) (hl : l.length ≤ 1000) (hc : ∀ (i : Nat) s, l[i]? = some s → w.cell? ⟨b, i, none⟩ = some (.string s)) :
    Calls Tryz.prog 35 #[.slice (some ⟨b, 0, none⟩) l.length l.length] w (Ret w (.bool (decide (∃ s ∈ l, greatS s)))) := by
  obtain ⟨n, hn⟩ : ∃ n, n = l.length := ⟨_, rfl⟩
  rw [← hn] at hl ⊢
  have HC := hide hc; have HN := hide hn
  clear hc hn
  go_enter Tryz.func35, Tryz.ntmps35
  go_wp2_with fail
  go_loopw [3] (fun i wr => ∃ k : Nat, k ≤ n ∧ i = .int .i64 k ∧ Hid (∀ s ∈ l.take k, ¬ greatS s) ∧ wr = w) (fun i _ => n - (intOf i).toNat)
  case atStart => exact ⟨0, Nat.zero_le _, rfl, fun s hs => by simp at hs, rfl⟩
  case round =>
    obtain ⟨k, hk, rfl, hin, rfl⟩ := hrel
    by_cases hlt : k < n
    · have hki : (k : Int) < (n : Int) := by omega
      have hk0 : (0 : Int) ≤ (k : Int) := by omega
      obtain ⟨s, hs⟩ : ∃ s, l[k]? = some s := ⟨_, List.getElem?_eq_getElem (by rw [← HN.out]; exact hlt)⟩
      have hmem : s ∈ l := List.mem_of_getElem? hs
      have hcell := HC.out k s hs
      have HIN := hide hin.out
      have HS := hide hs
      clear hs hin
      by_cases h1 : 80 < s.size
      · have t1 : (80 : Int) < (s.size : Int) := by omega
        by_cases h2 : s.size < 299
        · have t2 : (s.size : Int) < 299 := by omega
          have HE := hide (show decide (∃ s ∈ l, greatS s) = true from decide_eq_true ⟨s, hmem, .inl ⟨h1, h2⟩⟩)
          clear h1 h2 hmem hlt
          go_wp2_with fail
          go_ret
          rw [HE.out]
          exact ⟨rfl, Below.refl _ _⟩
        · have t2 : ((s.size : Int) < 299) = False := eq_false (by omega)
          by_cases h3 : 304 < s.size
          · have t3 : (304 : Int) < (s.size : Int) := by omega
            have HE := hide (show decide (∃ s ∈ l, greatS s) = true from decide_eq_true ⟨s, hmem, .inr h3⟩)
            clear h1 h2 h3 hmem hlt
            go_wp2_with fail
            go_ret
            rw [HE.out]
            exact ⟨rfl, Below.refl _ _⟩
          · have t3 : ((304 : Int) < (s.size : Int)) = False := eq_false (by omega)
            have HG := hide (show ¬ greatS s from fun h => by rcases h with h | h <;> omega)
            clear h1 h2 h3 hmem hlt
            go_wp2_with fail
            go_roundw
            case rel =>
              refine ⟨k + 1, by omega, by simp, ?_, trivial⟩
              intro c hc
              rw [List.take_add_one, HS.out] at hc
              rcases List.mem_append.1 hc with h | h
              · exact HIN.out c h
              · simp at h
                rw [h]
                exact HG.out
            case measure => simp [intOf]; omega
      · have t1 : ((80 : Int) < (s.size : Int)) = False := eq_false (by omega)
        have t3 : ((304 : Int) < (s.size : Int)) = False := eq_false (by omega)
        have HG := hide (show ¬ greatS s from fun h => by rcases h with h | h <;> omega)
        clear h1 hmem hlt
        go_wp2_with fail
        go_roundw
        case rel =>
          refine ⟨k + 1, by omega, by simp, ?_, trivial⟩
          intro c hc
          rw [List.take_add_one, HS.out] at hc
          rcases List.mem_append.1 hc with h | h
          · exact HIN.out c h
          · simp at h
            rw [h]
            exact HG.out
        case measure => simp [intOf]; omega
    · obtain rfl : k = n := by omega
      have hki : ((k : Int) < (k : Int)) = False := eq_false (by omega)
      have HE := hide (show decide (∃ s ∈ l, greatS s) = false from decide_eq_false (fun ⟨s, hs, hg⟩ => hin.out s (by rw [List.take_of_length_le (by rw [← HN.out]; exact Nat.le_refl _)]; exact hs) hg))
      clear hlt hin
      go_wp2_with fail
      go_ret
      rw [HE.out]
      exact ⟨rfl, Below.refl _ _⟩
set_option maxRecDepth 100000 in
theorem great_any (b : Nat) (l : List ByteArray) (w : World) (hl : l.length ≤ 1000) (hc : ∀ (i : Nat) s, l[i]? = some s → w.cell? ⟨b, i, none⟩ = some (.string s)) :
    Calls Tryz.prog 13 #[.slice (some ⟨b, 0, none⟩) l.length l.length] w (Ret w (.bool (decide (∃ s ∈ l, greatS s)))) := by
  have H := hide (rgreat_any b l w hl hc)
  obtain ⟨F, hF⟩ : ∃ F, F = decide (∃ s ∈ l, greatS s) := ⟨_, rfl⟩
  rw [← hF] at H ⊢
  clear hc hF
  go_enter Tryz.func13, Tryz.ntmps13
  go_wp2_with fail
  refine H.out.mono ?_
  rintro e w1 ⟨rfl, hb1⟩
  have HB1 := hide hb1
  clear hb1 H
  go_wp2_with fail
  go_ret
  exact ⟨rfl, HB1.out⟩
end Go.Proofs.YthkioajalhglfaaGreatDoor
namespace Go.Proofs.YthkioajalhglfaaGreatDoor
open Go.RowKit Go.KP Go.KI Go.Shelf
attribute [local go_sem] Oper.semAt_some

theorem heap_two (w : World) (a b : ByteArray) (t : TypeId) (i : Nat) (s : ByteArray) (h : [a, b][i]? = some s) : (w.alloc (.cells #[.string a, .string b] t)).cell? ⟨w.heap.size, i, none⟩ = some (.string s) := by
  obtain ⟨g0, _, _⟩ := heap1 w (.cells #[.string a, .string b] t)
  rw [cell_blk g0 i]
  match i with
  | 0 => simpa using h
  | 1 => simpa using h
  | n + 2 => simp at h
theorem great_len {a : ByteArray} (h : ¬ greatS a) : a.size ≤ 304 := by
  unfold greatS at h
  omega
set_option maxRecDepth 100000 in
set_option maxHeartbeats 4000000 in
theorem sums_any (a b : ByteArray) (B : Nat) (w : World) (hB : B ≤ w.heap.size) (hT : P10 B w) :
    Calls Tryz.prog 8 #[.string a, .string b] w (Ret w (.bool true)) := by
  have HT := hide hT
  have HAW := hide (fun w2 (hb : Below w.heap.size w w2) => awake_any B w2 (Nat.le_trans hB hb.size) (hT.on hb hB))
  clear hT
  have HF := hide (fun t => great_any w.heap.size [a, b] (w.alloc (.cells #[.string a, .string b] t)) (by simp) (heap_two w a b t))
  obtain ⟨F, hF⟩ : ∃ F, F = decide (∃ s ∈ [a, b], greatS s) := ⟨_, rfl⟩
  rw [← hF] at HF
  have G0 := hide (fun o => (heap1 w o).2.2)
  cases F
  · have hf := of_decide_eq_false hF.symm
    have la := great_len (a := a) (fun h => hf ⟨a, by simp, h⟩)
    have lb := great_len (a := b) (fun h => hf ⟨b, by simp, h⟩)
    clear hF hf
    have A1 := hide (fun B w => Add_any a b B w (by omega) (by omega))
    have A2 := hide (fun B w => rAdd_any a b B w (by omega) (by omega))
    have S1 := hide (fun B w => Sub_any a b B w (by omega) (by omega))
    have S2 := hide (fun B w => rSub_any a b B w (by omega) (by omega))
    have C1 := hide (fun w => Compare_any a b w (by omega) (by omega))
    have C2 := hide (fun w => rCompare_any a b w (by omega) (by omega))
    have K1 := hide (fun w => check_any a (by omega) w)
    have K2 := hide (fun w => rcheck_any a (by omega) w)
    obtain ⟨p, hp⟩ : ∃ p, p = strB (op2S (· + ·) a.data.toList b.data.toList) := ⟨_, rfl⟩
    obtain ⟨e1, he1⟩ : ∃ p, p = op2E (· + ·) a.data.toList b.data.toList := ⟨_, rfl⟩
    obtain ⟨r, hr⟩ : ∃ p, p = strB (op2S (· - ·) a.data.toList b.data.toList) := ⟨_, rfl⟩
    obtain ⟨g1, hg1⟩ : ∃ p, p = op2E (· - ·) a.data.toList b.data.toList := ⟨_, rfl⟩
    obtain ⟨m, hm⟩ : ∃ m, m = cmpV a.data.toList b.data.toList := ⟨_, rfl⟩
    obtain ⟨i1, hi1⟩ : ∃ m, m = bothI a.data.toList b.data.toList := ⟨_, rfl⟩
    obtain ⟨k1, hk1⟩ : ∃ m, m = chkI a.data.toList := ⟨_, rfl⟩
    unfold pairV at A1 A2 S1 S2
    rw [← hp, ← he1] at A1 A2
    rw [← hr, ← hg1] at S1 S2
    rw [← hm, ← hi1] at C1 C2
    rw [← hk1] at K1 K2
    clear la lb hp he1 hr hg1 hm hi1 hk1
    go_enter Tryz.func8, Tryz.ntmps8
    go_wp2_with fail
    refine (HF.out _).mono ?_
    rintro e w1 ⟨rfl, hb1⟩
    have HB := hide ((G0.out _).trans (hb1.mono (G0.out _).size))
    clear hb1 HF G0
    go_wp2_with fail
    refine (A1.out B _ (Nat.le_trans hB HB.out.size) (HT.out.on HB.out hB)).mono ?_
    rintro e w2 ⟨rfl, hb2⟩
    have HB2 := hide (HB.out.trans (hb2.mono HB.out.size))
    clear hb2 HB
    have HB := HB2
    clear HB2
    go_wp2_with fail
    refine (A2.out B _ (Nat.le_trans hB HB.out.size) (HT.out.on HB.out hB)).mono ?_
    rintro e w2 ⟨rfl, hb2⟩
    have HB2 := hide (HB.out.trans (hb2.mono HB.out.size))
    clear hb2 HB
    have HB := HB2
    clear HB2
    go_wp2_with fail
    refine (S1.out B _ (Nat.le_trans hB HB.out.size) (HT.out.on HB.out hB)).mono ?_
    rintro e w2 ⟨rfl, hb2⟩
    have HB2 := hide (HB.out.trans (hb2.mono HB.out.size))
    clear hb2 HB
    have HB := HB2
    clear HB2
    go_wp2_with fail
    refine (S2.out B _ (Nat.le_trans hB HB.out.size) (HT.out.on HB.out hB)).mono ?_
    rintro e w2 ⟨rfl, hb2⟩
    have HB2 := hide (HB.out.trans (hb2.mono HB.out.size))
    clear hb2 HB
    have HB := HB2
    clear HB2
    go_wp2_with fail
    refine (C1.out _).mono ?_
    rintro e w2 ⟨rfl, hb2⟩
    have HB2 := hide (HB.out.trans (hb2.mono HB.out.size))
    clear hb2 HB
    have HB := HB2
    clear HB2
    go_wp2_with fail
    refine (C2.out _).mono ?_
    rintro e w2 ⟨rfl, hb2⟩
    have HB2 := hide (HB.out.trans (hb2.mono HB.out.size))
    clear hb2 HB
    have HB := HB2
    clear HB2
    go_wp2_with fail
    refine (K1.out _).mono ?_
    rintro e w2 ⟨rfl, hb2⟩
    have HB2 := hide (HB.out.trans (hb2.mono HB.out.size))
    clear hb2 HB
    have HB := HB2
    clear HB2
    go_wp2_with fail
    refine (K2.out _).mono ?_
    rintro e w2 ⟨rfl, hb2⟩
    have HB2 := hide (HB.out.trans (hb2.mono HB.out.size))
    clear hb2 HB
    have HB := HB2
    clear HB2
    go_wp2_with fail
    refine (HAW.out _ HB.out).mono ?_
    rintro e w2 ⟨rfl, hb2⟩
    have HB2 := hide (HB.out.trans (hb2.mono HB.out.size))
    clear hb2 HB
    have HB := HB2
    clear HB2
    go_wp2_with fail
    go_ret
    exact ⟨rfl, HB.out⟩
  · clear hF
    go_enter Tryz.func8, Tryz.ntmps8
    go_wp2_with fail
    refine (HF.out _).mono ?_
    rintro e w1 ⟨rfl, hb1⟩
    have HB1 := hide ((G0.out _).trans (hb1.mono (G0.out _).size))
    clear hb1 HF G0
    go_wp2_with fail
    refine (HAW.out _ HB1.out).mono ?_
    rintro e w2 ⟨rfl, hb2⟩
    have HB2 := hide (HB1.out.trans (hb2.mono HB1.out.size))
    clear hb2 HAW HB1
    go_wp2_with fail
    go_ret
    exact ⟨rfl, HB2.out⟩
end Go.Proofs.YthkioajalhglfaaGreatDoor
