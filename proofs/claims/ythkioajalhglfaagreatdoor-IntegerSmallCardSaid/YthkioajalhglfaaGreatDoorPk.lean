/-
  Integers: Add walked.
-/
import Derived.Test.YthkioajalhglfaaGreatDoorPj
namespace Go.Proofs.YthkioajalhglfaaGreatDoor
open Go.RowKit Go.KP Go.KI Go.Shelf
attribute [local go_sem] Oper.semAt_some

theorem op2_bad {f : Int → Int → Int} {a b : List UInt8} (h : bothI a b ≠ 0) : op2S f a b = [] ∧ op2E f a b = bothI a b := by
  unfold bothI at h ⊢
  unfold op2S op2E
  by_cases h1 : chkI a = 0
  · rw [if_pos h1] at h ⊢
    rw [if_neg (by simp [h1]), if_pos h, if_neg (by simp [h1]), if_pos h]
    exact ⟨rfl, rfl⟩
  · rw [if_neg h1] at h ⊢
    rw [if_pos h1, if_pos h1]
    exact ⟨rfl, rfl⟩
theorem op2_good {f : Int → Int → Int} {a b : List UInt8} (h : bothI a b = 0) : chkI a = 0 ∧ chkI b = 0 ∧ op2S f a b = resS (f (valI a) (valI b)) ∧ op2E f a b = resE (f (valI a) (valI b)) := by
  unfold bothI at h
  by_cases h1 : chkI a = 0
  · rw [if_pos h1] at h
    unfold op2S op2E
    rw [if_neg (by simp [h1]), if_neg (by simp [h]), if_neg (by simp [h1]), if_neg (by simp [h])]
    exact ⟨h1, h, rfl, rfl⟩
  · rw [if_neg h1] at h
    exact absurd h h1
theorem chk_digs {l : List UInt8} (h : chkI l = 0) : (∀ c ∈ digs l, isDg c = true) ∧ l.length ≤ 301 := by
  obtain ⟨h1, h2⟩ := chk_ok h
  have hf := fits_len.1 h2
  have he : digs l = Lib.decDigits (valI l).natAbs := by
    have := digs_itoa (valI l)
    rw [← h1] at this
    exact this
  refine ⟨by rw [he]; exact decDigits_dg _, ?_⟩
  rcases itoa_cases (valI l) with ⟨_, e⟩ | ⟨_, e⟩
  · rw [h1, e, List.length_cons]
    omega
  · rw [h1, e]
    omega
theorem read_good (s : ByteArray) (h : chkI s.data.toList = 0) (w : World) :
    Calls Tryz.prog 38 #[.string s] w fun e w2 => ∃ (m : Bool) (v : Value) (l : List Nat), e = .returned (numV m v) ∧ Below w.heap.size w w2 ∧ OwnL 0 w2 v l ∧ Norm 1000000000 l ∧ valS m (lv 1000000000 l) = valI s.data.toList ∧ l.length ≤ 40 := by
  obtain ⟨h1, h2⟩ := chk_digs h
  rw [bytes_len] at h2
  refine (read_any s (by omega) h1 w).mono ?_
  rintro e w2 ⟨_, rfl, hb, m, v, l, rfl, ho, hn, hv, _⟩
  exact ⟨m, v, l, rfl, hb, ho, hn, hv, fits_limbs hn (by rw [hv]; exact (chk_ok h).2)⟩
theorem LimbAt.of_own {base : Nat} {w : World} {v : Value} {l : List Nat} (h : OwnL base w v l) : LimbAt w.heap.size w v l := SlAt.of_owns h
theorem result_own (m : Bool) (v : Value) (l : List Nat) (base B : Nat) (w : World) (h : OwnL base w v l) (hn : Norm 1000000000 l) (hl : l.length ≤ 100000) (hT : P10 B w) (hB : B ≤ w.heap.size) :
    Calls Tryz.prog 39 #[numV m v] w (Ret w (pairV (resS (valS m (lv 1000000000 l))) (resE (valS m (lv 1000000000 l))))) :=
  result_any m v l w.heap.size w (.of_own h) (Nat.le_refl _) hn hl (hT.mono hB)
theorem pow18 : (10 : Nat) ^ 18 = 1000000000000000000 := by decide
theorem resS_small {z : Int} (h : z.natAbs < 10 ^ 40) : resS z = Lib.itoa z ∧ resE z = 0 := by
  have : fits z := fits_small (n := 40) (by rw [most_eq]; omega) h
  exact ⟨if_pos this, if_pos this⟩
set_option maxRecDepth 100000 in
set_option maxHeartbeats 2000000 in
theorem Add_any (s t : ByteArray) (B : Nat) (w : World) (hs : s.size ≤ 1000000) (ht : t.size ≤ 1000000) (hB : B ≤ w.heap.size) (hT : P10 B w) :
    Calls Tryz.prog 26 #[.string s, .string t] w (Ret w (pairV (op2S (· + ·) s.data.toList t.data.toList) (op2E (· + ·) s.data.toList t.data.toList))) := by
  have H1 := hide (both_any s t hs ht w)
  have HT := hide hT
  by_cases hE : bothI s.data.toList t.data.toList = 0
  · obtain ⟨c1, c2, e1, e2⟩ := op2_good (f := (· + ·)) hE
    rw [e1, e2]
    have C1 := hide c1; have C2 := hide c2
    rw [hE] at H1
    clear e1 e2 hE hT hs ht
    by_cases hsm : s.size ≤ 18 ∧ t.size ≤ 18
    · have H2 := hide (fun w => small_yes s t c1 c2 hsm.1 hsm.2 w)
      have v1 := short_val (n := 18) c1 (by rw [bytes_len]; exact hsm.1) (by omega)
      have v2 := short_val (n := 18) c2 (by rw [bytes_len]; exact hsm.2) (by omega)
      rw [pow18] at v1 v2
      obtain ⟨x, hx⟩ : ∃ x, x = valI s.data.toList := ⟨_, rfl⟩
      obtain ⟨y, hy⟩ : ∃ y, y = valI t.data.toList := ⟨_, rfl⟩
      rw [← hx, ← hy] at H2 ⊢
      rw [← hx] at v1
      rw [← hy] at v2
      obtain ⟨z, hz⟩ : ∃ z, z = x + y := ⟨_, rfl⟩
      have hw : IntKind.i64.wrap (x + y) = z := by rw [hz]; exact IntWalk.i64_in _ (by omega)
      obtain ⟨e3, e4⟩ := resS_small (z := z) (Nat.lt_of_lt_of_le (m := 10 ^ 19) (by omega) (Nat.pow_le_pow_right (by omega) (by omega)))
      have hz1 : -9223372036854775808 ≤ z := by omega
      have hz2 : z ≤ 9223372036854775807 := by omega
      show Calls _ _ _ _ (Ret w (pairV (resS (x + y)) (resE (x + y))))
      rw [← hz, e3, e4]
      clear c1 c2 hsm hx hy hz e3 e4
      go_enter Tryz.func26, Tryz.ntmps26
      go_wp2_with fail
      refine H1.out.mono ?_
      rintro e w1 ⟨rfl, hb1⟩
      have HB1 := hide hb1
      clear hb1 H1
      go_wp2_with fail
      refine (H2.out _).mono ?_
      rintro e w2 ⟨rfl, hb2⟩
      have HB2 := hide (HB1.out.trans (hb2.mono HB1.out.size))
      clear hb2 H2 HB1
      go_wp2_with fail
      refine (itoa_any z hz1 hz2 B w2 (HT.out.on HB2.out hB)).mono ?_
      rintro e w3 ⟨rfl, hb3⟩
      have HB3 := hide (HB2.out.trans (hb3.mono HB2.out.size))
      clear hb3 HB2
      go_wp2_with fail
      refine bodyPost_ret (results_tmp2 rfl _ _ _) rfl ?_
      exact ⟨rfl, HB3.out⟩
    · have H2 := hide (fun w => small_no s t hsm w)
      have R1 := hide (fun w => read_good s c1 w)
      have R2 := hide (fun w => read_good t c2 w)
      clear c1 c2 hsm
      go_enter Tryz.func26, Tryz.ntmps26
      go_wp2_with fail
      refine H1.out.mono ?_
      rintro e w1 ⟨rfl, hb1⟩
      have HB1 := hide hb1
      clear hb1 H1
      go_wp2_with fail
      refine (H2.out _).mono ?_
      rintro e w2 ⟨rfl, hb2⟩
      have HB2 := hide (HB1.out.trans (hb2.mono HB1.out.size))
      clear hb2 H2 HB1
      go_wp2_with fail
      refine (R1.out _).mono ?_
      rintro e w3 ⟨m1, a1, l1, rfl, hb3, o1, n1, q1, k1⟩
      have HB3 := hide (HB2.out.trans (hb3.mono HB2.out.size))
      have O1 := hide o1; have N1 := hide n1; have Q1 := hide q1
      clear hb3 HB2 R1 o1 n1 q1
      go_wp2_with fail
      refine (R2.out _).mono ?_
      rintro e w4 ⟨m2, a2, l2, rfl, hb4, o2, n2, q2, k2⟩
      have HB4 := hide (HB3.out.trans (hb4.mono HB3.out.size))
      have O1' := hide (O1.out.keep hb4)
      have O2 := hide o2; have N2 := hide n2; have Q2 := hide q2
      clear hb4 HB3 R2 o2 n2 q2 O1
      go_wp2_with fail
      refine (add_any m1 m2 a1 a2 l1 l2 w4.heap.size w4 (.of_own O1'.out) (.of_own O2.out) (Nat.le_refl _) N1.out N2.out (by omega) (by omega)).mono ?_
      rintro e w5 ⟨_, rfl, hb5, m3, a3, l3, rfl, o3, n3, q3, k3⟩
      have HB5 := hide (HB4.out.trans (hb5.mono HB4.out.size))
      have O3 := hide o3; have N3 := hide n3
      rw [Q1.out, Q2.out] at q3
      have Q3 := hide q3
      clear hb5 HB4 O1' O2 N1 N2 Q1 Q2 o3 n3 q3
      go_wp2_with fail
      refine (result_own m3 a3 l3 0 B w5 O3.out N3.out (by omega) (HT.out.on HB5.out hB) (Nat.le_trans hB HB5.out.size)).mono ?_
      rintro e w6 ⟨rfl, hb6⟩
      rw [Q3.out]
      have HB6 := hide (HB5.out.trans (hb6.mono HB5.out.size))
      clear hb6 HB5
      go_wp2_with fail
      refine bodyPost_ret (results_tmp2 rfl _ _ _) rfl ?_
      exact ⟨rfl, HB6.out⟩
  · obtain ⟨e1, e2⟩ := op2_bad (f := (· + ·)) hE
    rw [e1, e2]
    have hne : (bothI s.data.toList t.data.toList != 0) = true := by simpa using hE
    obtain ⟨E, hEE⟩ : ∃ E, E = bothI s.data.toList t.data.toList := ⟨_, rfl⟩
    rw [← hEE] at H1 hne ⊢
    clear e1 e2 hE hEE hT
    go_enter Tryz.func26, Tryz.ntmps26
    go_wp2_with fail
    refine H1.out.mono ?_
    rintro e w1 ⟨rfl, hb1⟩
    have HB1 := hide hb1
    clear hb1 H1
    go_wp2_with fail
    refine bodyPost_ret (results_tmp2 rfl _ _ _) rfl ?_
    exact ⟨rfl, HB1.out⟩
end Go.Proofs.YthkioajalhglfaaGreatDoor
