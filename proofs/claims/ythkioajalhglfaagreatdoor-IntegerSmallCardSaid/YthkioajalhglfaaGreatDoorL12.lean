/-
  Integers: the law Small.
-/
import Derived.Test.YthkioajalhglfaaGreatDoorL10
namespace Go.Proofs.YthkioajalhglfaaGreatDoor
open Go.RowKit Go.KP Go.KI Go.Shelf
attribute [local go_sem] Oper.semAt_some

theorem Itoa_to {r : ByteArray} {z : Int} (h : r.data.toList = Lib.itoa z) (h0 : -9223372036854775808 ≤ z) (h1 : z ≤ 9223372036854775807) (B : Nat) (w : World) (_ : B ≤ w.heap.size) (hT : P10 B w) :
    Calls Tryz.prog 34 #[.int .i64 z] w (Ret w (.string r)) := by
  have e := itoa_any z h0 h1 B w hT
  rw [strB_eq h] at e
  exact e
theorem cmp_bools (x y : Int) : ∃ C : Int, Lib.compareInt x y = C ∧ decide (C < 0) = decide (x < y) ∧ (C == 0) = (x == y) := by
  unfold Lib.compareInt
  by_cases h : x < y
  · refine ⟨-1, if_pos h, by simp [h], ?_⟩
    have : (x == y) = false := by simp; omega
    rw [this]
    rfl
  · by_cases h2 : x > y
    · refine ⟨1, by rw [if_neg h, if_pos h2], by simp [h], ?_⟩
      have : (x == y) = false := by simp; omega
      rw [this]
      rfl
    · refine ⟨0, by rw [if_neg h, if_neg h2], by simp [h], ?_⟩
      have : (x == y) = true := by simp; omega
      rw [this]
      rfl
set_option maxRecDepth 100000 in
set_option maxHeartbeats 16000000 in
theorem small_any (x y : Int) (x0 : -2147483648 ≤ x) (x1 : x ≤ 2147483647) (y0 : -2147483648 ≤ y) (y1 : y ≤ 2147483647) (B : Nat) (w : World) (hB : B ≤ w.heap.size) (hT : P10 B w) :
    Calls Tryz.prog 12 #[.int .i32 x, .int .i32 y] w (Ret w (.bool true)) := by
  have HT := hide hT
  have HAW := hide (fun w2 (hb : Below w.heap.size w w2) => awake_any B w2 (Nat.le_trans hB hb.size) (hT.on hb hB))
  clear hT
  have mk : ∀ u : Int, ∃ s : ByteArray, s.data.toList = Lib.itoa u := fun u => ⟨strB _, strB_list _⟩
  have fz : ∀ u : Int, u.natAbs < 10000000000000000000 → fits u := fun u hu => fits_small (n := 19) (by rw [most_eq]; omega) (by simpa using hu)
  have hP : (x * y).natAbs ≤ 2147483648 * 2147483648 := by
    rw [Int.natAbs_mul]
    exact Nat.mul_le_mul (by omega) (by omega)
  obtain ⟨P, hPe⟩ : ∃ P, x * y = P := ⟨_, rfl⟩
  rw [hPe] at hP
  have P0 : -9223372036854775808 ≤ P := by omega
  have P1 : P ≤ 9223372036854775807 := by omega
  have fx := fz x (by omega)
  have fy := fz y (by omega)
  have fa := fz (x + y) (by omega)
  have fs := fz (x - y) (by omega)
  have fp : fits (x * y) := by rw [hPe]; exact fz P (by omega)
  obtain ⟨s, e1⟩ := mk x
  obtain ⟨t, e2⟩ := mk y
  obtain ⟨sa, e3⟩ := mk (x + y)
  obtain ⟨ss, e4⟩ := mk (x - y)
  obtain ⟨sp, e5⟩ := mk (x * y)
  obtain ⟨C, hC, b1, b2⟩ := cmp_bools x y
  have KI1 := hide (fun B w => Itoa_to e1 (by omega) (by omega) B w)
  have KI2 := hide (fun B w => Itoa_to e2 (by omega) (by omega) B w)
  have KA := hide (fun B w => Add_to e1 e2 e3 fx fy fa B w)
  have KS := hide (fun B w => Sub_to e1 e2 e4 fx fy fs B w)
  have KM := hide (fun B w => Mul_to e1 e2 e5 fx fy fp B w)
  have KC := hide (fun w => Compare_to e1 e2 fx fy hC w)
  have KX1 := hide (fun B w => Itoa_to e3 (by omega) (by omega) B w)
  have KX2 := hide (fun B w => Itoa_to e4 (by omega) (by omega) B w)
  rw [hPe] at e5
  have KX3 := hide (fun B w => Itoa_to e5 P0 P1 B w)
  have hmx : ∀ w : World, (Builtin.max_ #[24, 24, 24, 24] 24 #[.int .i64 0, .int .i64 0, .int .i64 0, .int .i64 0]).run Tryz.prog w = .ok (.int .i64 0) w := fun _ => by kernel_rfl
  have hw : IntKind.i64.wrap P = P := IntWalk.i64_in _ ⟨P0, P1⟩
  obtain ⟨E1, hE1⟩ : ∃ E, E = decide (x < y) := ⟨_, rfl⟩
  obtain ⟨E2, hE2⟩ : ∃ E, E = (x == y) := ⟨_, rfl⟩
  rw [← hE1] at b1
  rw [← hE2] at b2
  have b3 := hE1.symm
  have b4 := hE2.symm
  have ta : (sa.toList == sa.toList) = true := beq_self_eq_true _
  have ts : (ss.toList == ss.toList) = true := beq_self_eq_true _
  have tp : (sp.toList == sp.toList) = true := beq_self_eq_true _
  clear hE1 hE2 hP fa fs fp e3 e4 e5 hC
  by_cases hy0 : y = 0
  · have hyq : (y == 0) = true := by simpa using hy0
    clear hy0 fx fy e1 e2 mk fz
    go_enter Tryz.func12, Tryz.ntmps12
    go_wp2_with fail
    have HB1 := hide (Below.refl w.heap.size w)
    refine (KI1.out B _ (Nat.le_trans hB HB1.out.size) (HT.out.on HB1.out hB)).mono ?_
    rintro e w2 ⟨rfl, hb2⟩
    have HB2 := hide (HB1.out.trans (hb2.mono HB1.out.size))
    clear hb2 KI1 HB1
    go_wp2_with fail
    refine (KI2.out B _ (Nat.le_trans hB HB2.out.size) (HT.out.on HB2.out hB)).mono ?_
    rintro e w3 ⟨rfl, hb3⟩
    have HB3 := hide (HB2.out.trans (hb3.mono HB2.out.size))
    clear hb3 KI2 HB2
    go_wp2_with fail
    refine (KA.out B _ (Nat.le_trans hB HB3.out.size) (HT.out.on HB3.out hB)).mono ?_
    rintro e w4 ⟨rfl, hb4⟩
    have HB4 := hide (HB3.out.trans (hb4.mono HB3.out.size))
    clear hb4 KA HB3
    go_wp2_with fail
    refine (KS.out B _ (Nat.le_trans hB HB4.out.size) (HT.out.on HB4.out hB)).mono ?_
    rintro e w5 ⟨rfl, hb5⟩
    have HB5 := hide (HB4.out.trans (hb5.mono HB4.out.size))
    clear hb5 KS HB4
    go_wp2_with fail
    refine (KM.out B _ (Nat.le_trans hB HB5.out.size) (HT.out.on HB5.out hB)).mono ?_
    rintro e w6 ⟨rfl, hb6⟩
    have HB6 := hide (HB5.out.trans (hb6.mono HB5.out.size))
    clear hb6 KM HB5
    go_wp2_with fail
    refine (KC.out _).mono ?_
    rintro e w7 ⟨rfl, hb7⟩
    have HB7 := hide (HB6.out.trans (hb7.mono HB6.out.size))
    clear hb7 KC HB6
    go_wp2_with fail
    refine (KX1.out B _ (Nat.le_trans hB HB7.out.size) (HT.out.on HB7.out hB)).mono ?_
    rintro e w8 ⟨rfl, hb8⟩
    have HB8 := hide (HB7.out.trans (hb8.mono HB7.out.size))
    clear hb8 KX1 HB7
    go_wp2_with fail
    refine (KX2.out B _ (Nat.le_trans hB HB8.out.size) (HT.out.on HB8.out hB)).mono ?_
    rintro e w9 ⟨rfl, hb9⟩
    have HB9 := hide (HB8.out.trans (hb9.mono HB8.out.size))
    clear hb9 KX2 HB8
    go_wp2_with fail
    refine (KX3.out B _ (Nat.le_trans hB HB9.out.size) (HT.out.on HB9.out hB)).mono ?_
    rintro e w10 ⟨rfl, hb10⟩
    have HB10 := hide (HB9.out.trans (hb10.mono HB9.out.size))
    clear hb10 KX3 HB9
    go_wp2_with fail
    refine (HAW.out _ HB10.out).mono ?_
    rintro e w11 ⟨rfl, hb11⟩
    have HB11 := hide (HB10.out.trans (hb11.mono HB10.out.size))
    clear hb11 HAW HB10
    go_wp2_with fail
    go_ret
    exact ⟨rfl, HB11.out⟩
  · have hyq : (y == 0) = false := by simpa using hy0
    have FS := floor_same (x := x) hy0
    have FL := floor_less (x := x) hy0
    have r1 := natAbs_tmod_lt x hy0
    have q1 := natAbs_tdiv_le x y
    have bq1 := natAbs_tdiv_le x y
    obtain ⟨d1, e6⟩ := mk (x.fdiv y)
    obtain ⟨d2, e7⟩ := mk (x.fmod y)
    have KD := hide (fun B w => Divide_to e1 e2 e6 e7 fx fy hy0 B w)
    obtain ⟨q, hq⟩ : ∃ q, x.tdiv y = q := ⟨_, rfl⟩
    obtain ⟨r, hr⟩ : ∃ r, x.tmod y = r := ⟨_, rfl⟩
    rw [hq] at FS FL q1
    rw [hr] at FS FL r1
    have HQ := hide hq; have HR := hide hr
    have td1 : (d1.toList == d1.toList) = true := beq_self_eq_true _
    have td2 : (d2.toList == d2.toList) = true := beq_self_eq_true _
    clear hy0 fx fy e1 e2 mk fz hq hr
    rcases (show r = 0 ∨ (r ≠ 0 ∧ ((r < 0 ∧ y < 0) ∨ (¬ r < 0 ∧ ¬ y < 0))) ∨ (r ≠ 0 ∧ ((r < 0 ∧ ¬ y < 0) ∨ (¬ r < 0 ∧ y < 0))) by
      by_cases h0 : r = 0
      · exact .inl h0
      · by_cases ha : r < 0
        · by_cases hb : y < 0
          · exact .inr (.inl ⟨h0, .inl ⟨ha, hb⟩⟩)
          · exact .inr (.inr ⟨h0, .inl ⟨ha, hb⟩⟩)
        · by_cases hb : y < 0
          · exact .inr (.inr ⟨h0, .inr ⟨ha, hb⟩⟩)
          · exact .inr (.inl ⟨h0, .inr ⟨ha, hb⟩⟩)) with h | ⟨h, h2⟩ | ⟨h, h2⟩
    · have f := FS (.inl h)
      have KQ := hide (fun B w => Itoa_to (r := d1) (z := q) (by rw [e6, f.1]) (by omega) (by omega) B w)
      have KR := hide (fun B w => Itoa_to (r := d2) (z := r) (by rw [e7, f.2]) (by omega) (by omega) B w)
      have hrq : (r != 0) = false := by simp [h]
      clear h f FS FL e6 e7
      go_enter Tryz.func12, Tryz.ntmps12
      go_wp2_with fail
      have HB1 := hide (Below.refl w.heap.size w)
      refine (KI1.out B _ (Nat.le_trans hB HB1.out.size) (HT.out.on HB1.out hB)).mono ?_
      rintro e w2 ⟨rfl, hb2⟩
      have HB2 := hide (HB1.out.trans (hb2.mono HB1.out.size))
      clear hb2 KI1 HB1
      go_wp2_with fail
      refine (KI2.out B _ (Nat.le_trans hB HB2.out.size) (HT.out.on HB2.out hB)).mono ?_
      rintro e w3 ⟨rfl, hb3⟩
      have HB3 := hide (HB2.out.trans (hb3.mono HB2.out.size))
      clear hb3 KI2 HB2
      go_wp2_with fail
      refine (KA.out B _ (Nat.le_trans hB HB3.out.size) (HT.out.on HB3.out hB)).mono ?_
      rintro e w4 ⟨rfl, hb4⟩
      have HB4 := hide (HB3.out.trans (hb4.mono HB3.out.size))
      clear hb4 KA HB3
      go_wp2_with fail
      refine (KS.out B _ (Nat.le_trans hB HB4.out.size) (HT.out.on HB4.out hB)).mono ?_
      rintro e w5 ⟨rfl, hb5⟩
      have HB5 := hide (HB4.out.trans (hb5.mono HB4.out.size))
      clear hb5 KS HB4
      go_wp2_with fail
      refine (KM.out B _ (Nat.le_trans hB HB5.out.size) (HT.out.on HB5.out hB)).mono ?_
      rintro e w6 ⟨rfl, hb6⟩
      have HB6 := hide (HB5.out.trans (hb6.mono HB5.out.size))
      clear hb6 KM HB5
      go_wp2_with fail
      refine (KC.out _).mono ?_
      rintro e w7 ⟨rfl, hb7⟩
      have HB7 := hide (HB6.out.trans (hb7.mono HB6.out.size))
      clear hb7 KC HB6
      go_wp2_with fail
      refine (KX1.out B _ (Nat.le_trans hB HB7.out.size) (HT.out.on HB7.out hB)).mono ?_
      rintro e w8 ⟨rfl, hb8⟩
      have HB8 := hide (HB7.out.trans (hb8.mono HB7.out.size))
      clear hb8 KX1 HB7
      go_wp2_with fail
      refine (KX2.out B _ (Nat.le_trans hB HB8.out.size) (HT.out.on HB8.out hB)).mono ?_
      rintro e w9 ⟨rfl, hb9⟩
      have HB9 := hide (HB8.out.trans (hb9.mono HB8.out.size))
      clear hb9 KX2 HB8
      go_wp2_with fail
      refine (KX3.out B _ (Nat.le_trans hB HB9.out.size) (HT.out.on HB9.out hB)).mono ?_
      rintro e w10 ⟨rfl, hb10⟩
      have HB10 := hide (HB9.out.trans (hb10.mono HB9.out.size))
      clear hb10 KX3 HB9
      go_wp2_with fail
      refine (KD.out B _ (Nat.le_trans hB HB10.out.size) (HT.out.on HB10.out hB)).mono ?_
      rintro e w11 ⟨rfl, hb11⟩
      have HB11 := hide (HB10.out.trans (hb11.mono HB10.out.size))
      clear hb11 KD HB10
      go_wp2_with fail
      go_quiet (fail)
      have HB11 := hide (show Below w.heap.size w (w11.drewN nq) from below_drewN HB11.out nq)
      rw [HQ.out, HR.out]
      go_wp2_with fail
      refine (KQ.out B _ (Nat.le_trans hB HB11.out.size) (HT.out.on HB11.out hB)).mono ?_
      rintro e w12 ⟨rfl, hb12⟩
      have HB12 := hide (HB11.out.trans (hb12.mono HB11.out.size))
      clear hb12 KQ HB11
      go_wp2_with fail
      refine (KR.out B _ (Nat.le_trans hB HB12.out.size) (HT.out.on HB12.out hB)).mono ?_
      rintro e w13 ⟨rfl, hb13⟩
      have HB13 := hide (HB12.out.trans (hb13.mono HB12.out.size))
      clear hb13 KR HB12
      go_wp2_with fail
      refine (HAW.out _ HB13.out).mono ?_
      rintro e w14 ⟨rfl, hb14⟩
      have HB14 := hide (HB13.out.trans (hb14.mono HB13.out.size))
      clear hb14 HAW HB13
      go_wp2_with fail
      go_ret
      exact ⟨rfl, HB14.out⟩
    · have f := FS (.inr (by omega))
      have KQ := hide (fun B w => Itoa_to (r := d1) (z := q) (by rw [e6, f.1]) (by omega) (by omega) B w)
      have KR := hide (fun B w => Itoa_to (r := d2) (z := r) (by rw [e7, f.2]) (by omega) (by omega) B w)
      have hrq : (r != 0) = true := by simpa using h
      clear h f FS FL e6 e7
      rcases h2 with ⟨h3, h4⟩ | ⟨h3, h4⟩
      · skip
        go_enter Tryz.func12, Tryz.ntmps12
        go_wp2_with fail
        have HB1 := hide (Below.refl w.heap.size w)
        refine (KI1.out B _ (Nat.le_trans hB HB1.out.size) (HT.out.on HB1.out hB)).mono ?_
        rintro e w2 ⟨rfl, hb2⟩
        have HB2 := hide (HB1.out.trans (hb2.mono HB1.out.size))
        clear hb2 KI1 HB1
        go_wp2_with fail
        refine (KI2.out B _ (Nat.le_trans hB HB2.out.size) (HT.out.on HB2.out hB)).mono ?_
        rintro e w3 ⟨rfl, hb3⟩
        have HB3 := hide (HB2.out.trans (hb3.mono HB2.out.size))
        clear hb3 KI2 HB2
        go_wp2_with fail
        refine (KA.out B _ (Nat.le_trans hB HB3.out.size) (HT.out.on HB3.out hB)).mono ?_
        rintro e w4 ⟨rfl, hb4⟩
        have HB4 := hide (HB3.out.trans (hb4.mono HB3.out.size))
        clear hb4 KA HB3
        go_wp2_with fail
        refine (KS.out B _ (Nat.le_trans hB HB4.out.size) (HT.out.on HB4.out hB)).mono ?_
        rintro e w5 ⟨rfl, hb5⟩
        have HB5 := hide (HB4.out.trans (hb5.mono HB4.out.size))
        clear hb5 KS HB4
        go_wp2_with fail
        refine (KM.out B _ (Nat.le_trans hB HB5.out.size) (HT.out.on HB5.out hB)).mono ?_
        rintro e w6 ⟨rfl, hb6⟩
        have HB6 := hide (HB5.out.trans (hb6.mono HB5.out.size))
        clear hb6 KM HB5
        go_wp2_with fail
        refine (KC.out _).mono ?_
        rintro e w7 ⟨rfl, hb7⟩
        have HB7 := hide (HB6.out.trans (hb7.mono HB6.out.size))
        clear hb7 KC HB6
        go_wp2_with fail
        refine (KX1.out B _ (Nat.le_trans hB HB7.out.size) (HT.out.on HB7.out hB)).mono ?_
        rintro e w8 ⟨rfl, hb8⟩
        have HB8 := hide (HB7.out.trans (hb8.mono HB7.out.size))
        clear hb8 KX1 HB7
        go_wp2_with fail
        refine (KX2.out B _ (Nat.le_trans hB HB8.out.size) (HT.out.on HB8.out hB)).mono ?_
        rintro e w9 ⟨rfl, hb9⟩
        have HB9 := hide (HB8.out.trans (hb9.mono HB8.out.size))
        clear hb9 KX2 HB8
        go_wp2_with fail
        refine (KX3.out B _ (Nat.le_trans hB HB9.out.size) (HT.out.on HB9.out hB)).mono ?_
        rintro e w10 ⟨rfl, hb10⟩
        have HB10 := hide (HB9.out.trans (hb10.mono HB9.out.size))
        clear hb10 KX3 HB9
        go_wp2_with fail
        refine (KD.out B _ (Nat.le_trans hB HB10.out.size) (HT.out.on HB10.out hB)).mono ?_
        rintro e w11 ⟨rfl, hb11⟩
        have HB11 := hide (HB10.out.trans (hb11.mono HB10.out.size))
        clear hb11 KD HB10
        go_wp2_with fail
        go_quiet (fail)
        have HB11 := hide (show Below w.heap.size w (w11.drewN nq) from below_drewN HB11.out nq)
        rw [HQ.out, HR.out]
        go_wp2_with fail
        refine (KQ.out B _ (Nat.le_trans hB HB11.out.size) (HT.out.on HB11.out hB)).mono ?_
        rintro e w12 ⟨rfl, hb12⟩
        have HB12 := hide (HB11.out.trans (hb12.mono HB11.out.size))
        clear hb12 KQ HB11
        go_wp2_with fail
        refine (KR.out B _ (Nat.le_trans hB HB12.out.size) (HT.out.on HB12.out hB)).mono ?_
        rintro e w13 ⟨rfl, hb13⟩
        have HB13 := hide (HB12.out.trans (hb13.mono HB12.out.size))
        clear hb13 KR HB12
        go_wp2_with fail
        refine (HAW.out _ HB13.out).mono ?_
        rintro e w14 ⟨rfl, hb14⟩
        have HB14 := hide (HB13.out.trans (hb14.mono HB13.out.size))
        clear hb14 HAW HB13
        go_wp2_with fail
        go_ret
        exact ⟨rfl, HB14.out⟩
      · have t2 : (r < 0) = False := eq_false h3
        have t3 : (y < 0) = False := eq_false h4
        clear h3 h4
        go_enter Tryz.func12, Tryz.ntmps12
        go_wp2_with fail
        have HB1 := hide (Below.refl w.heap.size w)
        refine (KI1.out B _ (Nat.le_trans hB HB1.out.size) (HT.out.on HB1.out hB)).mono ?_
        rintro e w2 ⟨rfl, hb2⟩
        have HB2 := hide (HB1.out.trans (hb2.mono HB1.out.size))
        clear hb2 KI1 HB1
        go_wp2_with fail
        refine (KI2.out B _ (Nat.le_trans hB HB2.out.size) (HT.out.on HB2.out hB)).mono ?_
        rintro e w3 ⟨rfl, hb3⟩
        have HB3 := hide (HB2.out.trans (hb3.mono HB2.out.size))
        clear hb3 KI2 HB2
        go_wp2_with fail
        refine (KA.out B _ (Nat.le_trans hB HB3.out.size) (HT.out.on HB3.out hB)).mono ?_
        rintro e w4 ⟨rfl, hb4⟩
        have HB4 := hide (HB3.out.trans (hb4.mono HB3.out.size))
        clear hb4 KA HB3
        go_wp2_with fail
        refine (KS.out B _ (Nat.le_trans hB HB4.out.size) (HT.out.on HB4.out hB)).mono ?_
        rintro e w5 ⟨rfl, hb5⟩
        have HB5 := hide (HB4.out.trans (hb5.mono HB4.out.size))
        clear hb5 KS HB4
        go_wp2_with fail
        refine (KM.out B _ (Nat.le_trans hB HB5.out.size) (HT.out.on HB5.out hB)).mono ?_
        rintro e w6 ⟨rfl, hb6⟩
        have HB6 := hide (HB5.out.trans (hb6.mono HB5.out.size))
        clear hb6 KM HB5
        go_wp2_with fail
        refine (KC.out _).mono ?_
        rintro e w7 ⟨rfl, hb7⟩
        have HB7 := hide (HB6.out.trans (hb7.mono HB6.out.size))
        clear hb7 KC HB6
        go_wp2_with fail
        refine (KX1.out B _ (Nat.le_trans hB HB7.out.size) (HT.out.on HB7.out hB)).mono ?_
        rintro e w8 ⟨rfl, hb8⟩
        have HB8 := hide (HB7.out.trans (hb8.mono HB7.out.size))
        clear hb8 KX1 HB7
        go_wp2_with fail
        refine (KX2.out B _ (Nat.le_trans hB HB8.out.size) (HT.out.on HB8.out hB)).mono ?_
        rintro e w9 ⟨rfl, hb9⟩
        have HB9 := hide (HB8.out.trans (hb9.mono HB8.out.size))
        clear hb9 KX2 HB8
        go_wp2_with fail
        refine (KX3.out B _ (Nat.le_trans hB HB9.out.size) (HT.out.on HB9.out hB)).mono ?_
        rintro e w10 ⟨rfl, hb10⟩
        have HB10 := hide (HB9.out.trans (hb10.mono HB9.out.size))
        clear hb10 KX3 HB9
        go_wp2_with fail
        refine (KD.out B _ (Nat.le_trans hB HB10.out.size) (HT.out.on HB10.out hB)).mono ?_
        rintro e w11 ⟨rfl, hb11⟩
        have HB11 := hide (HB10.out.trans (hb11.mono HB10.out.size))
        clear hb11 KD HB10
        go_wp2_with fail
        go_quiet (fail)
        have HB11 := hide (show Below w.heap.size w (w11.drewN nq) from below_drewN HB11.out nq)
        rw [HQ.out, HR.out]
        go_wp2_with fail
        refine (KQ.out B _ (Nat.le_trans hB HB11.out.size) (HT.out.on HB11.out hB)).mono ?_
        rintro e w12 ⟨rfl, hb12⟩
        have HB12 := hide (HB11.out.trans (hb12.mono HB11.out.size))
        clear hb12 KQ HB11
        go_wp2_with fail
        refine (KR.out B _ (Nat.le_trans hB HB12.out.size) (HT.out.on HB12.out hB)).mono ?_
        rintro e w13 ⟨rfl, hb13⟩
        have HB13 := hide (HB12.out.trans (hb13.mono HB12.out.size))
        clear hb13 KR HB12
        go_wp2_with fail
        refine (HAW.out _ HB13.out).mono ?_
        rintro e w14 ⟨rfl, hb14⟩
        have HB14 := hide (HB13.out.trans (hb14.mono HB13.out.size))
        clear hb14 HAW HB13
        go_wp2_with fail
        go_ret
        exact ⟨rfl, HB14.out⟩
    · have f := FL h (by omega)
      have KQ := hide (fun B w => Itoa_to (r := d1) (z := q - 1) (by rw [e6, f.1]) (by omega) (by omega) B w)
      have KR := hide (fun B w => Itoa_to (r := d2) (z := r + y) (by rw [e7, f.2]) (by omega) (by omega) B w)
      have hrq : (r != 0) = true := by simpa using h
      clear h f FS FL e6 e7
      rcases h2 with ⟨h3, h4⟩ | ⟨h3, h4⟩
      · have t3 : (y < 0) = False := eq_false h4
        clear h4
        go_enter Tryz.func12, Tryz.ntmps12
        go_wp2_with fail
        have HB1 := hide (Below.refl w.heap.size w)
        refine (KI1.out B _ (Nat.le_trans hB HB1.out.size) (HT.out.on HB1.out hB)).mono ?_
        rintro e w2 ⟨rfl, hb2⟩
        have HB2 := hide (HB1.out.trans (hb2.mono HB1.out.size))
        clear hb2 KI1 HB1
        go_wp2_with fail
        refine (KI2.out B _ (Nat.le_trans hB HB2.out.size) (HT.out.on HB2.out hB)).mono ?_
        rintro e w3 ⟨rfl, hb3⟩
        have HB3 := hide (HB2.out.trans (hb3.mono HB2.out.size))
        clear hb3 KI2 HB2
        go_wp2_with fail
        refine (KA.out B _ (Nat.le_trans hB HB3.out.size) (HT.out.on HB3.out hB)).mono ?_
        rintro e w4 ⟨rfl, hb4⟩
        have HB4 := hide (HB3.out.trans (hb4.mono HB3.out.size))
        clear hb4 KA HB3
        go_wp2_with fail
        refine (KS.out B _ (Nat.le_trans hB HB4.out.size) (HT.out.on HB4.out hB)).mono ?_
        rintro e w5 ⟨rfl, hb5⟩
        have HB5 := hide (HB4.out.trans (hb5.mono HB4.out.size))
        clear hb5 KS HB4
        go_wp2_with fail
        refine (KM.out B _ (Nat.le_trans hB HB5.out.size) (HT.out.on HB5.out hB)).mono ?_
        rintro e w6 ⟨rfl, hb6⟩
        have HB6 := hide (HB5.out.trans (hb6.mono HB5.out.size))
        clear hb6 KM HB5
        go_wp2_with fail
        refine (KC.out _).mono ?_
        rintro e w7 ⟨rfl, hb7⟩
        have HB7 := hide (HB6.out.trans (hb7.mono HB6.out.size))
        clear hb7 KC HB6
        go_wp2_with fail
        refine (KX1.out B _ (Nat.le_trans hB HB7.out.size) (HT.out.on HB7.out hB)).mono ?_
        rintro e w8 ⟨rfl, hb8⟩
        have HB8 := hide (HB7.out.trans (hb8.mono HB7.out.size))
        clear hb8 KX1 HB7
        go_wp2_with fail
        refine (KX2.out B _ (Nat.le_trans hB HB8.out.size) (HT.out.on HB8.out hB)).mono ?_
        rintro e w9 ⟨rfl, hb9⟩
        have HB9 := hide (HB8.out.trans (hb9.mono HB8.out.size))
        clear hb9 KX2 HB8
        go_wp2_with fail
        refine (KX3.out B _ (Nat.le_trans hB HB9.out.size) (HT.out.on HB9.out hB)).mono ?_
        rintro e w10 ⟨rfl, hb10⟩
        have HB10 := hide (HB9.out.trans (hb10.mono HB9.out.size))
        clear hb10 KX3 HB9
        go_wp2_with fail
        refine (KD.out B _ (Nat.le_trans hB HB10.out.size) (HT.out.on HB10.out hB)).mono ?_
        rintro e w11 ⟨rfl, hb11⟩
        have HB11 := hide (HB10.out.trans (hb11.mono HB10.out.size))
        clear hb11 KD HB10
        go_wp2_with fail
        go_quiet (fail)
        have HB11 := hide (show Below w.heap.size w (w11.drewN nq) from below_drewN HB11.out nq)
        rw [HQ.out, HR.out]
        go_wp2_with fail
        refine (KQ.out B _ (Nat.le_trans hB HB11.out.size) (HT.out.on HB11.out hB)).mono ?_
        rintro e w12 ⟨rfl, hb12⟩
        have HB12 := hide (HB11.out.trans (hb12.mono HB11.out.size))
        clear hb12 KQ HB11
        go_wp2_with fail
        refine (KR.out B _ (Nat.le_trans hB HB12.out.size) (HT.out.on HB12.out hB)).mono ?_
        rintro e w13 ⟨rfl, hb13⟩
        have HB13 := hide (HB12.out.trans (hb13.mono HB12.out.size))
        clear hb13 KR HB12
        go_wp2_with fail
        refine (HAW.out _ HB13.out).mono ?_
        rintro e w14 ⟨rfl, hb14⟩
        have HB14 := hide (HB13.out.trans (hb14.mono HB13.out.size))
        clear hb14 HAW HB13
        go_wp2_with fail
        go_ret
        exact ⟨rfl, HB14.out⟩
      · have t2 : (r < 0) = False := eq_false h3
        clear h3
        go_enter Tryz.func12, Tryz.ntmps12
        go_wp2_with fail
        have HB1 := hide (Below.refl w.heap.size w)
        refine (KI1.out B _ (Nat.le_trans hB HB1.out.size) (HT.out.on HB1.out hB)).mono ?_
        rintro e w2 ⟨rfl, hb2⟩
        have HB2 := hide (HB1.out.trans (hb2.mono HB1.out.size))
        clear hb2 KI1 HB1
        go_wp2_with fail
        refine (KI2.out B _ (Nat.le_trans hB HB2.out.size) (HT.out.on HB2.out hB)).mono ?_
        rintro e w3 ⟨rfl, hb3⟩
        have HB3 := hide (HB2.out.trans (hb3.mono HB2.out.size))
        clear hb3 KI2 HB2
        go_wp2_with fail
        refine (KA.out B _ (Nat.le_trans hB HB3.out.size) (HT.out.on HB3.out hB)).mono ?_
        rintro e w4 ⟨rfl, hb4⟩
        have HB4 := hide (HB3.out.trans (hb4.mono HB3.out.size))
        clear hb4 KA HB3
        go_wp2_with fail
        refine (KS.out B _ (Nat.le_trans hB HB4.out.size) (HT.out.on HB4.out hB)).mono ?_
        rintro e w5 ⟨rfl, hb5⟩
        have HB5 := hide (HB4.out.trans (hb5.mono HB4.out.size))
        clear hb5 KS HB4
        go_wp2_with fail
        refine (KM.out B _ (Nat.le_trans hB HB5.out.size) (HT.out.on HB5.out hB)).mono ?_
        rintro e w6 ⟨rfl, hb6⟩
        have HB6 := hide (HB5.out.trans (hb6.mono HB5.out.size))
        clear hb6 KM HB5
        go_wp2_with fail
        refine (KC.out _).mono ?_
        rintro e w7 ⟨rfl, hb7⟩
        have HB7 := hide (HB6.out.trans (hb7.mono HB6.out.size))
        clear hb7 KC HB6
        go_wp2_with fail
        refine (KX1.out B _ (Nat.le_trans hB HB7.out.size) (HT.out.on HB7.out hB)).mono ?_
        rintro e w8 ⟨rfl, hb8⟩
        have HB8 := hide (HB7.out.trans (hb8.mono HB7.out.size))
        clear hb8 KX1 HB7
        go_wp2_with fail
        refine (KX2.out B _ (Nat.le_trans hB HB8.out.size) (HT.out.on HB8.out hB)).mono ?_
        rintro e w9 ⟨rfl, hb9⟩
        have HB9 := hide (HB8.out.trans (hb9.mono HB8.out.size))
        clear hb9 KX2 HB8
        go_wp2_with fail
        refine (KX3.out B _ (Nat.le_trans hB HB9.out.size) (HT.out.on HB9.out hB)).mono ?_
        rintro e w10 ⟨rfl, hb10⟩
        have HB10 := hide (HB9.out.trans (hb10.mono HB9.out.size))
        clear hb10 KX3 HB9
        go_wp2_with fail
        refine (KD.out B _ (Nat.le_trans hB HB10.out.size) (HT.out.on HB10.out hB)).mono ?_
        rintro e w11 ⟨rfl, hb11⟩
        have HB11 := hide (HB10.out.trans (hb11.mono HB10.out.size))
        clear hb11 KD HB10
        go_wp2_with fail
        go_quiet (fail)
        have HB11 := hide (show Below w.heap.size w (w11.drewN nq) from below_drewN HB11.out nq)
        rw [HQ.out, HR.out]
        go_wp2_with fail
        refine (KQ.out B _ (Nat.le_trans hB HB11.out.size) (HT.out.on HB11.out hB)).mono ?_
        rintro e w12 ⟨rfl, hb12⟩
        have HB12 := hide (HB11.out.trans (hb12.mono HB11.out.size))
        clear hb12 KQ HB11
        go_wp2_with fail
        refine (KR.out B _ (Nat.le_trans hB HB12.out.size) (HT.out.on HB12.out hB)).mono ?_
        rintro e w13 ⟨rfl, hb13⟩
        have HB13 := hide (HB12.out.trans (hb13.mono HB12.out.size))
        clear hb13 KR HB12
        go_wp2_with fail
        refine (HAW.out _ HB13.out).mono ?_
        rintro e w14 ⟨rfl, hb14⟩
        have HB14 := hide (HB13.out.trans (hb14.mono HB13.out.size))
        clear hb14 HAW HB13
        go_wp2_with fail
        go_ret
        exact ⟨rfl, HB14.out⟩
end Go.Proofs.YthkioajalhglfaaGreatDoor
