/-
  Integers: the law Divisors.
-/
import Derived.Test.YthkioajalhglfaaGreatDoorQg
namespace Go.Proofs.YthkioajalhglfaaGreatDoor
open Go.RowKit Go.KP Go.KI Go.Shelf
attribute [local go_sem] Oper.semAt_some

theorem gcd_shift (x y z : Int) : Nat.gcd (x + z * y).natAbs y.natAbs = Nat.gcd x.natAbs y.natAbs := by
  have d : ∀ (k : Nat) (u : Int), k ∣ u.natAbs ↔ (k : Int) ∣ u := fun k u => Int.ofNat_dvd_left.symm
  apply Nat.dvd_antisymm
  · have h1 := Nat.gcd_dvd_left (x + z * y).natAbs y.natAbs
    have h2 := Nat.gcd_dvd_right (x + z * y).natAbs y.natAbs
    refine Nat.dvd_gcd ?_ h2
    rw [d] at h1 h2 ⊢
    have h3 : ((Nat.gcd (x + z * y).natAbs y.natAbs : Nat) : Int) ∣ z * y := Int.dvd_mul_of_dvd_right h2
    have h4 := Int.dvd_sub h1 h3
    rwa [Int.add_sub_cancel] at h4
  · have h1 := Nat.gcd_dvd_left x.natAbs y.natAbs
    have h2 := Nat.gcd_dvd_right x.natAbs y.natAbs
    refine Nat.dvd_gcd ?_ h2
    rw [d] at h1 h2 ⊢
    exact Int.dvd_add h1 (Int.dvd_mul_of_dvd_right h2)
theorem gcd_scale (x y z : Int) : Nat.gcd (z * x).natAbs (z * y).natAbs = Nat.gcd (z * ((Nat.gcd x.natAbs y.natAbs : Nat) : Int)).natAbs (0 : Int).natAbs := by
  rw [Int.natAbs_mul, Int.natAbs_mul, Nat.gcd_mul_left, Int.natAbs_mul, Int.natAbs_natCast, show (0 : Int).natAbs = 0 from rfl, Nat.gcd_zero_right]
theorem gcd_fmod {x y : Int} : x.fmod ((Nat.gcd x.natAbs y.natAbs : Nat) : Int) = 0 ∧ y.fmod ((Nat.gcd x.natAbs y.natAbs : Nat) : Int) = 0 :=
  ⟨Int.fmod_eq_zero_of_dvd (Int.ofNat_dvd_left.2 (Nat.gcd_dvd_left _ _)), Int.fmod_eq_zero_of_dvd (Int.ofNat_dvd_left.2 (Nat.gcd_dvd_right _ _))⟩
theorem gcd_le_big {x y : Int} {p : Nat} (hx : x.natAbs < p) (hy : y.natAbs < p) : Nat.gcd x.natAbs y.natAbs < p := by
  rcases Nat.eq_zero_or_pos x.natAbs with h0 | h0
  · rw [h0, Nat.gcd_zero_left]
    exact hy
  · exact Nat.lt_of_le_of_lt (Nat.gcd_le_left _ h0) hx
set_option maxRecDepth 100000 in
set_option maxHeartbeats 8000000 in
theorem divisors_any (a b c : ByteArray) (B : Nat) (w : World) (hB : B ≤ w.heap.size) (hT : P10 B w) :
    Calls Tryz.prog 6 #[.string a, .string b, .string c] w (Ret w (.bool true)) := by
  have HT := hide hT
  have HAW := hide (fun w2 (hb : Below w.heap.size w w2) => awake_any B w2 (Nat.le_trans hB hb.size) (hT.on hb hB))
  clear hT
  have HF := hide (fun t => fine_any w.heap.size [a, b, c] (w.alloc (.cells #[.string a, .string b, .string c] t)) (by simp) (heap_three w a b c t) (by simp))
  obtain ⟨F, hF⟩ : ∃ F, F = decide (∀ s ∈ [a, b, c], fineS s) := ⟨_, rfl⟩
  rw [← hF] at HF
  have G0 := hide (fun o => (heap1 w o).2.2)
  cases F
  · clear hF
    go_enter Tryz.func6, Tryz.ntmps6
    go_wp2_with fail
    refine (HF.out _).mono ?_
    rintro e w1 ⟨rfl, hb1⟩
    have HB1 := hide ((G0.out _).trans (hb1.mono (G0.out _).size))
    clear hb1 HF G0
    go_wp2_with fail
    refine (HAW.out _ HB1.out).mono ?_
    rintro e w2 ⟨rfl, hb2⟩
    have HB2 := hide (HB1.out.trans (hb2.mono HB1.out.size))
    clear hb2 HAW HB1
    go_wp2_with fail
    go_ret
    exact ⟨rfl, HB2.out⟩
  · have hf := of_decide_eq_true hF.symm
    have fa := hf a (by simp)
    have fb := hf b (by simp)
    have fc := hf c (by simp)
    clear hF hf
    have va := fine_val fa
    have vb := fine_val fb
    have vc := fine_val fc
    have ea := (chk_ok fa.2).1
    have eb := (chk_ok fb.2).1
    have ec := (chk_ok fc.2).1
    obtain ⟨x, hx⟩ : ∃ x, x = valI a.data.toList := ⟨_, rfl⟩
    obtain ⟨y, hy⟩ : ∃ y, y = valI b.data.toList := ⟨_, rfl⟩
    obtain ⟨z, hz⟩ : ∃ z, z = valI c.data.toList := ⟨_, rfl⟩
    rw [← hx] at va ea
    rw [← hy] at vb eb
    rw [← hz] at vc ec
    clear fa fb fc hx hy hz
    have mk : ∀ u : Int, ∃ s : ByteArray, s.data.toList = Lib.itoa u := fun u => ⟨strB _, strB_list _⟩
    obtain ⟨p, hp⟩ : ∃ p, p = (10 : Nat) ^ 80 := ⟨_, rfl⟩
    rw [← hp] at va vb vc
    have hp1 : 1000 ≤ p := by
      rw [hp]
      exact Nat.le_trans (show 1000 ≤ 10 ^ 3 by decide) (Nat.pow_le_pow_right (by omega) (by omega))
    have fz : ∀ u : Int, u.natAbs < p * p * 10 → fits u := fun u hu => fits_small (n := 161) (by rw [most_eq]; omega) (by
      rw [hp, ← Nat.pow_add, ← Nat.pow_succ] at hu
      exact hu)
    have hpp : p * 1000 ≤ p * p := Nat.mul_le_mul_left _ hp1
    have vg := gcd_le_big va vb
    have hfm := gcd_fmod (x := x) (y := y)
    have hsh := gcd_shift x y z
    have hsc := gcd_scale x y z
    have hgz := Nat.gcd_eq_zero_iff (i := x.natAbs) (j := y.natAbs)
    obtain ⟨g, hg⟩ : ∃ g, g = Nat.gcd x.natAbs y.natAbs := ⟨_, rfl⟩
    rw [← hg] at vg hfm hsh hsc hgz
    have wzy := mul_lt_p vc vb
    have wzx := mul_lt_p vc va
    have wzg := mul_lt_p vc (show ((g : Nat) : Int).natAbs < p by rw [Int.natAbs_natCast]; exact vg)
    obtain ⟨pp, hpp2⟩ : ∃ pp, pp = p * p := ⟨_, rfl⟩
    rw [← hpp2] at fz hpp wzy wzx wzg
    have fx := fz x (by omega)
    have fy := fz y (by omega)
    have f0 := fz z (by omega)
    have fg := fz (g : Int) (by omega)
    have f1 := fz (z * y) (by omega)
    have f2 := fz (x + z * y) (by omega)
    have f3 := fz (z * x) (by omega)
    have f4 := fz (z * (g : Int)) (by omega)
    obtain ⟨d, eD⟩ := mk (g : Int)
    obtain ⟨R0, eR⟩ := mk 0
    obtain ⟨q1, e1⟩ := mk (x.fdiv g)
    obtain ⟨q2, e2⟩ := mk (y.fdiv g)
    obtain ⟨m1, e3⟩ := mk (z * y)
    obtain ⟨m2, e4⟩ := mk (x + z * y)
    obtain ⟨m3, e5⟩ := mk (z * x)
    obtain ⟨m4, e6⟩ := mk (z * (g : Int))
    obtain ⟨E, e7⟩ := mk ((Nat.gcd (z * (g : Int)).natAbs (0 : Int).natAbs : Nat) : Int)
    have hdl : d.data.toList = Lib.decDigits g := by rw [eD, Lib.itoa_nonneg]
    have hdne : d.data.toList ≠ [] := by rw [hdl]; exact decDigits_ne _
    obtain ⟨hdp, hdh⟩ := bytes_head hdne
    have hdp0 : (0 : Int) < (d.size : Int) := by omega
    have h45 : ((d[0].toNat : Int) == 45) = false := by
      have h1 : d[0] ≠ 45 := fun e => by
        rw [e, hdl] at hdh
        exact dec_head45 _ hdh
      have : d[0].toNat ≠ 45 := fun h => h1 (UInt8.toNat_inj.1 h)
      simp only [beq_eq_false_iff_ne, ne_eq]
      omega
    have tD0 : (d.toList == []) = false := by rw [ByteArray.toList_eq]; simpa using hdne
    have K1 := hide (fun B w => Gcd_to ea eb (r := d) (by rw [← hg]; exact eD) fx fy B w)
    by_cases hg0 : g = 0
    · have hxy := hgz.1 hg0
      have x0 : x = 0 := by omega
      have y0 : y = 0 := by omega
      have ta : (a.toList == [48]) = true := by rw [ByteArray.toList_eq, ea, x0, itoa_zero]; rfl
      have tb : (b.toList == [48]) = true := by rw [ByteArray.toList_eq, eb, y0, itoa_zero]; rfl
      have td : (d.toList == [48]) = true := by rw [ByteArray.toList_eq, eD, hg0]; show (Lib.itoa 0 == [48]) = true; rw [itoa_zero]; rfl
      clear ea eb ec va vb vc mk hp hp1 fz hpp vg hfm hsh hsc hgz hg wzy wzx wzg hpp2 fx fy f0 fg f1 f2 f3 f4 eD eR e1 e2 e3 e4 e5 e6 e7 hdl hdne hdh hg0 hxy x0 y0
      go_enter Tryz.func6, Tryz.ntmps6
      go_wp2_with fail
      refine (HF.out _).mono ?_
      rintro e w1 ⟨rfl, hb1⟩
      have HB1 := hide ((G0.out _).trans (hb1.mono (G0.out _).size))
      clear hb1 HF G0
      go_wp2_with fail
      refine (K1.out B _ (Nat.le_trans hB HB1.out.size) (HT.out.on HB1.out hB)).mono ?_
      rintro e w2 ⟨rfl, hb2⟩
      have HB2 := hide (HB1.out.trans (hb2.mono HB1.out.size))
      clear hb2 K1 HB1
      go_wp2_with fail
      refine (HAW.out _ HB2.out).mono ?_
      rintro e w3 ⟨rfl, hb3⟩
      have HB3 := hide (HB2.out.trans (hb3.mono HB2.out.size))
      clear hb3 HAW HB2
      go_wp2_with fail
      go_ret
      exact ⟨rfl, HB3.out⟩
    · have hgi : (g : Int) ≠ 0 := by omega
      have td : (d.toList == [48]) = false := by
        rw [ByteArray.toList_eq, eD]
        have := itoa_nz hgi
        simpa using this
      have tR : (R0.toList == [48]) = true := by rw [ByteArray.toList_eq, eR, itoa_zero]; rfl
      have tdd : (d.toList == d.toList) = true := beq_self_eq_true _
      have tEE : (E.toList == E.toList) = true := beq_self_eq_true _
      have K2 := hide (fun B w => Divide_to ea eD e1 (r := R0) (by rw [hfm.1]; exact eR) fx fg hgi B w)
      have K3 := hide (fun B w => Divide_to eb eD e2 (r := R0) (by rw [hfm.2]; exact eR) fy fg hgi B w)
      have K4 := hide (fun B w => Mul_to ec eb e3 f0 fy f1 B w)
      have K5 := hide (fun B w => Add_to ea e3 e4 fx f1 f2 B w)
      have K6 := hide (fun B w => Gcd_to e4 eb (r := d) (by rw [hsh]; exact eD) f2 fy B w)
      have K7 := hide (fun B w => Mul_to ec ea e5 f0 fx f3 B w)
      have K8 := hide (fun B w => Mul_to ec eb e3 f0 fy f1 B w)
      have K9 := hide (fun B w => Gcd_to e5 e3 (r := E) (by rw [hsc]; exact e7) f3 f1 B w)
      have K10 := hide (fun B w => Mul_to ec eD e6 f0 fg f4 B w)
      have K11 := hide (fun B w => Gcd_to e6 (t := ⟨#[48]⟩) itoa_zero.symm (r := E) e7 f4 fits_zero B w)
      have hmx : ∀ w : World, (Builtin.max_ #[24, 24, 24, 24, 24] 24 #[.int .i64 0, .int .i64 0, .int .i64 0, .int .i64 0, .int .i64 0]).run Tryz.prog w = .ok (.int .i64 0) w := fun _ => by kernel_rfl
      clear ea eb ec va vb vc mk hp hp1 fz hpp vg hfm hsh hsc hgz hg wzy wzx wzg hpp2 fx fy f0 fg f1 f2 f3 f4 eD eR e1 e2 e3 e4 e5 e6 e7 hdl hdne hdh hg0 hgi
      go_enter Tryz.func6, Tryz.ntmps6
      go_wp2_with fail
      refine (HF.out _).mono ?_
      rintro e w1 ⟨rfl, hb1⟩
      have HB1 := hide ((G0.out _).trans (hb1.mono (G0.out _).size))
      clear hb1 HF G0
      go_wp2_with fail
      refine (K1.out B _ (Nat.le_trans hB HB1.out.size) (HT.out.on HB1.out hB)).mono ?_
      rintro e w2 ⟨rfl, hb2⟩
      have HB2 := hide (HB1.out.trans (hb2.mono HB1.out.size))
      clear hb2 K1 HB1
      go_wp2_with fail
      refine (K2.out B _ (Nat.le_trans hB HB2.out.size) (HT.out.on HB2.out hB)).mono ?_
      rintro e w3 ⟨rfl, hb3⟩
      have HB3 := hide (HB2.out.trans (hb3.mono HB2.out.size))
      clear hb3 K2 HB2
      go_wp2_with fail
      refine (K3.out B _ (Nat.le_trans hB HB3.out.size) (HT.out.on HB3.out hB)).mono ?_
      rintro e w4 ⟨rfl, hb4⟩
      have HB4 := hide (HB3.out.trans (hb4.mono HB3.out.size))
      clear hb4 K3 HB3
      go_wp2_with fail
      refine (K4.out B _ (Nat.le_trans hB HB4.out.size) (HT.out.on HB4.out hB)).mono ?_
      rintro e w5 ⟨rfl, hb5⟩
      have HB5 := hide (HB4.out.trans (hb5.mono HB4.out.size))
      clear hb5 K4 HB4
      go_wp2_with fail
      refine (K5.out B _ (Nat.le_trans hB HB5.out.size) (HT.out.on HB5.out hB)).mono ?_
      rintro e w6 ⟨rfl, hb6⟩
      have HB6 := hide (HB5.out.trans (hb6.mono HB5.out.size))
      clear hb6 K5 HB5
      go_wp2_with fail
      refine (K6.out B _ (Nat.le_trans hB HB6.out.size) (HT.out.on HB6.out hB)).mono ?_
      rintro e w7 ⟨rfl, hb7⟩
      have HB7 := hide (HB6.out.trans (hb7.mono HB6.out.size))
      clear hb7 K6 HB6
      go_wp2_with fail
      refine (K7.out B _ (Nat.le_trans hB HB7.out.size) (HT.out.on HB7.out hB)).mono ?_
      rintro e w8 ⟨rfl, hb8⟩
      have HB8 := hide (HB7.out.trans (hb8.mono HB7.out.size))
      clear hb8 K7 HB7
      go_wp2_with fail
      refine (K8.out B _ (Nat.le_trans hB HB8.out.size) (HT.out.on HB8.out hB)).mono ?_
      rintro e w9 ⟨rfl, hb9⟩
      have HB9 := hide (HB8.out.trans (hb9.mono HB8.out.size))
      clear hb9 K8 HB8
      go_wp2_with fail
      refine (K9.out B _ (Nat.le_trans hB HB9.out.size) (HT.out.on HB9.out hB)).mono ?_
      rintro e w10 ⟨rfl, hb10⟩
      have HB10 := hide (HB9.out.trans (hb10.mono HB9.out.size))
      clear hb10 K9 HB9
      go_wp2_with fail
      refine (K10.out B _ (Nat.le_trans hB HB10.out.size) (HT.out.on HB10.out hB)).mono ?_
      rintro e w11 ⟨rfl, hb11⟩
      have HB11 := hide (HB10.out.trans (hb11.mono HB10.out.size))
      clear hb11 K10 HB10
      go_wp2_with fail
      refine (K11.out B _ (Nat.le_trans hB HB11.out.size) (HT.out.on HB11.out hB)).mono ?_
      rintro e w12 ⟨rfl, hb12⟩
      have HB12 := hide (HB11.out.trans (hb12.mono HB11.out.size))
      clear hb12 K11 HB11
      go_wp2_with fail
      refine (HAW.out _ HB12.out).mono ?_
      rintro e w13 ⟨rfl, hb13⟩
      have HB13 := hide (HB12.out.trans (hb13.mono HB12.out.size))
      clear hb13 HAW HB12
      go_wp2_with fail
      go_ret
      exact ⟨rfl, HB13.out⟩
end Go.Proofs.YthkioajalhglfaaGreatDoor
