/-
  Texts laid together.
-/
import Derived.Test.YtpmnhipffkhcpaaGreatDoorP16
import Derived.Test.YtpmnhipffkhcpaaGreatDoorP3
import Derived.Test.YtpmnhipffkhcpaaGreatDoorP9
import Derived.Test.YtpmnhipffkhcpaaGreatDoorP5
import Derived.Test.YtpmnhipffkhcpaaGreatDoorP7
import Derived.Lib.MinMax
set_option maxRecDepth 100000
set_option maxHeartbeats 16000000
namespace Go.KI
open Go
theorem prod9 {a b : Int} (ha : a.natAbs < 1000000000) (hb : b.natAbs < 1000000000) : (a * b).natAbs < 1000000000000000000 := by
  rw [Int.natAbs_mul]
  exact Nat.lt_of_lt_of_le (Nat.mul_lt_mul'' ha hb) (by decide)
theorem short_sz {q : Rat} (h : shortQ q) : sz 9 q := ⟨(shortQ_lt h).1, (shortQ_lt h).2⟩
end Go.KI
namespace Go.Proofs.YtpmnhipffkhcpaaGreatDoor
open Go.RowKit Go.KP Go.KI Go.Shelf
attribute [local go_sem] Oper.semAt_some

abbrev noB : ByteArray := ⟨#[]⟩
theorem r2products_no {a b c d : Int} (fa : fits a) (fb : fits b) (fc : fits c) (fd : fits d) (h : ¬ (fits (a * b) ∧ fits (c * d))) (B : Nat) (w : World) (hB : B ≤ w.heap.size) (hT : P10 B w) :
    ∃ x y : ByteArray, Calls Tryz.prog 351 #[.string (iB a), .string (iB b), .string (iB c), .string (iB d)] w (Ret w (.tuple #[.string x, .string y, .int .i64 4])) := by
  have HT := hide hT
  have H1 := hide (fun w hB hT => rMul_I fa fb B w hB hT)
  have H2 := hide (fun w hB hT => rMul_I fc fd B w hB hT)
  obtain ⟨A, hA⟩ : ∃ x, x = iB a := ⟨_, rfl⟩
  obtain ⟨B', hB'⟩ : ∃ x, x = iB b := ⟨_, rfl⟩
  obtain ⟨C, hC⟩ : ∃ x, x = iB c := ⟨_, rfl⟩
  obtain ⟨D, hD⟩ : ∃ x, x = iB d := ⟨_, rfl⟩
  simp only [← hA, ← hB', ← hC, ← hD] at *
  clear hA hB' hC hD
  by_cases h1 : fits (a * b)
  · have h2 : ¬ fits (c * d) := fun e => h ⟨h1, e⟩
    rw [resI_yes h1] at H1
    rw [resI_no h2] at H2
    obtain ⟨X, hX⟩ : ∃ x, x = iB (a * b) := ⟨_, rfl⟩
    rw [← hX] at H1
    refine ⟨X, noB, ?_⟩
    clear hX h h1 h2 fa fb fc fd hT
    go_enter Tryz.func351, Tryz.ntmps351
    go_wp2_with fail
    refine (H1.out _ hB HT.out).mono ?_
    rintro e w1 ⟨rfl, hb1⟩
    have HB1 := hide hb1
    clear hb1
    go_wp2_with fail
    refine (H2.out _ (Nat.le_trans hB HB1.out.size) (HT.out.on HB1.out hB)).mono ?_
    rintro e w2 ⟨rfl, hb2⟩
    have HB2 := hide (HB1.out.trans (hb2.mono HB1.out.size))
    clear hb2
    go_wp2_with fail
    refine ret3v rfl rfl rfl rfl rfl ?_
    exact ⟨rfl, HB2.out⟩
  · rw [resI_no h1] at H1
    refine ⟨noB, noB, ?_⟩
    clear h h1 fa fb fc fd hT H2
    go_enter Tryz.func351, Tryz.ntmps351
    go_wp2_with fail
    refine (H1.out _ hB HT.out).mono ?_
    rintro e w1 ⟨rfl, hb1⟩
    have HB1 := hide hb1
    clear hb1
    go_wp2_with fail
    refine ret3v rfl rfl rfl rfl rfl ?_
    exact ⟨rfl, HB1.out⟩
theorem r2products_yes {a b c d : Int} (fa : fits a) (fb : fits b) (fc : fits c) (fd : fits d) (h1 : fits (a * b)) (h2 : fits (c * d)) (B : Nat) (w : World) (hB : B ≤ w.heap.size) (hT : P10 B w) :
    Calls Tryz.prog 351 #[.string (iB a), .string (iB b), .string (iB c), .string (iB d)] w (Ret w (.tuple #[.string (iB (a * b)), .string (iB (c * d)), .int .i64 0])) := by
  have HT := hide hT
  have H1 := hide (fun w hB hT => rMul_I fa fb B w hB hT)
  have H2 := hide (fun w hB hT => rMul_I fc fd B w hB hT)
  rw [resI_yes h1] at H1
  rw [resI_yes h2] at H2
  obtain ⟨A, hA⟩ : ∃ x, x = iB a := ⟨_, rfl⟩
  obtain ⟨B', hB'⟩ : ∃ x, x = iB b := ⟨_, rfl⟩
  obtain ⟨C, hC⟩ : ∃ x, x = iB c := ⟨_, rfl⟩
  obtain ⟨D, hD⟩ : ∃ x, x = iB d := ⟨_, rfl⟩
  obtain ⟨X, hX⟩ : ∃ x, x = iB (a * b) := ⟨_, rfl⟩
  obtain ⟨Y, hY⟩ : ∃ x, x = iB (c * d) := ⟨_, rfl⟩
  simp only [← hA, ← hB', ← hC, ← hD, ← hX, ← hY] at *
  clear hA hB' hC hD hX hY h1 h2 fa fb fc fd hT
  go_enter Tryz.func351, Tryz.ntmps351
  go_wp2_with fail
  refine (H1.out _ hB HT.out).mono ?_
  rintro e w1 ⟨rfl, hb1⟩
  have HB1 := hide hb1
  clear hb1
  go_wp2_with fail
  refine (H2.out _ (Nat.le_trans hB HB1.out.size) (HT.out.on HB1.out hB)).mono ?_
  rintro e w2 ⟨rfl, hb2⟩
  have HB2 := hide (HB1.out.trans (hb2.mono HB1.out.size))
  clear hb2
  go_wp2_with fail
  refine ret3v rfl rfl rfl rfl rfl ?_
  exact ⟨rfl, HB2.out⟩
def opV (o : Option Rat) : Value := match o with | some q => .tuple #[.string (T q), .int .i64 0] | none => .tuple #[.string noB, .int .i64 4]
theorem r2add_T {x y : Rat} (fx : fitsQ x) (fy : fitsQ y) (B : Nat) (w : World) (hB : B ≤ w.heap.size) (hT : PQ B w) :
    Calls Tryz.prog 255 #[.string (T x), .string (T y)] w (Ret w (opV (addO x y))) := by
  have HT := hide hT
  have HI1 := hide (fun w => r2ints_T fx w)
  have HI2 := hide (fun w => r2ints_T fy w)
  have HP1 := hide (fun w => r2parts_T fx w)
  have HP2 := hide (fun w => r2parts_T fy w)
  unfold intsQ at HI1 HI2
  obtain ⟨S, hS⟩ : ∃ s, s = T x := ⟨_, rfl⟩
  obtain ⟨U, hU⟩ : ∃ s, s = T y := ⟨_, rfl⟩
  rw [← hS, ← hU]
  rw [← hS] at HI1 HP1
  rw [← hU] at HI2 HP2
  clear hS hU hT
  by_cases hs : shortQ x ∧ shortQ y
  · rw [if_pos hs.1] at HI1
    rw [if_pos hs.2] at HI2
    obtain ⟨a1, a2⟩ := shortQ_lt hs.1
    obtain ⟨b1, b2⟩ := shortQ_lt hs.2
    have ap := x.den_pos
    have bp := y.den_pos
    rw [addO_sz (short_sz hs.1) (short_sz hs.2) (by rw [most_eq]; omega)]
    unfold opV
    have hdiv := divInt_add x y
    have m1 := prod9 (a := x.num) (b := (y.den : Int)) a1 (by omega)
    have m2 := prod9 (a := y.num) (b := (x.den : Int)) b1 (by omega)
    have m3 := prod9 (a := (x.den : Int)) (b := (y.den : Int)) (by omega) (by omega)
    have m4 : 0 < x.den * y.den := Nat.mul_pos ap bp
    have m5 : ((x.den * y.den : Nat) : Int) = (x.den : Int) * (y.den : Int) := by push_cast; rfl
    have HQ := hide (fun w => r2quick_any (x.num * y.den + y.num * x.den) (x.den * y.den) (by omega) (by omega) m4 w)
    rw [m5, hdiv] at HQ
    obtain ⟨R, hR⟩ : ∃ s, s = T (x + y) := ⟨_, rfl⟩
    have hR2 : strB (ratS (x + y)) = R := hR.symm
    rw [hR2] at HQ
    dsimp only
    rw [← hR]
    obtain ⟨n, hn⟩ : ∃ n, n = x.num := ⟨_, rfl⟩
    obtain ⟨d, hd⟩ : ∃ n, n = (x.den : Int) := ⟨_, rfl⟩
    obtain ⟨m, hm⟩ : ∃ n, n = y.num := ⟨_, rfl⟩
    obtain ⟨c, hc⟩ : ∃ n, n = (y.den : Int) := ⟨_, rfl⟩
    simp only [← hn, ← hd, ← hm, ← hc] at HI1 HI2 HQ m1 m2 m3
    have v1 : IntKind.i64.wrap (n * c) = n * c := IntWalk.i64_in _ (by omega)
    have v2 : IntKind.i64.wrap (m * d) = m * d := IntWalk.i64_in _ (by omega)
    have v3 : IntKind.i64.wrap (d * c) = d * c := IntWalk.i64_in _ (by omega)
    have v4 : IntKind.i64.wrap (n * c + m * d) = n * c + m * d := IntWalk.i64_in _ (by omega)
    clear hR hR2 hdiv m1 m2 m3 m4 m5 hs a1 a2 b1 b2 ap bp hn hd hm hc HP1 HP2 fx fy
    go_enter Tryz.func255, Tryz.ntmps255
    go_wp2_with fail
    refine (HI1.out _).mono ?_
    rintro e w1 ⟨rfl, hb1⟩
    have HB1 := hide hb1
    clear hb1
    go_wp2_with fail
    refine (HI2.out _).mono ?_
    rintro e w2 ⟨rfl, hb2⟩
    have HB2 := hide (HB1.out.trans (hb2.mono HB1.out.size))
    clear hb2
    go_wp2_with fail
    refine (HQ.out _).mono ?_
    rintro e w3 ⟨rfl, hb3⟩
    have HB3 := hide (HB2.out.trans (hb3.mono HB2.out.size))
    clear hb3
    go_wp2_with fail
    refine bodyPost_ret (results_tmp2 rfl _ _ _) rfl ?_
    exact ⟨rfl, HB3.out⟩
  · have hway : (∃ v1 v2 : Int, ∃ b1 b2 : Bool, ∃ v3 v4 : Int, Hid (∀ w, Calls Tryz.prog 245 #[.string S] w (Ret w (.tuple #[.int .i64 v1, .int .i64 v2, .bool b1]))) ∧ Hid (∀ w, Calls Tryz.prog 245 #[.string U] w (Ret w (.tuple #[.int .i64 v3, .int .i64 v4, .bool b2]))) ∧ (b1 = false ∨ (b1 = true ∧ b2 = false))) := by
      by_cases h1 : shortQ x
      · have h2 : ¬ shortQ y := fun e => hs ⟨h1, e⟩
        rw [if_pos h1] at HI1
        rw [if_neg h2] at HI2
        exact ⟨_, _, _, _, _, _, HI1, HI2, .inr ⟨rfl, rfl⟩⟩
      · rw [if_neg h1] at HI1
        by_cases h2 : shortQ y
        · rw [if_pos h2] at HI2
          exact ⟨_, _, _, _, _, _, HI1, HI2, .inl rfl⟩
        · rw [if_neg h2] at HI2
          exact ⟨_, _, _, _, _, _, HI1, HI2, .inl rfl⟩
    clear HI1 HI2 hs
    obtain ⟨i1, i2, b1, b2, i3, i4, HI1, HI2, hb⟩ := hway
    obtain ⟨n, hn⟩ : ∃ n, n = x.num := ⟨_, rfl⟩
    obtain ⟨d, hd⟩ : ∃ n, n = (x.den : Int) := ⟨_, rfl⟩
    obtain ⟨m, hm⟩ : ∃ n, n = y.num := ⟨_, rfl⟩
    obtain ⟨c, hc⟩ : ∃ n, n = (y.den : Int) := ⟨_, rfl⟩
    have hd0 : 0 < d := by have := x.den_pos; omega
    have hc0 : 0 < c := by have := y.den_pos; omega
    have fn : fits n := by rw [hn]; exact fx.1
    have fd : fits d := by rw [hd]; exact fx.2
    have fm : fits m := by rw [hm]; exact fy.1
    have fc : fits c := by rw [hc]; exact fy.2
    have hdiv := divInt_add x y
    have hO : addO x y = if fits (n * c) ∧ fits (m * d) ∧ fits (n * c + m * d) ∧ fits (d * c) then some (x + y) else none := by
      rw [hn, hd, hm, hc]
      unfold addO
      by_cases h : addC x y
      · exact (if_pos h).trans (if_pos h).symm
      · exact (if_neg h).trans (if_neg h).symm
    simp only [← hn, ← hd, ← hm, ← hc] at HP1 HP2 hdiv
    rw [hO]
    have e1 := iB1
    have f1 : fits 1 := fits_one
    have hdc : d * c ≠ 0 := by have := Int.mul_pos hd0 hc0; omega
    have HPY := hide (fun (h1 : fits (n * c)) (h2 : fits (m * d)) w hB hT => r2products_yes fn fc fm fd h1 h2 B w hB hT)
    have HPN := hide (fun (h : ¬ (fits (n * c) ∧ fits (m * d))) w hB hT => r2products_no fn fc fm fd h B w hB hT)
    have HPY2 := hide (fun (h1 : fits (d * c)) w hB hT => r2products_yes fd fc f1 f1 h1 (by rw [Int.mul_one]; exact f1) B w hB hT)
    have HPN2 := hide (fun (h : ¬ (fits (d * c) ∧ fits (1 * 1))) w hB hT => r2products_no fd fc f1 f1 h B w hB hT)
    have HAD := hide (fun (h1 : fits (n * c)) (h2 : fits (m * d)) w hB hT => rAdd_I h1 h2 B w hB hT)
    have HMK := hide (fun (h1 : fits (n * c + m * d)) (h2 : fits (d * c)) w hB hT => r2make_any hdc h1 h2 B w hB hT)
    rw [hdiv] at HMK
    rw [Int.mul_one] at HPY2 HPN2
    rw [e1] at HPY2 HPN2
    obtain ⟨NB, hNB⟩ : ∃ s, s = iB n := ⟨_, rfl⟩
    obtain ⟨DB, hDB⟩ : ∃ s, s = iB d := ⟨_, rfl⟩
    obtain ⟨MB, hMB⟩ : ∃ s, s = iB m := ⟨_, rfl⟩
    obtain ⟨CB, hCB⟩ : ∃ s, s = iB c := ⟨_, rfl⟩
    obtain ⟨PB, hPB⟩ : ∃ s, s = iB (n * c) := ⟨_, rfl⟩
    obtain ⟨QB, hQB⟩ : ∃ s, s = iB (m * d) := ⟨_, rfl⟩
    obtain ⟨DC, hDC⟩ : ∃ s, s = iB (d * c) := ⟨_, rfl⟩
    simp only [← hNB, ← hDB, ← hMB, ← hCB, ← hPB, ← hQB, ← hDC] at HP1 HP2 HPY HPN HPY2 HPN2 HAD HMK
    clear hNB hDB hMB hCB hPB hQB hDC hn hd hm hc hd0 hc0 hdiv hO hdc e1 fn fd fm fc fx fy
    by_cases c1 : fits (n * c) ∧ fits (m * d)
    rotate_left
    · rw [if_neg (fun e => c1 ⟨e.1, e.2.1⟩)]
      unfold opV
      have HN := hide (HPN.out c1)
      clear HPY HPN HPY2 HPN2 HAD HMK c1
      rcases hb with rfl | ⟨rfl, rfl⟩
      all_goals
        go_enter Tryz.func255, Tryz.ntmps255
        go_wp2_with fail
        refine (HI1.out _).mono ?_
        rintro e w1 ⟨rfl, hb1⟩
        have HB1 := hide hb1
        clear hb1
        go_wp2_with fail
        refine (HI2.out _).mono ?_
        rintro e w2 ⟨rfl, hb2⟩
        have HB2 := hide (HB1.out.trans (hb2.mono HB1.out.size))
        clear hb2
        go_wp2_with fail
        refine (HP1.out _).mono ?_
        rintro e w3 ⟨rfl, hb3⟩
        have HB3 := hide (HB2.out.trans (hb3.mono HB2.out.size))
        clear hb3
        go_wp2_with fail
        refine (HP2.out _).mono ?_
        rintro e w4 ⟨rfl, hb4⟩
        have HB4 := hide (HB3.out.trans (hb4.mono HB3.out.size))
        clear hb4
        go_wp2_with fail
        obtain ⟨X, Y, hXY⟩ := HN.out _ (Nat.le_trans hB HB4.out.size) (HT.out.p10.on HB4.out hB)
        refine hXY.mono ?_
        rintro e w5 ⟨rfl, hb5⟩
        have HB5 := hide (HB4.out.trans (hb5.mono HB4.out.size))
        clear hb5 hXY
        go_wp2_with fail
        refine bodyPost_ret (results_tmp2 rfl _ _ _) rfl ?_
        exact ⟨rfl, HB5.out⟩
    have H1 := hide (HPY.out c1.1 c1.2)
    by_cases c2 : fits (d * c)
    rotate_left
    · rw [if_neg (fun e => c2 e.2.2.2)]
      unfold opV
      have HN := hide (HPN2.out (fun e => c2 e.1))
      clear HPY HPN HPY2 HPN2 HAD HMK c1 c2
      rcases hb with rfl | ⟨rfl, rfl⟩
      all_goals
        go_enter Tryz.func255, Tryz.ntmps255
        go_wp2_with fail
        refine (HI1.out _).mono ?_
        rintro e w1 ⟨rfl, hb1⟩
        have HB1 := hide hb1
        clear hb1
        go_wp2_with fail
        refine (HI2.out _).mono ?_
        rintro e w2 ⟨rfl, hb2⟩
        have HB2 := hide (HB1.out.trans (hb2.mono HB1.out.size))
        clear hb2
        go_wp2_with fail
        refine (HP1.out _).mono ?_
        rintro e w3 ⟨rfl, hb3⟩
        have HB3 := hide (HB2.out.trans (hb3.mono HB2.out.size))
        clear hb3
        go_wp2_with fail
        refine (HP2.out _).mono ?_
        rintro e w4 ⟨rfl, hb4⟩
        have HB4 := hide (HB3.out.trans (hb4.mono HB3.out.size))
        clear hb4
        go_wp2_with fail
        refine (H1.out _ (Nat.le_trans hB HB4.out.size) (HT.out.p10.on HB4.out hB)).mono ?_
        rintro e w5 ⟨rfl, hb5⟩
        have HB5 := hide (HB4.out.trans (hb5.mono HB4.out.size))
        clear hb5
        go_wp2_with fail
        obtain ⟨X, Y, hXY⟩ := HN.out _ (Nat.le_trans hB HB5.out.size) (HT.out.p10.on HB5.out hB)
        refine hXY.mono ?_
        rintro e w6 ⟨rfl, hb6⟩
        have HB6 := hide (HB5.out.trans (hb6.mono HB5.out.size))
        clear hb6 hXY
        go_wp2_with fail
        refine bodyPost_ret (results_tmp2 rfl _ _ _) rfl ?_
        exact ⟨rfl, HB6.out⟩
    have H2 := hide (HPY2.out c2)
    have H3 := hide (HAD.out c1.1 c1.2)
    by_cases c3 : fits (n * c + m * d)
    rotate_left
    · rw [if_neg (fun e => c3 e.2.2.1)]
      unfold opV
      rw [resI_no c3] at H3
      clear HPY HPN HPY2 HPN2 HAD HMK c1 c2 c3
      rcases hb with rfl | ⟨rfl, rfl⟩
      all_goals
        go_enter Tryz.func255, Tryz.ntmps255
        go_wp2_with fail
        refine (HI1.out _).mono ?_
        rintro e w1 ⟨rfl, hb1⟩
        have HB1 := hide hb1
        clear hb1
        go_wp2_with fail
        refine (HI2.out _).mono ?_
        rintro e w2 ⟨rfl, hb2⟩
        have HB2 := hide (HB1.out.trans (hb2.mono HB1.out.size))
        clear hb2
        go_wp2_with fail
        refine (HP1.out _).mono ?_
        rintro e w3 ⟨rfl, hb3⟩
        have HB3 := hide (HB2.out.trans (hb3.mono HB2.out.size))
        clear hb3
        go_wp2_with fail
        refine (HP2.out _).mono ?_
        rintro e w4 ⟨rfl, hb4⟩
        have HB4 := hide (HB3.out.trans (hb4.mono HB3.out.size))
        clear hb4
        go_wp2_with fail
        refine (H1.out _ (Nat.le_trans hB HB4.out.size) (HT.out.p10.on HB4.out hB)).mono ?_
        rintro e w5 ⟨rfl, hb5⟩
        have HB5 := hide (HB4.out.trans (hb5.mono HB4.out.size))
        clear hb5
        go_wp2_with fail
        refine (H2.out _ (Nat.le_trans hB HB5.out.size) (HT.out.p10.on HB5.out hB)).mono ?_
        rintro e w6 ⟨rfl, hb6⟩
        have HB6 := hide (HB5.out.trans (hb6.mono HB5.out.size))
        clear hb6
        go_wp2_with fail
        refine (H3.out _ (Nat.le_trans hB HB6.out.size) (HT.out.p10.on HB6.out hB)).mono ?_
        rintro e w7 ⟨rfl, hb7⟩
        have HB7 := hide (HB6.out.trans (hb7.mono HB6.out.size))
        clear hb7
        go_wp2_with fail
        refine bodyPost_ret (results_tmp2 rfl _ _ _) rfl ?_
        exact ⟨rfl, HB7.out⟩
    rw [if_pos ⟨c1.1, c1.2, c3, c2⟩]
    unfold opV
    rw [resI_yes c3] at H3
    have H4 := hide (HMK.out c3 c2)
    obtain ⟨SB, hSB⟩ : ∃ s, s = iB (n * c + m * d) := ⟨_, rfl⟩
    obtain ⟨R, hR⟩ : ∃ s, s = T (x + y) := ⟨_, rfl⟩
    rw [← hSB] at H3 H4
    rw [← hR] at H4
    dsimp only
    rw [← hR]
    clear HPY HPN HPY2 HPN2 HAD HMK c1 c2 c3 hSB hR
    rcases hb with rfl | ⟨rfl, rfl⟩
    all_goals
      go_enter Tryz.func255, Tryz.ntmps255
      go_wp2_with fail
      refine (HI1.out _).mono ?_
      rintro e w1 ⟨rfl, hb1⟩
      have HB1 := hide hb1
      clear hb1
      go_wp2_with fail
      refine (HI2.out _).mono ?_
      rintro e w2 ⟨rfl, hb2⟩
      have HB2 := hide (HB1.out.trans (hb2.mono HB1.out.size))
      clear hb2
      go_wp2_with fail
      refine (HP1.out _).mono ?_
      rintro e w3 ⟨rfl, hb3⟩
      have HB3 := hide (HB2.out.trans (hb3.mono HB2.out.size))
      clear hb3
      go_wp2_with fail
      refine (HP2.out _).mono ?_
      rintro e w4 ⟨rfl, hb4⟩
      have HB4 := hide (HB3.out.trans (hb4.mono HB3.out.size))
      clear hb4
      go_wp2_with fail
      refine (H1.out _ (Nat.le_trans hB HB4.out.size) (HT.out.p10.on HB4.out hB)).mono ?_
      rintro e w5 ⟨rfl, hb5⟩
      have HB5 := hide (HB4.out.trans (hb5.mono HB4.out.size))
      clear hb5
      go_wp2_with fail
      refine (H2.out _ (Nat.le_trans hB HB5.out.size) (HT.out.p10.on HB5.out hB)).mono ?_
      rintro e w6 ⟨rfl, hb6⟩
      have HB6 := hide (HB5.out.trans (hb6.mono HB5.out.size))
      clear hb6
      go_wp2_with fail
      refine (H3.out _ (Nat.le_trans hB HB6.out.size) (HT.out.p10.on HB6.out hB)).mono ?_
      rintro e w7 ⟨rfl, hb7⟩
      have HB7 := hide (HB6.out.trans (hb7.mono HB6.out.size))
      clear hb7
      go_wp2_with fail
      refine (H4.out _ (Nat.le_trans hB HB7.out.size) (HT.out.p10.on HB7.out hB)).mono ?_
      rintro e w8 ⟨rfl, hb8⟩
      have HB8 := hide (HB7.out.trans (hb8.mono HB7.out.size))
      clear hb8
      go_wp2_with fail
      refine bodyPost_ret (results_tmp2 rfl _ _ _) rfl ?_
      exact ⟨rfl, HB8.out⟩
end Go.Proofs.YtpmnhipffkhcpaaGreatDoor
namespace Go.KI
open Go
end Go.KI
namespace Go.Proofs.YtpmnhipffkhcpaaGreatDoor
open Go.RowKit Go.KP Go.KI Go.Shelf
attribute [local go_sem] Oper.semAt_some

theorem ratS_eq (q : Rat) : ratS q = Lib.itoa q.num ++ (if q.den = 1 then [] else 47 :: Lib.decDigits q.den) := by
  unfold ratS
  by_cases h : q.den = 1
  · rw [if_pos h, if_pos h, List.append_nil]
  · rw [if_neg h, if_neg h]
theorem T_head0 (q : Rat) : ∃ h : 0 < (T q).size, (((((T q)[0]'h).toNat : Nat) : Int) == 45) = decide (q.num < 0) := by
  have hne : (T q).data.toList ≠ [] := by
    rw [T_list, ratS_eq]
    intro e
    have e2 := (List.append_eq_nil_iff.1 e).1
    rcases itoa_cases q.num with ⟨_, a⟩ | ⟨_, a⟩ <;> rw [a] at e2
    · cases e2
    · exact decDigits_ne _ e2
  obtain ⟨hp, hh⟩ := bytes_head hne
  refine ⟨hp, ?_⟩
  rw [T_list] at hh
  have h2 := ratS_head (q := q)
  rw [hh] at h2
  by_cases h : q.num < 0
  · have h3 := h2.2 h
    injection h3 with h3
    rw [h3, decide_eq_true h]
    rfl
  · rw [decide_eq_false h]
    simp only [beq_eq_false_iff_ne, ne_eq]
    intro e
    refine h (h2.1 ?_)
    congr 1
    apply UInt8.toNat_inj.1
    have e2 : (45 : UInt8).toNat = 45 := rfl
    omega
theorem r2check_any (s t : ByteArray) (hs : s.size ≤ 1000000) (ht : t.size ≤ 1000000) (B : Nat) (w : World) (hB : B ≤ w.heap.size) (hT : PQ B w) :
    Calls Tryz.prog 253 #[.string s, .string t] w (Ret w (.int .i64 (bothQ s.data.toList t.data.toList))) := by
  have HT := hide hT
  have H1 := hide (fun w hB hT => r2Check_any s hs B w hB hT)
  have H2 := hide (fun w hB hT => r2Check_any t ht B w hB hT)
  unfold bothQ
  obtain ⟨x, hx⟩ : ∃ x, x = chkQ s.data.toList := ⟨_, rfl⟩
  obtain ⟨y, hy⟩ : ∃ x, x = chkQ t.data.toList := ⟨_, rfl⟩
  rw [← hx] at H1 ⊢
  rw [← hy] at H2 ⊢
  clear hx hy hT
  by_cases h : x = 0
  · subst h
    rw [if_pos rfl]
    go_enter Tryz.func253, Tryz.ntmps253
    go_wp2_with fail
    refine (H1.out _ hB HT.out).mono ?_
    rintro e w1 ⟨rfl, hb1⟩
    have HB1 := hide hb1
    clear hb1
    go_wp2_with fail
    refine (H2.out _ (Nat.le_trans hB HB1.out.size) (HT.out.on HB1.out hB)).mono ?_
    rintro e w2 ⟨rfl, hb2⟩
    have HB2 := hide (HB1.out.trans (hb2.mono HB1.out.size))
    clear hb2
    go_wp2_with fail
    go_ret
    exact ⟨rfl, HB2.out⟩
  · rw [if_neg h]
    have hne : (x != 0) = true := by simpa using h
    clear h
    go_enter Tryz.func253, Tryz.ntmps253
    go_wp2_with fail
    refine (H1.out _ hB HT.out).mono ?_
    rintro e w1 ⟨rfl, hb1⟩
    have HB1 := hide hb1
    clear hb1
    go_wp2_with fail
    go_ret
    exact ⟨rfl, HB1.out⟩
theorem r2check_T {x y : Rat} (fx : fitsQ x) (fy : fitsQ y) (B : Nat) (w : World) (hB : B ≤ w.heap.size) (hT : PQ B w) :
    Calls Tryz.prog 253 #[.string (T x), .string (T y)] w (Ret w (.int .i64 0)) := by
  have h := r2check_any (T x) (T y) (T_good fx).1 (T_good fy).1 B w hB hT
  rw [zero_bothQ (T_good fx).2.1 (T_good fy).2.1] at h
  exact h
theorem r2Add_T {x y : Rat} (fx : fitsQ x) (fy : fitsQ y) (B : Nat) (w : World) (hB : B ≤ w.heap.size) (hT : PQ B w) :
    Calls Tryz.prog 116 #[.string (T x), .string (T y)] w (Ret w (opV (addO x y))) := by
  have HT := hide hT
  have H1 := hide (fun w hB hT => r2check_T fx fy B w hB hT)
  have H2 := hide (fun w hB hT => r2add_T fx fy B w hB hT)
  obtain ⟨S, hS⟩ : ∃ s, s = T x := ⟨_, rfl⟩
  obtain ⟨U, hU⟩ : ∃ s, s = T y := ⟨_, rfl⟩
  rw [← hS, ← hU] at H1 H2 ⊢
  clear hS hU hT fx fy
  generalize addO x y = O at H2 ⊢
  cases O
  all_goals
    unfold opV at H2 ⊢
    dsimp only at H2 ⊢
    go_enter Tryz.func116, Tryz.ntmps116
    go_wp2_with fail
    refine (H1.out _ hB HT.out).mono ?_
    rintro e w1 ⟨rfl, hb1⟩
    have HB1 := hide hb1
    clear hb1
    go_wp2_with fail
    refine (H2.out _ (Nat.le_trans hB HB1.out.size) (HT.out.on HB1.out hB)).mono ?_
    rintro e w2 ⟨rfl, hb2⟩
    have HB2 := hide (HB1.out.trans (hb2.mono HB1.out.size))
    clear hb2
    go_wp2_with fail
    refine bodyPost_ret (results_tmp2 rfl _ _ _) rfl ?_
    exact ⟨rfl, HB2.out⟩
def mulI (n d m c : Int) : Option Rat := if fits (n * m) ∧ fits (d * c) then some (Rat.divInt (n * m) (d * c)) else none
theorem r2mul_I {n d m c : Int} (fn : fits n) (fd : fits d) (fm : fits m) (fc : fits c) (hd : d * c ≠ 0) (B : Nat) (w : World) (hB : B ≤ w.heap.size) (hT : P10 B w) :
    Calls Tryz.prog 254 #[.string (iB n), .string (iB d), .string (iB m), .string (iB c)] w (Ret w (opV (mulI n d m c))) := by
  have HT := hide hT
  unfold mulI
  have HPY := hide (fun (h : fits (n * m) ∧ fits (d * c)) w hB hT => r2products_yes fn fm fd fc h.1 h.2 B w hB hT)
  have HPN := hide (fun (h : ¬ (fits (n * m) ∧ fits (d * c))) w hB hT => r2products_no fn fm fd fc h B w hB hT)
  have HMK := hide (fun (h : fits (n * m) ∧ fits (d * c)) w hB hT => r2make_any hd h.1 h.2 B w hB hT)
  obtain ⟨NB, hNB⟩ : ∃ s, s = iB n := ⟨_, rfl⟩
  obtain ⟨DB, hDB⟩ : ∃ s, s = iB d := ⟨_, rfl⟩
  obtain ⟨MB, hMB⟩ : ∃ s, s = iB m := ⟨_, rfl⟩
  obtain ⟨CB, hCB⟩ : ∃ s, s = iB c := ⟨_, rfl⟩
  obtain ⟨PB, hPB⟩ : ∃ s, s = iB (n * m) := ⟨_, rfl⟩
  obtain ⟨QB, hQB⟩ : ∃ s, s = iB (d * c) := ⟨_, rfl⟩
  simp only [← hNB, ← hDB, ← hMB, ← hCB, ← hPB, ← hQB] at HPY HPN HMK ⊢
  clear hNB hDB hMB hCB hPB hQB fn fd fm fc hd hT
  by_cases h : fits (n * m) ∧ fits (d * c)
  · rw [if_pos h]
    have H1 := hide (HPY.out h)
    have H2 := hide (HMK.out h)
    unfold opV
    dsimp only
    clear HPY HPN HMK h
    go_enter Tryz.func254, Tryz.ntmps254
    go_wp2_with fail
    refine (H1.out _ hB HT.out).mono ?_
    rintro e w1 ⟨rfl, hb1⟩
    have HB1 := hide hb1
    clear hb1
    go_wp2_with fail
    refine (H2.out _ (Nat.le_trans hB HB1.out.size) (HT.out.on HB1.out hB)).mono ?_
    rintro e w2 ⟨rfl, hb2⟩
    have HB2 := hide (HB1.out.trans (hb2.mono HB1.out.size))
    clear hb2
    go_wp2_with fail
    refine bodyPost_ret (results_tmp2 rfl _ _ _) rfl ?_
    exact ⟨rfl, HB2.out⟩
  · rw [if_neg h]
    have HN := hide (HPN.out h)
    unfold opV
    dsimp only
    clear HPY HPN HMK h
    go_enter Tryz.func254, Tryz.ntmps254
    go_wp2_with fail
    obtain ⟨X, Y, hXY⟩ := HN.out _ hB HT.out
    refine hXY.mono ?_
    rintro e w1 ⟨rfl, hb1⟩
    have HB1 := hide hb1
    clear hb1 hXY
    go_wp2_with fail
    refine bodyPost_ret (results_tmp2 rfl _ _ _) rfl ?_
    exact ⟨rfl, HB1.out⟩
theorem ints_long {x y : Rat} (fx : fitsQ x) (fy : fitsQ y) (hs : ¬ (shortQ x ∧ shortQ y)) : ∃ v1 v2 : Int, ∃ b1 b2 : Bool, ∃ v3 v4 : Int, Hid (∀ w, Calls Tryz.prog 245 #[.string (T x)] w (Ret w (.tuple #[.int .i64 v1, .int .i64 v2, .bool b1]))) ∧ Hid (∀ w, Calls Tryz.prog 245 #[.string (T y)] w (Ret w (.tuple #[.int .i64 v3, .int .i64 v4, .bool b2]))) ∧ (b1 = false ∨ (b1 = true ∧ b2 = false)) := by
  have HI1 := fun w => r2ints_T fx w
  have HI2 := fun w => r2ints_T fy w
  unfold intsQ at HI1 HI2
  by_cases h1 : shortQ x
  · have h2 : ¬ shortQ y := fun e => hs ⟨h1, e⟩
    rw [if_pos h1] at HI1
    rw [if_neg h2] at HI2
    exact ⟨_, _, _, _, _, _, hide HI1, hide HI2, .inr ⟨rfl, rfl⟩⟩
  · rw [if_neg h1] at HI1
    by_cases h2 : shortQ y
    · rw [if_pos h2] at HI2
      exact ⟨_, _, _, _, _, _, hide HI1, hide HI2, .inl rfl⟩
    · rw [if_neg h2] at HI2
      exact ⟨_, _, _, _, _, _, hide HI1, hide HI2, .inl rfl⟩
theorem ints_short {x : Rat} (fx : fitsQ x) (h : shortQ x) (w : World) : Calls Tryz.prog 245 #[.string (T x)] w (Ret w (.tuple #[.int .i64 x.num, .int .i64 (x.den : Int), .bool true])) := by
  have H := r2ints_T fx w
  unfold intsQ at H
  rw [if_pos h] at H
  exact H
theorem r2Mul_T {x y : Rat} (fx : fitsQ x) (fy : fitsQ y) (B : Nat) (w : World) (hB : B ≤ w.heap.size) (hT : PQ B w) :
    Calls Tryz.prog 202 #[.string (T x), .string (T y)] w (Ret w (opV (mulO x y))) := by
  have HT := hide hT
  have H1 := hide (fun w hB hT => r2check_T fx fy B w hB hT)
  by_cases hs : shortQ x ∧ shortQ y
  · have HI1 := hide (fun w => ints_short fx hs.1 w)
    have HI2 := hide (fun w => ints_short fy hs.2 w)
    obtain ⟨a1, a2⟩ := shortQ_lt hs.1
    obtain ⟨b1, b2⟩ := shortQ_lt hs.2
    have ap := x.den_pos
    have bp := y.den_pos
    rw [mulO_sz (short_sz hs.1) (short_sz hs.2) (by rw [most_eq]; omega)]
    unfold opV
    have hdiv := divInt_mul x y
    have m1 := prod9 (a := x.num) (b := y.num) a1 b1
    have m3 := prod9 (a := (x.den : Int)) (b := (y.den : Int)) (by omega) (by omega)
    have m4 : 0 < x.den * y.den := Nat.mul_pos ap bp
    have m5 : ((x.den * y.den : Nat) : Int) = (x.den : Int) * (y.den : Int) := by push_cast; rfl
    have HQ := hide (fun w => r2quick_any (x.num * y.num) (x.den * y.den) (by omega) (by omega) m4 w)
    rw [m5, hdiv] at HQ
    obtain ⟨R, hR⟩ : ∃ s, s = T (x * y) := ⟨_, rfl⟩
    have hR2 : strB (ratS (x * y)) = R := hR.symm
    rw [hR2] at HQ
    dsimp only
    rw [← hR]
    obtain ⟨S, hS⟩ : ∃ s, s = T x := ⟨_, rfl⟩
    obtain ⟨U, hU⟩ : ∃ s, s = T y := ⟨_, rfl⟩
    obtain ⟨n, hn⟩ : ∃ n, n = x.num := ⟨_, rfl⟩
    obtain ⟨d, hd⟩ : ∃ n, n = (x.den : Int) := ⟨_, rfl⟩
    obtain ⟨m, hm⟩ : ∃ n, n = y.num := ⟨_, rfl⟩
    obtain ⟨c, hc⟩ : ∃ n, n = (y.den : Int) := ⟨_, rfl⟩
    simp only [← hn, ← hd, ← hm, ← hc, ← hS, ← hU] at HI1 HI2 HQ m1 m3 H1 ⊢
    have v1 : IntKind.i64.wrap (n * m) = n * m := IntWalk.i64_in _ (by omega)
    have v3 : IntKind.i64.wrap (d * c) = d * c := IntWalk.i64_in _ (by omega)
    clear hR hR2 hdiv m1 m3 m4 m5 hs a1 a2 b1 b2 ap bp hn hd hm hc fx fy hS hU hT
    go_enter Tryz.func202, Tryz.ntmps202
    go_wp2_with fail
    refine (H1.out _ hB HT.out).mono ?_
    rintro e w1 ⟨rfl, hb1⟩
    have HB1 := hide hb1
    clear hb1
    go_wp2_with fail
    refine (HI1.out _).mono ?_
    rintro e w2 ⟨rfl, hb2⟩
    have HB2 := hide (HB1.out.trans (hb2.mono HB1.out.size))
    clear hb2
    go_wp2_with fail
    refine (HI2.out _).mono ?_
    rintro e w3 ⟨rfl, hb3⟩
    have HB3 := hide (HB2.out.trans (hb3.mono HB2.out.size))
    clear hb3
    go_wp2_with fail
    refine (HQ.out _).mono ?_
    rintro e w4 ⟨rfl, hb4⟩
    have HB4 := hide (HB3.out.trans (hb4.mono HB3.out.size))
    clear hb4
    go_wp2_with fail
    refine bodyPost_ret (results_tmp2 rfl _ _ _) rfl ?_
    exact ⟨rfl, HB4.out⟩
  · obtain ⟨i1, i2, b1, b2, i3, i4, HI1, HI2, hb⟩ := ints_long fx fy hs
    have HP1 := hide (fun w => r2parts_T fx w)
    have HP2 := hide (fun w => r2parts_T fy w)
    have hO : mulI x.num (x.den : Int) y.num (y.den : Int) = mulO x y := by
      unfold mulI mulO
      rw [divInt_mul]
      by_cases h : mulC x y
      · exact (if_pos h).trans (if_pos h).symm
      · exact (if_neg h).trans (if_neg h).symm
    have hdc : (x.den : Int) * (y.den : Int) ≠ 0 := by have := dens_pos x y; omega
    have HM := hide (fun w hB hT => r2mul_I fx.1 fx.2 fy.1 fy.2 hdc B w hB hT)
    rw [hO] at HM
    obtain ⟨S, hS⟩ : ∃ s, s = T x := ⟨_, rfl⟩
    obtain ⟨U, hU⟩ : ∃ s, s = T y := ⟨_, rfl⟩
    obtain ⟨NB, hNB⟩ : ∃ s, s = iB x.num := ⟨_, rfl⟩
    obtain ⟨DB, hDB⟩ : ∃ s, s = iB (x.den : Int) := ⟨_, rfl⟩
    obtain ⟨MB, hMB⟩ : ∃ s, s = iB y.num := ⟨_, rfl⟩
    obtain ⟨CB, hCB⟩ : ∃ s, s = iB (y.den : Int) := ⟨_, rfl⟩
    simp only [← hNB, ← hDB, ← hMB, ← hCB, ← hS, ← hU] at HI1 HI2 HP1 HP2 HM H1 ⊢
    clear hNB hDB hMB hCB hS hU hO hdc hs fx fy hT
    generalize mulO x y = O at HM ⊢
    cases O
    all_goals
      unfold opV at HM ⊢
      dsimp only at HM ⊢
      rcases hb with rfl | ⟨rfl, rfl⟩
      all_goals
        go_enter Tryz.func202, Tryz.ntmps202
        go_wp2_with fail
        refine (H1.out _ hB HT.out).mono ?_
        rintro e w1 ⟨rfl, hb1⟩
        have HB1 := hide hb1
        clear hb1
        go_wp2_with fail
        refine (HI1.out _).mono ?_
        rintro e w2 ⟨rfl, hb2⟩
        have HB2 := hide (HB1.out.trans (hb2.mono HB1.out.size))
        clear hb2
        go_wp2_with fail
        refine (HI2.out _).mono ?_
        rintro e w3 ⟨rfl, hb3⟩
        have HB3 := hide (HB2.out.trans (hb3.mono HB2.out.size))
        clear hb3
        go_wp2_with fail
        refine (HP1.out _).mono ?_
        rintro e w4 ⟨rfl, hb4⟩
        have HB4 := hide (HB3.out.trans (hb4.mono HB3.out.size))
        clear hb4
        go_wp2_with fail
        refine (HP2.out _).mono ?_
        rintro e w5 ⟨rfl, hb5⟩
        have HB5 := hide (HB4.out.trans (hb5.mono HB4.out.size))
        clear hb5
        go_wp2_with fail
        refine (HM.out _ (Nat.le_trans hB HB5.out.size) (HT.out.p10.on HB5.out hB)).mono ?_
        rintro e w6 ⟨rfl, hb6⟩
        have HB6 := hide (HB5.out.trans (hb6.mono HB5.out.size))
        clear hb6
        go_wp2_with fail
        refine bodyPost_ret (results_tmp2 rfl _ _ _) rfl ?_
        exact ⟨rfl, HB6.out⟩
end Go.Proofs.YtpmnhipffkhcpaaGreatDoor
namespace Go.KP
open Go
theorem region_class {P : Program} {C : World → Prop} {id : Nat} {Q : Exit → Act → World → Prop} {a : Act} {w : World} {l : List Oper} (hm : P.follows .mixedOrders = true) (hno : Region.noSelect l.toArray = true)
    (hlex : Region.lexFrom .any l.toArray l.length 0 (Array.replicate l.length false) = true) (hC : C { w with drawn := w.drawn + 1 })
    (h : wpQuiet P l.toArray C (fun a' => ∀ w', C w' → Q .normal a' w') l a) : (Code.region id l.toArray true).wp P Q a w := by
  refine wp_region_any hm ?_
  have h1 := wpAnyQ_lex (P := P) (C := C) (md := .any) hno l 0 (Array.replicate l.length false) a (by simp) hlex h
  have e : l.toArray.size = l.length := by simp
  rw [e]
  exact wpAny_of_quiet (C := C) (Q := fun a' => ∀ w', C w' → Q .normal a' w') (fun _ w' hw h => h w' hw) _ _ _ _ hC h1
end Go.KP
namespace Go.Proofs.YtpmnhipffkhcpaaGreatDoor
open Go.RowKit Go.KP Go.KI Go.Shelf
attribute [local go_sem] Oper.semAt_some

abbrev rpairV (n d : ByteArray) : Value := .agg #[.string n, .string d]
abbrev rpairO (n d : ByteArray) : Obj := .cells #[.string n, .string d] 212
def numB (q : Rat) : ByteArray := strB (Lib.itoa q.num)
def denB (q : Rat) : ByteArray := strB (Lib.itoa (q.den : Int))
theorem exit_rpair {f : Func} {R : Ending → World → Prop} {a : Act} {W : World} {b : Nat} {t : Tmp} {n d : ByteArray} (hf : f.results = #[.cell t 212]) (hb : W.heap[b]? = some (rpairO n d)) (h2 : a.tmps[t]? = some (.pointer (some ⟨b, 0, none⟩))) (hd : a.defers = []) (hR : R (.returned (rpairV n d)) W) :
    bodyPost Tryz.prog f R .ret a W := by
  have hcell := fun o => cell_blk hb o
  refine bodyPost_ret ?_ hd hR
  simp [results, hf, go_sem, hcell, h2]
theorem rOf_T {q : Rat} (fq : fitsQ q) (B : Nat) (w : World) (hB : B ≤ w.heap.size) (hT : PQ B w) :
    Calls Tryz.prog 166 #[.string (T q)] w (Ret w (rpairV (numB q) (denB q))) := by
  have HT := hide hT
  have H1 : Hid (∀ w, B ≤ w.heap.size → PQ B w → Calls Tryz.prog 225 #[.string (T q)] w (Ret w (.tuple #[.string (numB q), .string (denB q), .int .i64 0]))) := hide (fun w hB hT => by
    have h := qParts_any (T q) (T_good fq).1 B w hB hT
    obtain ⟨_, g2, g3⟩ := T_good fq
    unfold partsR at h
    rw [if_pos g2, g3] at h
    exact h)
  obtain ⟨X, hX⟩ : ∃ X, X = T q := ⟨_, rfl⟩
  obtain ⟨N, hN⟩ : ∃ X, X = numB q := ⟨_, rfl⟩
  obtain ⟨D, hD⟩ : ∃ X, X = denB q := ⟨_, rfl⟩
  rw [← hX, ← hN, ← hD] at H1 ⊢
  clear hX hN hD hT fq
  have X0 := hide (heap1 w (rpairO ⟨#[]⟩ ⟨#[]⟩))
  go_enter Tryz.func166, Tryz.ntmps166
  go_wp2_with fail
  refine (H1.out _ (Nat.le_trans hB X0.out.2.2.size) (HT.out.on X0.out.2.2 hB)).mono ?_
  rintro e w1 ⟨rfl, hb1⟩
  have A1 := hide (below_blk hb1 X0.out.1 (lt_blk X0.out.1))
  have HB1 := hide (X0.out.2.2.trans (hb1.mono X0.out.2.2.size))
  have a0 := cell_blk A1.out 0
  have a1 := cell_blk A1.out 1
  have f0 := froz_blk A1.out 0
  have f1 := froz_blk A1.out 1
  have al := lt_blk A1.out
  clear hb1
  go_wp2_with fail
  exact exit_rpair rfl (set2 A1.out _ _).1 rfl rfl ⟨rfl, (HB1.out.setCell (p := ⟨w.heap.size, 0, none⟩) (Nat.le_refl _) _).setCell (p := ⟨w.heap.size, 1, none⟩) (Nat.le_refl _) _⟩
def NumsAt (w : World) (b : Nat) (l : List Rat) : Prop := b < w.heap.size ∧ ∀ (i : Nat) q, l[i]? = some q → w.cell? ⟨b, i, none⟩ = some (.string (T q))
theorem NumsAt.below {w w2 : World} {b : Nat} {l : List Rat} {n : Nat} (h : NumsAt w b l) (hb : Below n w w2) (hn : b < n) : NumsAt w2 b l :=
  ⟨Nat.lt_of_lt_of_le h.1 hb.size, fun i q hq => by rw [← h.2 i q hq]; exact hb.cell (p := ⟨b, i, none⟩) hn⟩
def roomy (q : Rat) : Prop := fitsQ q ∧ (Lib.decDigits q.num.natAbs).length ≤ 90 ∧ (Lib.decDigits q.den).length ≤ 90
theorem roomy_of {q : Rat} {p : Nat} (h : sz p q) (hp : p ≤ 90) : roomy q := by
  exact ⟨sz_fits h (by rw [most_eq]; omega), (dec_len_le (n := 90) (by omega)).2 (sz_mono h hp).1, (dec_len_le (n := 90) (by omega)).2 (sz_mono h hp).2⟩
theorem rCheck_ok (b1 b2 : Nat) (l1 l2 : List Rat) (n1 : l1.length ≤ 1000) (n2 : l2.length ≤ 1000) (h1 : ∀ q ∈ l1, roomy q) (h2 : ∀ q ∈ l2, ¬ q.num < 0) (B : Nat) (w : World) (c1 : NumsAt w b1 l1) (c2 : NumsAt w b2 l2) (hB : B ≤ w.heap.size) (hT : PQ B w) :
    Calls Tryz.prog 164 #[.slice (some ⟨b1, 0, none⟩) l1.length l1.length, .slice (some ⟨b2, 0, none⟩) l2.length l2.length] w (Ret w (.int .i64 0)) := by
  have HT := hide hT
  obtain ⟨n, hn⟩ : ∃ n, n = l1.length := ⟨_, rfl⟩
  obtain ⟨m, hm⟩ : ∃ n, n = l2.length := ⟨_, rfl⟩
  rw [← hn] at n1 ⊢
  rw [← hm] at n2 ⊢
  have C1 := hide c1
  have C2 := hide c2
  have N1 := hide hn
  have N2 := hide hm
  have R1 := hide h1
  have R2 := hide h2
  clear c1 c2 hn hm h1 h2 hT
  go_enter Tryz.func164, Tryz.ntmps164
  go_wp2_with fail
  go_loopw [13] (fun i wr => ∃ k : Nat, k ≤ n ∧ i = .int .i64 k ∧ Hid (Below w.heap.size w wr)) (fun i _ => n - (intOf i).toNat)
  case atStart => exact ⟨0, Nat.zero_le _, rfl, Below.refl _ _⟩
  case round =>
    obtain ⟨k, hk, rfl, hin⟩ := hrel
    obtain ⟨wo, hwo⟩ : ∃ wo, wo = wr := ⟨_, rfl⟩
    subst hwo
    by_cases hlt : k < n
    · have hki : (k : Int) < (n : Int) := by omega
      have hk0 : (0 : Int) ≤ (k : Int) := by omega
      obtain ⟨q, hs⟩ : ∃ s, l1[k]? = some s := ⟨_, List.getElem?_eq_getElem (by rw [← N1.out]; exact hlt)⟩
      have hq := R1.out q (List.mem_of_getElem? hs)
      have hcell := (C1.out.below hin.out C1.out.1).2 k q hs
      have HC : Hid (∀ w, B ≤ w.heap.size → PQ B w → Calls Tryz.prog 224 #[.string (T q)] w (Ret w (.int .i64 0))) := hide (fun w hB hT => by
        have h := qCheck_any (T q) (T_good hq.1).1 B w hB hT
        rw [(T_good hq.1).2.1] at h
        exact h)
      have HO := hide (fun w hB hT => rOf_T hq.1 B w hB hT)
      obtain ⟨D, hD⟩ : ∃ X, X = denB q := ⟨_, rfl⟩
      obtain ⟨N, hN⟩ : ∃ X, X = numB q := ⟨_, rfl⟩
      have HTP := hide (fun w => trimPrefix_any N w)
      rw [show N.data.toList = Lib.itoa q.num by rw [hN]; exact strB_list _, digs_itoa] at HTP
      have hDs : (D.size : Int) ≤ 90 := by
        have := hq.2.2
        rw [hD]
        unfold denB
        rw [strB_size, Lib.itoa_nonneg]
        omega
      obtain ⟨M, hM⟩ : ∃ X, X = strB (Lib.decDigits q.num.natAbs) := ⟨_, rfl⟩
      have hMs : (M.size : Int) ≤ 90 := by
        have := hq.2.1
        rw [hM, strB_size]
        omega
      have hmx : ((90 : Int) < max (M.size : Int) (D.size : Int)) = False := eq_false (by omega)
      obtain ⟨X, hX⟩ : ∃ X, X = T q := ⟨_, rfl⟩
      rw [← hM] at HTP
      rw [← hN, ← hD] at HO
      rw [← hX] at HO HC hcell
      clear hs hq hD hN hM hX hlt
      go_wp2_with fail
      refine (HC.out _ (Nat.le_trans hB hin.out.size) (HT.out.on hin.out hB)).mono ?_
      rintro e w1 ⟨rfl, hb1⟩
      have HB1 := hide (hin.out.trans (hb1.mono hin.out.size))
      clear hb1 hcell
      go_wp2_with fail
      refine (HO.out _ (Nat.le_trans hB HB1.out.size) (HT.out.on HB1.out hB)).mono ?_
      rintro e w2 ⟨rfl, hb2⟩
      have X2 := hide (heap1 w2 (rpairO N D))
      have G2 := hide X2.out.1
      have HB2 := hide (HB1.out.trans ((hb2.trans (X2.out.2.2.mono hb2.size)).mono HB1.out.size))
      clear hb2
      go_wp2_with fail
      obtain ⟨W, hW⟩ : ∃ W, W = w2.alloc (rpairO N D) := ⟨_, rfl⟩
      rw [← hW] at G2 HB2 ⊢
      clear hW X2
      have HTC := hide (fun (x : Of (Below W.heap.size W)) => show Calls Tryz.prog 233 #[.string N, .string ⟨#[45]⟩] x.w fun e w' => e = .returned (.string M) ∧ Cls (Below W.heap.size W) w' from (HTP.out x.w).mono fun _ _ ⟨h, hb⟩ => ⟨h, by rw [← hb]; exact Cls.mk x.h⟩)
      have hx1 : ∀ x : Of (Below W.heap.size W), ∀ o, x.w.cell? ⟨w2.heap.size, o, none⟩ = W.cell? ⟨w2.heap.size, o, none⟩ := fun x o => x.h.cell (p := ⟨w2.heap.size, o, none⟩) (lt_blk G2.out)
      have cc1 := fun o => cell_blk G2.out o
      have kn : Nonempty (Of (Below W.heap.size W)) := ⟨⟨_, Below.refl _ _⟩⟩
      refine region_class (C := Cls (Below W.heap.size W)) (by kernel_rfl) (by kernel_rfl) (by kernel_rfl) (Cls.mk (Below.refl _ _).drew) ?_
      repeat (go_big_quiet_step (first | rfl | with_reducible exact HTC.out _))
      refine wpQuiet_nil ?_
      intro w3 hcl
      have HB3 := hide (HB2.out.trans (hcl.out.mono HB2.out.size))
      clear hcl hx1 cc1 HTC kn
      go_wp2_with fail
      go_roundw
      case rel => exact ⟨k + 1, by omega, by simp, HB3.out⟩
      case measure => simp [intOf]; omega
    · obtain rfl : k = n := by omega
      have hki : ((k : Int) < (k : Int)) = False := eq_false (by omega)
      clear hlt
      go_wp2_with fail
      go_loopw [36] (fun i wr => ∃ k : Nat, k ≤ m ∧ i = .int .i64 k ∧ wr = wo) (fun i _ => m - (intOf i).toNat)
      case atStart => exact ⟨0, Nat.zero_le _, rfl, rfl⟩
      case round =>
        obtain ⟨j, hj, rfl, rfl⟩ := hrel
        by_cases hlt : j < m
        · have hji : (j : Int) < (m : Int) := by omega
          have hj0 : (0 : Int) ≤ (j : Int) := by omega
          obtain ⟨q, hs⟩ : ∃ s, l2[j]? = some s := ⟨_, List.getElem?_eq_getElem (by rw [← N2.out]; exact hlt)⟩
          have hq := R2.out q (List.mem_of_getElem? hs)
          have hcell := (C2.out.below hin.out C2.out.1).2 j q hs
          have HN := hide (rNegative_at (T q) wr)
          have e : ((T q).data.toList.head? == some 45) = false := by
            rw [T_list]
            simp only [beq_eq_false_iff_ne, ne_eq]
            exact fun e => by have := ratS_head.1 e; omega
          rw [e] at HN
          clear hs hq e hlt
          go_wp2_with fail
          refine HN.out.mono ?_
          rintro e w1 ⟨rfl, rfl⟩
          go_wp2_with fail
          go_roundw
          case rel => exact ⟨j + 1, by omega, by simp, trivial⟩
          case measure => simp [intOf]; omega
        · obtain rfl : j = m := by omega
          have hji : ((j : Int) < (j : Int)) = False := eq_false (by omega)
          clear hlt
          go_wp2_with fail
          go_ret
          exact ⟨rfl, hin.out⟩
def normC (q : Rat) : Rat := Rat.divInt (normN (q.num.toNat * q.den)).1 q.den
def normL (q : Rat) : Nat := (normN (q.num.toNat * q.den)).2
theorem rNormal_small {q : Rat} (fq : roomy q) (h0 : 0 < q.num) (hs : (numB q).size + (denB q).size ≤ 17) (B : Nat) (w : World) (hB : B ≤ w.heap.size) (hT : PR B w) :
    Calls Tryz.prog 162 #[.string (T q)] w (Ret w (.tuple #[.string (T (normC q)), .string (strB (Lib.itoa (normL q))), .int .i64 0])) := by
  have HT := hide hT
  have X0 := hide (heap2 w (.cells #[.string (T q)] 22) (.cells #[.string (T q)] 22))
  have HC := hide (rCheck_ok w.heap.size (w.heap.size + 1) [q] [q] (by simp) (by simp) (fun x hx => by simp at hx; rw [hx]; exact fq) (fun x hx => by simp at hx; rw [hx]; omega) B _ ⟨lt_blk X0.out.1, fun i x hx => by
    cases i with
    | zero => simp at hx; rw [← hx]; exact cell_blk X0.out.1 0
    | succ i => simp at hx⟩ ⟨lt_blk X0.out.2.1, fun i x hx => by
    cases i with
    | zero => simp at hx; rw [← hx]; exact cell_blk X0.out.2.1 0
    | succ i => simp at hx⟩ (Nat.le_trans hB X0.out.2.2.2.size) (hT.pq.on X0.out.2.2.2 hB))
  have HO := hide (fun w hB hT => rOf_T fq.1 B w hB hT)
  have hn : q.num = ((q.num.toNat : Nat) : Int) := by omega
  obtain ⟨n, hnn⟩ : ∃ n, n = q.num.toNat := ⟨_, rfl⟩
  obtain ⟨d, hdd⟩ : ∃ n, n = q.den := ⟨_, rfl⟩
  have hd0 : 0 < d := by rw [hdd]; exact q.den_pos
  have hn0 : 0 < n := by omega
  obtain ⟨N, hN⟩ : ∃ X, X = numB q := ⟨_, rfl⟩
  obtain ⟨D, hD⟩ : ∃ X, X = denB q := ⟨_, rfl⟩
  have eN : N.data.toList = Lib.itoa (n : Int) := by rw [hN]; unfold numB; rw [strB_list, hn, ← hnn]
  have eD : D.data.toList = Lib.itoa (d : Int) := by rw [hD]; unfold denB; rw [strB_list, ← hdd]
  rw [← hN, ← hD] at hs HO
  have szN : (Lib.decDigits n).length = N.size := by rw [← bytes_len, eN, Lib.itoa_nonneg]
  have szD : (Lib.decDigits d).length = D.size := by rw [← bytes_len, eD, Lib.itoa_nonneg]
  have p1 := dec_lt n
  have p2 := dec_lt d
  have hprod : n * d < 1000000000000000000 := by
    have h1 : n * d ≤ 10 ^ (Lib.decDigits n).length * 10 ^ (Lib.decDigits d).length := Nat.mul_le_mul (Nat.le_of_lt p1) (Nat.le_of_lt p2)
    rw [← Nat.pow_add] at h1
    have h2 : 10 ^ ((Lib.decDigits n).length + (Lib.decDigits d).length) ≤ 10 ^ 17 := Nat.pow_le_pow_right (by omega) (by omega)
    have h3 : (10 : Nat) ^ 17 = 100000000000000000 := by decide
    omega
  have gN : chkI N.data.toList = 0 ∧ valI N.data.toList = (n : Int) := by rw [eN]; exact ⟨chk_fits (fits_nat.2 (by omega)), val_itoa _⟩
  have gD : chkI D.data.toList = 0 ∧ valI D.data.toList = (d : Int) := by rw [eD]; exact ⟨chk_fits (fits_nat.2 (by omega)), val_itoa _⟩
  have H1 := hide (fun w => rNative_yes N gN.1 (by have := dec_len_pos d; omega) w)
  have H2 := hide (fun w => rNative_yes D gD.1 (by have := dec_len_pos n; omega) w)
  rw [gN.2] at H1
  rw [gD.2] at H2
  have HN := hide (fun w hB hT => rNativeNormal_any n d hn0 hd0 hprod B w hB hT)
  have eV : T (normC q) = strB (ratS (Rat.divInt (normN (n * d)).1 d)) := by unfold T normC; rw [← hnn, ← hdd]
  have eL : strB (Lib.itoa (normL q)) = strB (Lib.itoa (normN (n * d)).2) := by unfold normL; rw [← hnn, ← hdd]
  rw [eV, eL]
  obtain ⟨V1, hV1⟩ : ∃ V, V = strB (ratS (Rat.divInt (normN (n * d)).1 d)) := ⟨_, rfl⟩
  obtain ⟨V2, hV2⟩ : ∃ V, V = strB (Lib.itoa (normN (n * d)).2) := ⟨_, rfl⟩
  rw [← hV1, ← hV2] at HN ⊢
  have hz : (N.toList == [48]) = false := (lit_eq eN).2 (by
    rw [Lib.itoa_nonneg, ← dec_zero]
    exact fun e => by have := dec_inj e; omega)
  obtain ⟨X, hX⟩ : ∃ X, X = T q := ⟨_, rfl⟩
  rw [← hX] at HC HO X0 ⊢
  have hsz : (N.size : Int) + (D.size : Int) ≤ 17 := by omega
  clear eV eL hV1 hV2 gN gD hprod p1 p2 szN szD eN eD hN hD hn hnn hdd hs fq h0 hT hX
  go_enter Tryz.func162, Tryz.ntmps162
  go_wp2_with fail
  refine HC.out.mono ?_
  rintro e w1 ⟨rfl, hb1⟩
  have HB1 := hide (X0.out.2.2.2.trans (hb1.mono X0.out.2.2.2.size))
  clear hb1 HC X0
  go_wp2_with fail
  refine (HO.out _ (Nat.le_trans hB HB1.out.size) (HT.out.on HB1.out hB).pq).mono ?_
  rintro e w2 ⟨rfl, hb2⟩
  have X2 := hide (heap1 w2 (rpairO N D))
  have G2 := hide X2.out.1
  have HB2 := hide (HB1.out.trans ((hb2.trans (X2.out.2.2.mono hb2.size)).mono HB1.out.size))
  clear hb2 X2
  have k0 := cell_blk G2.out 0
  have k1 := cell_blk G2.out 1
  have kl := lt_blk G2.out
  go_wp2_with fail
  refine (H1.out _).mono ?_
  rintro e w3 ⟨rfl, hb3⟩
  have G3 := hide (below_blk hb3 G2.out (lt_blk G2.out))
  have HB3 := hide (HB2.out.trans (hb3.mono HB2.out.size))
  clear hb3 k0 k1 kl
  have k1 := cell_blk G3.out 1
  have kl := lt_blk G3.out
  go_wp2_with fail
  refine (H2.out _).mono ?_
  rintro e w4 ⟨rfl, hb4⟩
  have HB4 := hide (HB3.out.trans (hb4.mono HB3.out.size))
  clear hb4 k1 kl
  go_wp2_with fail
  refine (HN.out _ (Nat.le_trans hB HB4.out.size) (HT.out.on HB4.out hB)).mono ?_
  rintro e w5 ⟨rfl, hb5⟩
  have HB5 := hide (HB4.out.trans (hb5.mono HB4.out.size))
  clear hb5
  go_wp2_with fail
  go_ret3
  exact ⟨rfl, HB5.out⟩
open Go.RowKit Go.KP Go.KI Go.Shelf
attribute [local go_sem] Oper.semAt_some

theorem Root_small (s : ByteArray) (n : Nat) (B : Nat) (w : World) (c1 : chkI s.data.toList = 0) (hs : s.size ≤ 18) (hn : valI s.data.toList = (n : Int)) (h0 : 0 < n) (hB : B ≤ w.heap.size) (hT : P10 B w) :
    Calls Tryz.prog 177 #[.string s] w (Ret w (pairV (Lib.itoa ((rootN n : Nat) : Int)) 0)) := by
  have HT := hide hT
  have H1 := hide (check_any s (by omega) w)
  rw [c1] at H1
  have HSR := hide (fun w2 (hb : Below w.heap.size w w2) => smallRoot_any s n B w2 c1 hs hn h0 (Nat.le_trans hB hb.size) (hT.on hb hB))
  have HRD := hide (fun w => read_good s c1 w)
  have hsi := (chk_ok c1).1
  rw [hn, Lib.itoa_nonneg] at hsi
  have hne : s.data.toList ≠ [] := by rw [hsi]; exact decDigits_ne _
  obtain ⟨hp, hh⟩ := bytes_head hne
  have hp0 : (0 : Int) < (s.size : Int) := by omega
  have h45 : ((s[0].toNat : Int) == 45) = false := by
    have h1 : s[0] ≠ 45 := fun e => by
      rw [e, hsi] at hh
      exact dec_head45 _ hh
    have : s[0].toNat ≠ 45 := fun h => h1 (UInt8.toNat_inj.1 h)
    simp only [beq_eq_false_iff_ne, ne_eq]
    omega
  have hz : (s.toList == [48]) = false := by
    rw [ByteArray.toList_eq]
    have : s.data.toList ≠ [48] := fun e => by
      have h2 := hn
      rw [e, ← itoa_zero, val_itoa] at h2
      omega
    simpa using this
  have hl18 : (s.size : Int) ≤ 18 := by omega
  clear hsi hne hh c1 hs hn hT
  have hfd : ∀ (w : World) (m : Bool) (a : Option Addr) (n c : Nat), (Instr.field 263 (.agg #[.bool m, .slice a n c]) 1).run Tryz.prog w = .ok (.slice a n c) w := fun _ _ _ _ _ => by kernel_rfl
  go_enter Tryz.func177, Tryz.ntmps177
  go_wp2_with fail
  refine H1.out.mono ?_
  rintro e w1 ⟨rfl, hb1⟩
  have HB1 := hide hb1
  clear hb1 H1
  go_wp2_with fail
  refine (HRD.out _).mono ?_
  rintro e w2 ⟨m1, a1, l1, rfl, hb2, o1, n1, q1, k1⟩
  obtain ⟨av, cv, hvf, _, _⟩ := o1.form
  subst hvf
  have HB2 := hide (HB1.out.trans (hb2.mono HB1.out.size))
  clear hb2 HRD o1 n1 q1 HB1 k1
  go_wp2_with fail
  refine (HSR.out _ HB2.out).mono ?_
  rintro e w3 ⟨rfl, hb3⟩
  have HB3 := hide (HB2.out.trans (hb3.mono HB2.out.size))
  clear hb3 HSR HB2
  go_wp2_with fail
  refine bodyPost_ret (results_tmp2 rfl _ _ _) rfl ?_
  exact ⟨rfl, HB3.out⟩
open Go.RowKit Go.KP Go.KI Go.Shelf
attribute [local go_sem] Oper.semAt_some

theorem dv_zeros (k : Nat) : dv ([49] ++ List.replicate k 48) = 10 ^ k := by
  have hz : ∀ n, dv (List.replicate n (48 : UInt8)) = 0 := by
    intro n
    induction n with
    | zero => rfl
    | succ n ih => rw [List.replicate_succ', dv_snoc, ih]; rfl
  rw [dv_append, hz, List.length_replicate]
  show (0 * 10 + (49 - 48)) * 10 ^ k + 0 = 10 ^ k
  omega
theorem start_text (k : Nat) (hk : k ≤ 200) : chkI ([49] ++ List.replicate k 48) = 0 ∧ valI ([49] ++ List.replicate k 48) = ((10 ^ k : Nat) : Int) := by
  have e : [49] ++ List.replicate k 48 = Lib.itoa ((10 ^ k : Nat) : Int) := by
    rw [Lib.itoa_nonneg]
    have h := dec_of (l := [49] ++ List.replicate k 48) (by simp) (fun c hc => by
      rcases List.mem_append.1 hc with h | h
      · simp at h; rw [h]; rfl
      · rw [List.eq_of_mem_replicate h]; rfl) (fun _ => by simp)
    rw [dv_zeros] at h
    exact h
  rw [e, val_itoa]
  refine ⟨chk_fits (fits_small (n := 201) (by rw [most_eq]; omega) ?_), rfl⟩
  rw [Int.natAbs_natCast]
  exact (Nat.pow_lt_pow_iff_right (by omega)).2 (by omega)
theorem root_start {n k len : Nat} (h : n < 10 ^ len) (hk : len ≤ 2 * k) : rootN n ≤ 10 ^ k := by
  refine root_le_of ?_
  have h1 : (10 : Nat) ^ len ≤ 10 ^ (2 * k) := Nat.pow_le_pow_right (by omega) hk
  have h2 : (10 : Nat) ^ (2 * k) = 10 ^ k * 10 ^ k := by rw [← Nat.pow_add]; congr 1; omega
  have h3 : 10 ^ k * 10 ^ k ≤ (10 ^ k + 1) * (10 ^ k + 1) := Nat.mul_le_mul (by omega) (by omega)
  omega
theorem two_lt : Norm 1000000000 [2] := ⟨fun z hz => by simp at hz; omega, .inr (by decide)⟩
theorem Root_long (s : ByteArray) (n : Nat) (B : Nat) (w : World) (c1 : chkI s.data.toList = 0) (hs : 18 < s.size) (hn : valI s.data.toList = (n : Int)) (h0 : 0 < n) (hB : B ≤ w.heap.size) (hT : P10 B w) :
    Calls Tryz.prog 177 #[.string s] w (Ret w (pairV (resS ((rootN n : Nat) : Int)) (resE ((rootN n : Nat) : Int)))) := by
  have HT := hide hT
  have l1' := (chk_digs c1).2
  rw [bytes_len] at l1'
  have H1 := hide (check_any s (by omega) w)
  rw [c1] at H1
  have HRD := hide (fun w => read_good s c1 w)
  have hsi := (chk_ok c1).1
  rw [hn, Lib.itoa_nonneg] at hsi
  have hne : s.data.toList ≠ [] := by rw [hsi]; exact decDigits_ne _
  obtain ⟨hp, hh⟩ := bytes_head hne
  have hp0 : (0 : Int) < (s.size : Int) := by omega
  have h45 : ((s[0].toNat : Int) == 45) = false := by
    have h1 : s[0] ≠ 45 := fun e => by
      rw [e, hsi] at hh
      exact dec_head45 _ hh
    have : s[0].toNat ≠ 45 := fun h => h1 (UInt8.toNat_inj.1 h)
    simp only [beq_eq_false_iff_ne, ne_eq]
    omega
  have hz : (s.toList == [48]) = false := by
    rw [ByteArray.toList_eq]
    have : s.data.toList ≠ [48] := fun e => by
      have h2 := hn
      rw [e, ← itoa_zero, val_itoa] at h2
      omega
    simpa using this
  have hl18 : ((s.size : Int) ≤ 18) = False := eq_false (by omega)
  obtain ⟨k, hk⟩ : ∃ k, k = (s.size + 1) / 2 := ⟨_, rfl⟩
  have hki : ((s.size : Int) + 1) / 2 = (k : Int) := by omega
  have hkl : k ≤ 200 := by omega
  obtain ⟨st1, st2⟩ := start_text k hkl
  obtain ⟨rp, hrp⟩ : ∃ rp, rp = strB (Lib.repeatL [48] k) := ⟨_, rfl⟩
  have hrpl : rp.data.toList = List.replicate k 48 := by rw [hrp, strB_list, repeat48]
  have hrps : rp.size ≤ 200 := by rw [← bytes_len, hrpl, List.length_replicate]; exact hkl
  have HRP := hide (fun w => repeat_any ⟨#[48]⟩ k w (by omega) (by decide))
  rw [show (⟨#[48]⟩ : ByteArray).data.toList = [48] from rfl, ← hrp] at HRP
  have hcat : ((⟨#[49]⟩ : ByteArray) ++ rp).data.toList = [49] ++ List.replicate k 48 := by
    rw [← hrpl]
    simp
  rw [← hcat] at st1 st2
  have HRX := hide (fun w => read_good (⟨#[49]⟩ ++ rp) st1 w)
  have HST := hide (show rootN n ≤ 10 ^ k by
    refine root_start (len := s.size) ?_ (by omega)
    have := dec_lt n
    rw [← hsi, bytes_len] at this
    exact this)
  have hcs : (9223372036854775807 < (⟨#[49]⟩ : ByteArray).size + rp.size) = False := eq_false (by
    have : (⟨#[49]⟩ : ByteArray).size = 1 := rfl
    omega)
  have HS2 := hide st2; have H0 := hide h0; have HN := hide hn
  have hfd : ∀ (w : World) (m : Bool) (a : Option Addr) (n c : Nat), (Instr.field 263 (.agg #[.bool m, .slice a n c]) 1).run Tryz.prog w = .ok (.slice a n c) w := fun _ _ _ _ _ => by kernel_rfl
  clear hsi hne hh c1 hs hn hT l1' hk st1 st2 hrp hrpl hcat h0
  go_enter Tryz.func177, Tryz.ntmps177
  go_wp2_with fail
  refine H1.out.mono ?_
  rintro e w1 ⟨rfl, hb1⟩
  have HB1 := hide hb1
  clear hb1 H1
  go_wp2_with fail
  refine (HRD.out _).mono ?_
  rintro e w2 ⟨m1, a1, l1, rfl, hb2, o1, n1, q1, k1⟩
  obtain ⟨av, cv, hvf, _, _⟩ := o1.form
  subst hvf
  have HB2 := hide (HB1.out.trans (hb2.mono HB1.out.size))
  have O1 := hide (LimbAt.of_own o1); have N1 := hide n1
  have E1 := hide (show lv 1000000000 l1 = n by
    have h := HN.out
    rw [← q1] at h
    have := valS_abs m1 (lv 1000000000 l1)
    rw [h] at this
    omega)
  clear hb2 HRD o1 n1 q1 HB1
  go_wp2_with fail
  refine (HRP.out _).mono ?_
  rintro e w3 ⟨rfl, hb3⟩
  have O3 := hide ((O1.out.below hb3 (Nat.le_refl _)).mono hb3.size)
  have HB3 := hide (HB2.out.trans (hb3.mono HB2.out.size))
  clear hb3 HRP HB2 O1
  go_wp2_with fail
  refine (HRX.out _).mono ?_
  rintro e w4 ⟨m2, a2, l2, rfl, hb4, o2, n2, q2, k2⟩
  obtain ⟨av2, cv2, hvf, _, _⟩ := o2.form
  subst hvf
  have O4 := hide ((O3.out.below hb4 (Nat.le_refl _)).mono hb4.size)
  have HB4 := hide (HB3.out.trans (hb4.mono HB3.out.size))
  have O2 := hide (LimbAt.of_own o2); have N2 := hide n2
  have E2 := hide (show rootN n ≤ lv 1000000000 l2 by
    rw [HS2.out] at q2
    have := valS_abs m2 (lv 1000000000 l2)
    rw [q2, Int.natAbs_natCast] at this
    rw [← this]
    exact HST.out)
  clear hb4 o2 n2 q2 HRX O3 HB3
  go_wp2_with fail
  clear hfd
  go_loopw [6] (fun p wr => ∃ (ap : Option Addr) (cp : Nat) (x : List Nat), p = .slice ap x.length cp ∧ x.length ≤ 50 ∧ Hid (LimbAt wr.heap.size wr (.slice ap x.length cp) x ∧ Norm 1000000000 x ∧ rootN n ≤ lv 1000000000 x ∧ Below w4.heap.size w4 wr)) (fun p wr => lv 1000000000 (limbsAt wr p))
  case atStart => exact ⟨av2, cv2, l2, rfl, by omega, O2.out, N2.out, E2.out, Below.refl _ _⟩
  case round =>
    clear O2 N2 E2 k2
    obtain ⟨ap, cp, x, rfl, hx, hin⟩ := hrel
    have I1 := hide hin.out.1; have N3 := hide hin.out.2.1; have RX := hide hin.out.2.2.1; have HBW := hide hin.out.2.2.2
    clear hin
    have HM0 := hide (limbsAt_eq I1.out)
    have hxp : 0 < lv 1000000000 x := Nat.lt_of_lt_of_le (root_pos H0.out) RX.out
    have hxne : x ≠ [] := fun e => by rw [e] at hxp; exact absurd hxp (by decide)
    have HXP := hide hxp
    have HD := hide (divide_any (.slice av l1.length cv) (.slice ap x.length cp) l1 x wr.heap.size wr ((O4.out.below HBW.out (Nat.le_refl _)).mono HBW.out.size) I1.out (Nat.le_refl _) N1.out N3.out hxne (by omega) (by omega))
    clear hxp hxne
    go_wp2_with fail
    refine HD.out.mono ?_
    rintro e w5 ⟨vq, vr, q, r, rfl, hb5, oq, or_, nq, nr, eq, er, lq, lr⟩
    obtain ⟨aq, cq, hvf⟩ := oq.form
    subst hvf
    obtain ⟨ar, cr, hvf⟩ := or_.form
    subst hvf
    rw [E1.out] at eq
    have J1 := hide ((I1.out.below hb5 (Nat.le_refl _)).mono hb5.size)
    have HB5 := hide (HBW.out.trans (hb5.mono HBW.out.size))
    have HC := hide (combine_any 300 plusP plusFn (.slice ap x.length cp) (.slice aq q.length cq) x q w5.heap.size w5 J1.out oq (Nat.le_refl _) N3.out.lt nq.lt (by omega) (by omega))
    have hsum := plus_lv N3.out.lt nq.lt
    rw [eq] at hsum
    obtain ⟨l3, hl3⟩ : ∃ l, l = trimL (combL plusP x q) := ⟨_, rfl⟩
    rw [← hl3] at HC hsum
    have h3l : l3.length ≤ 200 := by
      have := hsum.2.2
      omega
    have N4 := hide hsum.1; have E3 := hide hsum.2.1
    clear hb5 oq or_ nq nr eq er lq lr HD I1 HBW hsum hl3
    go_wp2_with fail
    refine HC.out.mono ?_
    rintro e w6 ⟨v3, rfl, hb6, o3⟩
    obtain ⟨av3, cv3, hvf, _, _⟩ := o3.form
    subst hvf
    obtain ⟨g0, gs0, gb0⟩ := heap1 w6 (rowO [2])
    have HBa := hide ((hb6.trans (gb0.mono hb6.size)))
    have HD2 := hide (divide_any (.slice av3 l3.length cv3) (.slice (some ⟨w6.heap.size, 0, none⟩) 1 1) l3 [2] (w6.alloc (rowO [2])).heap.size (w6.alloc (rowO [2])) (LimbAt.of_own (o3.keep gb0)) (row_limbs g0 (by unfold maxLen; simp)) (Nat.le_refl _) N4.out two_lt (by simp) (by omega) (by simp))
    have HB6 := hide (HB5.out.trans (HBa.out.mono HB5.out.size))
    have J2 := hide ((J1.out.below HBa.out (Nat.le_refl _)).mono HBa.out.size)
    clear hb6 o3 g0 gs0 gb0 HC HB5 J1 HBa
    go_wp2_with fail
    refine HD2.out.mono ?_
    rintro e w7 ⟨vq, vr, q2, r2, rfl, hb7, oq, or_, nq, nr, eq, er, lq, lr⟩
    obtain ⟨aq2, cq2, hvf⟩ := oq.form
    subst hvf
    obtain ⟨ar2, cr2, hvf⟩ := or_.form
    subst hvf
    have eq2 : lv 1000000000 q2 = (lv 1000000000 x + n / lv 1000000000 x) / 2 := by
      rw [eq, E3.out]
      rfl
    have J3 := hide ((J2.out.below hb7 (Nat.le_refl _)).mono hb7.size)
    have HB7 := hide (HB6.out.trans (hb7.mono HB6.out.size))
    have HCM := hide (compare_any (.slice aq2 q2.length cq2) (.slice ap x.length cp) q2 x w7.heap.size w7 oq J3.out (Nat.le_refl _) nq N3.out (by omega) (by omega))
    have OQ := hide oq; have NQ := hide nq; have EQ := hide eq2
    clear hb7 oq or_ nq nr eq er lr HD2 HB6 J2 eq2
    go_wp2_with fail
    refine HCM.out.mono ?_
    rintro e w8 ⟨rc, rfl, hcr, hb8⟩
    have J4 := hide ((J3.out.below hb8 (Nat.le_refl _)).mono hb8.size)
    have OQ8 := hide ((OQ.out.below hb8 (Nat.le_refl _)).mono hb8.size)
    have HB8 := hide (HB7.out.trans (hb8.mono HB7.out.size))
    clear hb8 HCM HB7 J3 OQ
    by_cases hge : lv 1000000000 x ≤ lv 1000000000 q2
    · have hr0 : 0 ≤ rc := by
        rcases Int.lt_or_le rc 0 with h | h
        · have := hcr.1.1 h
          omega
        · exact h
      have HEN := hide (newton_end (n := n) HXP.out RX.out (by rw [← EQ.out]; exact hge))
      have HR := hide (result_any false (.slice ap x.length cp) x w8.heap.size w8 J4.out (Nat.le_refl _) N3.out (by omega) ((HT.out.on (HB4.out.trans (HB8.out.mono HB4.out.size)) hB).mono (Nat.le_trans hB (HB4.out.trans (HB8.out.mono HB4.out.size)).size)))
      rw [show valS false (lv 1000000000 x) = ((rootN n : Nat) : Int) by rw [HEN.out]; rfl] at HR
      have HBF := hide (HB4.out.trans (HB8.out.mono HB4.out.size))
      clear hge hcr
      go_wp2_with fail
      refine HR.out.mono ?_
      rintro e w9 ⟨rfl, hb9⟩
      have HB9 := hide (HBF.out.trans (hb9.mono HBF.out.size))
      clear hb9 HR
      go_wp2_with fail
      refine bodyPost_ret (results_tmp2 rfl _ _ _) rfl ?_
      exact ⟨rfl, HB9.out⟩
    · have hr0 : (0 ≤ rc) = False := eq_false (fun h => by
        have h1 : rc < 0 := hcr.1.2 (by omega)
        omega)
      have HLT := hide (show lv 1000000000 q2 < lv 1000000000 x by omega)
      have HGE := hide (show rootN n ≤ lv 1000000000 q2 by rw [EQ.out]; exact newton_ge HXP.out)
      have hql : q2.length ≤ 50 := by
        have := norm_le NQ.out N3.out.lt (Nat.le_of_lt HLT.out)
        omega
      clear hge hcr
      go_wp2_with fail
      go_roundw
      case rel => exact ⟨aq2, cq2, q2, rfl, hql, OQ8.out, NQ.out, HGE.out, HB8.out⟩
      case measure =>
        rw [limbsAt_eq OQ8.out, HM0.out]
        exact HLT.out
theorem Root_to {s r : ByteArray} {n : Nat} (h1 : s.data.toList = Lib.itoa (n : Int)) (h3 : r.data.toList = Lib.itoa ((rootN n : Nat) : Int)) (f1 : fits (n : Int)) (h0 : 0 < n) (B : Nat) (w : World) (hB : B ≤ w.heap.size) (hT : P10 B w) :
    Calls Tryz.prog 177 #[.string s] w (Ret w (pairT r)) := by
  have c1 : chkI s.data.toList = 0 := by rw [h1]; exact chk_fits f1
  have hv : valI s.data.toList = (n : Int) := by rw [h1, val_itoa]
  have ff : fits ((rootN n : Nat) : Int) := by
    refine fits_of_le f1 ?_
    rw [Int.natAbs_natCast, Int.natAbs_natCast]
    obtain ⟨g1, _⟩ := rootN_spec n
    have hr := root_pos h0
    have : rootN n * 1 ≤ rootN n * rootN n := Nat.mul_le_mul_left _ hr
    omega
  by_cases hl : s.size ≤ 18
  · have e := Root_small s n B w c1 hl hv h0 hB hT
    rw [pairV, strB_eq h3] at e
    exact e
  · have e := Root_long s n B w c1 (by omega) hv h0 hB hT
    rw [pairV, (res_fit ff).1, (res_fit ff).2, strB_eq h3] at e
    exact e
end Go.Proofs.YtpmnhipffkhcpaaGreatDoor
namespace Go.KI
open Go
def sqI (n : Nat) : Bool := decide (rootN n * rootN n = n)
theorem rootN_sq (t : Nat) : rootN (t * t) = t := rootN_eq (Nat.le_refl _) (by
  have : (t + 1) * (t + 1) = t * t + 2 * t + 1 := by grind
  omega)
theorem sqI_iff (n : Nat) : sqI n = true ↔ ∃ t, t * t = n := by
  unfold sqI
  rw [decide_eq_true_iff]
  constructor
  · intro h
    exact ⟨_, h⟩
  · rintro ⟨t, rfl⟩
    rw [rootN_sq]
def sqR (q : Rat) : Option Rat := if sqI q.num.toNat = true ∧ sqI q.den = true then some (((rootN q.num.toNat : Nat) : Rat) / ((rootN q.den : Nat) : Rat)) else none
theorem sq_parts (r : Rat) : (r * r).num = r.num * r.num ∧ (r * r).den = r.den * r.den := by
  have h1 := divInt_mul r r
  have hd : 0 < (r.den : Int) * r.den := dens_pos r r
  have h2 := divInt_parts (r.num * r.num) hd
  rw [h1] at h2
  have hc : Nat.gcd (r.num * r.num).natAbs ((r.den : Int) * r.den).natAbs = 1 := by
    rw [Int.natAbs_mul, Int.natAbs_mul, Int.natAbs_natCast]
    have h3 : Nat.Coprime r.num.natAbs r.den := r.reduced
    exact (Nat.Coprime.mul_right (Nat.Coprime.mul_left h3 h3) (Nat.Coprime.mul_left h3 h3))
  rw [hc] at h2
  refine ⟨by simpa using h2.1, ?_⟩
  have h3 := h2.2
  rw [show ((1 : Nat) : Int) = 1 from rfl, Int.ediv_one] at h3
  exact_mod_cast h3
theorem rat_quot (q : Rat) : (q.num : Rat) / ((q.den : Nat) : Rat) = q := by
  have h := Rat.num_divInt_den q
  rw [Rat.divInt_eq_div] at h
  exact h
theorem sqR_some {q r : Rat} (h : 0 ≤ q) : sqR q = some r ↔ (0 ≤ r ∧ r * r = q) := by
  have hn : 0 ≤ q.num := Rat.num_nonneg.2 h
  unfold sqR
  constructor
  · intro he
    split at he
    · next hs =>
      obtain ⟨h1, h2⟩ := hs
      unfold sqI at h1 h2
      rw [decide_eq_true_iff] at h1 h2
      have hr := Option.some.inj he
      have hd0 : 0 < rootN q.den := root_pos q.den_pos
      have e1 : ((rootN q.num.toNat : Nat) : Rat) * ((rootN q.num.toNat : Nat) : Rat) = (q.num : Rat) := by
        have : ((rootN q.num.toNat * rootN q.num.toNat : Nat) : Rat) = ((q.num.toNat : Nat) : Rat) := by rw [h1]
        rw [← Rat.natCast_mul, this]
        have e : ((q.num.toNat : Nat) : Int) = q.num := by omega
        rw [← Rat.intCast_natCast, e]
      have e2 : ((rootN q.den : Nat) : Rat) * ((rootN q.den : Nat) : Rat) = ((q.den : Nat) : Rat) := by rw [← Rat.natCast_mul, h2]
      have hq := rat_quot q
      have hp : (0 : Rat) < ((rootN q.den : Nat) : Rat) := by exact_mod_cast hd0
      have h0 : (0 : Rat) ≤ ((rootN q.num.toNat : Nat) : Rat) := by exact_mod_cast Nat.zero_le _
      subst hr
      generalize ((rootN q.num.toNat : Nat) : Rat) = a at h0 e1 ⊢
      generalize ((rootN q.den : Nat) : Rat) = b at hp e2 ⊢
      rw [← e1, ← e2] at hq
      clear h1 h2 e1 e2 he hd0 hn
      have hi : 0 < b⁻¹ := Rat.inv_pos.2 hp
      refine ⟨by rw [Rat.div_def]; exact Rat.mul_nonneg h0 (Rat.le_of_lt hi), ?_⟩
      rw [← hq]
      have hb : b ≠ 0 := fun e => by rw [e] at hp; exact absurd hp Rat.lt_irrefl
      rw [Rat.div_def, Rat.div_def, Rat.inv_mul_rev]
      grind
    · cases he
  · rintro ⟨h0, rfl⟩
    obtain ⟨e1, e2⟩ := sq_parts r
    have hr : 0 ≤ r.num := Rat.num_nonneg.2 h0
    have e3 : (r.num * r.num).toNat = r.num.toNat * r.num.toNat := by
      rw [Int.toNat_mul hr hr]
    have k1 : rootN (r * r).num.toNat = r.num.toNat := by rw [e1, e3, rootN_sq]
    have k2 : rootN (r * r).den = r.den := by rw [e2, rootN_sq]
    have s1 : sqI (r * r).num.toNat = true := (sqI_iff _).2 ⟨r.num.toNat, by rw [e1, e3]⟩
    have s2 : sqI (r * r).den = true := (sqI_iff _).2 ⟨r.den, by rw [e2]⟩
    rw [if_pos ⟨s1, s2⟩, k1, k2]
    congr 1
    have e : ((r.num.toNat : Nat) : Int) = r.num := by omega
    rw [← Rat.intCast_natCast, e]
    exact rat_quot r
end Go.KI
namespace Go.Proofs.YtpmnhipffkhcpaaGreatDoor
open Go.RowKit Go.KP Go.KI Go.Shelf
attribute [local go_sem] Oper.semAt_some

theorem iB_T (z : Int) : iB z = T (z : Rat) := by
  apply bytes_eq
  rw [iB_list, T_list, ratS_int]
theorem fitsQ_int {z : Int} (h : fits z) : fitsQ (z : Rat) := ⟨h, fits_one⟩
theorem rmul_I {x y : Int} (f1 : fits x) (f2 : fits y) (f3 : fits (x * y)) (B : Nat) (w : World) (hB : B ≤ w.heap.size) (hT : P10 B w) :
    Calls Tryz.prog 178 #[.string (iB x), .string (iB y)] w (Ret w (.string (iB (x * y)))) := by
  have HT := hide hT
  have H1 := hide (fun w hB hT => pMul_I f1 f2 f3 B w hB hT)
  clear f1 f2 f3 hT
  generalize iB (x * y) = Z at H1 ⊢
  generalize iB x = X at H1 ⊢
  generalize iB y = Y at H1 ⊢
  go_enter Tryz.func178, Tryz.ntmps178
  go_wp2_with fail
  refine (H1.out _ hB HT.out).mono ?_
  rintro e w1 ⟨rfl, hb1⟩
  have HB1 := hide hb1
  clear hb1
  go_wp2_with fail
  go_ret
  exact ⟨rfl, HB1.out⟩
theorem rquot_I {x y : Int} (f1 : fits x) (f2 : fits y) (hy : 0 < y) (B : Nat) (w : World) (hB : B ≤ w.heap.size) (hT : P10 B w) :
    Calls Tryz.prog 184 #[.string (iB x), .string (iB y)] w (Ret w (.tuple #[.string (iB (x / y)), .string (iB (x % y))])) := by
  have HT := hide hT
  have H1 := hide (fun w hB hT => pDivide_I f1 f2 hy B w hB hT)
  clear f1 f2 hy hT
  generalize iB (x / y) = Z at H1 ⊢
  generalize iB (x % y) = R at H1 ⊢
  generalize iB x = X at H1 ⊢
  generalize iB y = Y at H1 ⊢
  go_enter Tryz.func184, Tryz.ntmps184
  go_wp2_with fail
  refine (H1.out _ hB HT.out).mono ?_
  rintro e w1 ⟨rfl, hb1⟩
  have HB1 := hide hb1
  clear hb1
  go_wp2_with fail
  refine bodyPost_ret (results_tmp2 rfl _ _ _) rfl ?_
  exact ⟨rfl, HB1.out⟩
theorem rfraction_I {x y : Int} (f1 : fits x) (f2 : fits y) (hy : y ≠ 0) (B : Nat) (w : World) (hB : B ≤ w.heap.size) (hT : PQ B w) :
    Calls Tryz.prog 180 #[.string (iB x), .string (iB y)] w (Ret w (.string (T ((x : Rat) / (y : Rat))))) := by
  have HT := hide hT
  have hc : cmpC (x : Rat) (y : Rat) := by
    refine ⟨?_, ?_⟩
    · show fits (x * 1)
      rw [Int.mul_one]
      exact f1
    · show fits (y * 1)
      rw [Int.mul_one]
      exact f2
  have hy0 : (y : Rat) ≠ 0 := fun e => hy (by exact_mod_cast e)
  have H1 : Hid (∀ w, B ≤ w.heap.size → PQ B w → Calls Tryz.prog 251 #[.string (iB x), .string (iB y)] w (Ret w (.tuple #[.string (T ((x : Rat) / (y : Rat))), .int .i64 0]))) :=
    hide (fun w hB hT => qdiv_to (by rw [iB_T, T_list]) (by rw [iB_T, T_list]) (fitsQ_int f1) (fitsQ_int f2) hy0 hc B w hB hT)
  clear f1 f2 hy hT hc hy0
  generalize T ((x : Rat) / (y : Rat)) = Z at H1 ⊢
  generalize iB x = X at H1 ⊢
  generalize iB y = Y at H1 ⊢
  go_enter Tryz.func180, Tryz.ntmps180
  go_wp2_with fail
  refine (H1.out _ hB HT.out).mono ?_
  rintro e w1 ⟨rfl, hb1⟩
  have HB1 := hide hb1
  clear hb1
  go_wp2_with fail
  go_ret
  exact ⟨rfl, HB1.out⟩
theorem rexact_I {n : Nat} (f : fits (n : Int)) (B : Nat) (w : World) (hB : B ≤ w.heap.size) (hT : P10 B w) :
    Calls Tryz.prog 292 #[.string (iB (n : Int))] w (Ret w (.tuple #[.string (iB ((rootN n : Nat) : Int)), .bool (sqI n)])) := by
  have HT := hide hT
  obtain ⟨r1, r2⟩ := rootN_spec n
  have hsz : (iB (n : Int)).size = (Lib.decDigits n).length := by rw [← bytes_len, iB_nonneg (by omega), Int.natAbs_natCast]
  by_cases hs : (iB (n : Int)).size ≤ 17
  · have hn : n < 100000000000000000 := (dec_len_le (n := 17) (by omega)).1 (by omega)
    have HN : Hid (∀ w, Calls Tryz.prog 289 #[.string (iB (n : Int))] w (Ret w (.tuple #[.int .i64 (n : Int), .bool true]))) := hide (fun w => by
      have h := rNative_yes (iB (n : Int)) (by rw [iB_list]; exact chk_fits f) hs w
      rw [iB_list, val_itoa] at h
      exact h)
    have HR := hide (fun w => rNativeRoot_any n (by omega) w)
    have hr : rootN n < 1000000000 := by
      refine Nat.lt_of_not_le fun h => ?_
      have := Nat.mul_le_mul h h
      omega
    have HI : Hid (∀ w, B ≤ w.heap.size → P10 B w → Calls Tryz.prog 120 #[.int .i64 ((rootN n : Nat) : Int)] w (Ret w (.string (iB ((rootN n : Nat) : Int))))) := hide (fun w _ hT => itoa_any ((rootN n : Nat) : Int) (by omega) (by omega) B w hT)
    have e : sqI n = (((rootN n : Nat) : Int) * ((rootN n : Nat) : Int) == (n : Int)) := by
      unfold sqI
      rw [Bool.eq_iff_iff]
      simp only [decide_eq_true_iff, beq_iff_eq]
      constructor
      · intro h; exact_mod_cast h
      · intro h; exact_mod_cast h
    rw [e]
    have hm : (rootN n) * (rootN n) < 1000000000000000000 := by omega
    have hmi : ((rootN n : Nat) : Int) * ((rootN n : Nat) : Int) < 1000000000000000000 := by
      have h : ((rootN n * rootN n : Nat) : Int) < 1000000000000000000 := by omega
      rw [Int.natCast_mul] at h
      exact h
    have hm0 : (0 : Int) ≤ ((rootN n : Nat) : Int) * ((rootN n : Nat) : Int) := Int.mul_nonneg (by omega) (by omega)
    generalize iB ((rootN n : Nat) : Int) = R at HI ⊢
    generalize ((rootN n : Nat) : Int) = r at HR HI hmi hm0 ⊢
    have v1 : IntKind.i64.wrap (r * r) = r * r := IntWalk.i64_in _ (by omega)
    obtain ⟨b, hb⟩ : ∃ b, b = (r * r == (n : Int)) := ⟨_, rfl⟩
    rw [← hb]
    have HB := hide hb
    generalize iB (n : Int) = X at HN ⊢
    clear hm hmi hm0 hr hn hs hsz e r1 r2 f hT hb
    go_enter Tryz.func292, Tryz.ntmps292
    go_wp2_with fail
    refine (HN.out _).mono ?_
    rintro e w1 ⟨rfl, hb1⟩
    have HB1 := hide hb1
    clear hb1
    go_wp2_with fail
    refine (HR.out _).mono ?_
    rintro e w2 ⟨rfl, hb2⟩
    have HB2 := hide (HB1.out.trans (hb2.mono HB1.out.size))
    clear hb2
    go_wp2_with fail
    refine (HI.out _ (Nat.le_trans hB HB2.out.size) (HT.out.on HB2.out hB)).mono ?_
    rintro e w3 ⟨rfl, hb3⟩
    have HB3 := hide (HB2.out.trans (hb3.mono HB2.out.size))
    clear hb3
    go_wp2_with fail
    refine bodyPost_ret (results_tmp2 rfl _ _ _) rfl ?_
    exact ⟨by rw [HB.out]; rfl, HB3.out⟩
  · have h0 : 0 < n := Nat.pos_of_ne_zero fun e => hs (by rw [e] at hsz; rw [show (Lib.decDigits 0).length = 1 by rw [dec_zero]; rfl] at hsz; rw [e]; omega)
    have fr : fits ((rootN n : Nat) : Int) := fits_of_le f (by
      rw [Int.natAbs_natCast, Int.natAbs_natCast]
      have := root_pos h0
      exact Nat.le_trans (Nat.le_mul_of_pos_left _ this) r1)
    have frr : fits (((rootN n : Nat) : Int) * ((rootN n : Nat) : Int)) := fits_of_le f (by rw [Int.natAbs_mul, Int.natAbs_natCast, Int.natAbs_natCast]; exact r1)
    have HN := hide (fun w => rNative_no (iB (n : Int)) (by omega) w)
    have HR := hide (fun w hB hT => Root_to (iB_list _) (iB_list _) f h0 B w hB hT)
    have HM := hide (fun w hB hT => rmul_I fr fr frr B w hB hT)
    have e : ((iB (((rootN n : Nat) : Int) * ((rootN n : Nat) : Int))).toList == (iB (n : Int)).toList) = sqI n := by
      rw [ByteArray.toList_eq, ByteArray.toList_eq, iB_list, iB_list]
      unfold sqI
      rw [Bool.eq_iff_iff]
      simp only [decide_eq_true_iff, beq_iff_eq]
      constructor
      · intro h; have := itoa_inj h; exact_mod_cast this
      · intro h; congr 1; exact_mod_cast h
    clear hs hsz h0 fr frr r1 r2 f hT
    generalize iB (((rootN n : Nat) : Int) * ((rootN n : Nat) : Int)) = Q at HM e
    generalize iB ((rootN n : Nat) : Int) = R at HR HM ⊢
    generalize iB (n : Int) = X at HN HR e ⊢
    generalize sqI n = b at e ⊢
    go_enter Tryz.func292, Tryz.ntmps292
    go_wp2_with fail
    refine (HN.out _).mono ?_
    rintro e w1 ⟨rfl, hb1⟩
    have HB1 := hide hb1
    clear hb1
    go_wp2_with fail
    refine (HR.out _ (Nat.le_trans hB HB1.out.size) (HT.out.on HB1.out hB)).mono ?_
    rintro e w2 ⟨rfl, hb2⟩
    have HB2 := hide (HB1.out.trans (hb2.mono HB1.out.size))
    clear hb2
    go_wp2_with fail
    refine (HM.out _ (Nat.le_trans hB HB2.out.size) (HT.out.on HB2.out hB)).mono ?_
    rintro e w3 ⟨rfl, hb3⟩
    have HB3 := hide (HB2.out.trans (hb3.mono HB2.out.size))
    clear hb3
    go_wp2_with fail
    refine bodyPost_ret (results_tmp2 rfl _ _ _) rfl ?_
    exact ⟨rfl, HB3.out⟩
end Go.Proofs.YtpmnhipffkhcpaaGreatDoor
namespace Go.KI
open Go
theorem sqR_eq (q : Rat) : sqR q = if sqI q.num.toNat = true ∧ sqI q.den = true then some (((rootN q.num.toNat : Nat) : Rat) / ((rootN q.den : Nat) : Rat)) else none := rfl
end Go.KI
namespace Go.Proofs.YtpmnhipffkhcpaaGreatDoor
open Go.RowKit Go.KP Go.KI Go.Shelf
attribute [local go_sem] Oper.semAt_some

def rootT : Option Rat → ByteArray
  | some x => T x
  | none => ⟨#[]⟩
def rootB : Option Rat → Bool
  | some _ => true
  | none => false
theorem fits_root {n : Nat} (h : fits (n : Int)) : fits ((rootN n : Nat) : Int) := by
  rcases Nat.eq_zero_or_pos n with h0 | h0
  · subst h0
    have e : rootN 0 = 0 := rootN_eq (by omega) (by omega)
    rw [e]
    exact h
  · refine fits_of_le h ?_
    rw [Int.natAbs_natCast, Int.natAbs_natCast]
    exact Nat.le_trans (Nat.le_mul_of_pos_left _ (root_pos h0)) (rootN_spec n).1
theorem rrootOf_T {q : Rat} (fq : fitsQ q) (h0 : 0 ≤ q.num) (B : Nat) (w : World) (hB : B ≤ w.heap.size) (hT : PQ B w) :
    Calls Tryz.prog 181 #[rpairV (numB q) (denB q)] w (Ret w (.tuple #[.string (rootT (sqR q)), .bool (rootB (sqR q))])) := by
  have HT := hide hT
  have hn : q.num = ((q.num.toNat : Nat) : Int) := by omega
  have eN : numB q = iB ((q.num.toNat : Nat) : Int) := by rw [← hn]; rfl
  have eD : denB q = iB ((q.den : Nat) : Int) := rfl
  have fn : fits ((q.num.toNat : Nat) : Int) := by rw [← hn]; exact fq.1
  have fd : fits ((q.den : Nat) : Int) := fq.2
  have hd0 : ((rootN q.den : Nat) : Int) ≠ 0 := by have := root_pos q.den_pos; omega
  have H1 := hide (fun w hB hT => rexact_I fn B w hB hT)
  have H2 := hide (fun w hB hT => rexact_I fd B w hB hT)
  have H3 := hide (fun w hB hT => rfraction_I (fits_root fn) (fits_root fd) hd0 B w hB hT)
  rw [eN, eD]
  have hS := sqR_eq q
  rw [show (((rootN q.num.toNat : Nat) : Int) : Rat) = ((rootN q.num.toNat : Nat) : Rat) from rfl, show (((rootN q.den : Nat) : Int) : Rat) = ((rootN q.den : Nat) : Rat) from rfl] at H3
  generalize ((rootN q.num.toNat : Nat) : Rat) / ((rootN q.den : Nat) : Rat) = R at H3 hS
  generalize sqR q = S at hS ⊢
  generalize sqI q.num.toNat = b1 at H1 hS
  generalize sqI q.den = b2 at H2 hS
  generalize iB ((rootN q.num.toNat : Nat) : Int) = X1 at H1 H3
  generalize iB ((rootN q.den : Nat) : Int) = X2 at H2 H3
  generalize iB ((q.num.toNat : Nat) : Int) = N at H1 ⊢
  generalize iB ((q.den : Nat) : Int) = D at H2 ⊢
  have X0 := hide (heap1 w (rpairO N D))
  clear fn fd hd0 eN eD hn fq h0 hT
  have hk : (b1 = false ∧ S = none) ∨ (b1 = true ∧ b2 = false ∧ S = none) ∨ (b1 = true ∧ b2 = true ∧ S = some R) := by
    cases b1 <;> cases b2 <;> simp [hS]
  clear hS
  rcases hk with ⟨rfl, rfl⟩ | ⟨rfl, rfl, rfl⟩ | ⟨rfl, rfl, rfl⟩
  all_goals
    dsimp only [rootT, rootB]
    go_enter Tryz.func181, Tryz.ntmps181
    go_wp2_with fail
    refine (H1.out _ (Nat.le_trans hB X0.out.2.2.size) (HT.out.p10.on X0.out.2.2 hB)).mono ?_
    rintro e w1 ⟨rfl, hb1⟩
    have G0 := hide (below_blk hb1 (X0.out.1) (lt_blk (X0.out.1)))
    have HB1 := hide (Below.trans (X0.out.2.2) (hb1.mono (X0.out.2.2).size))
    clear hb1
    have q0_0 := cell_blk G0.out 0
    have q0_1 := cell_blk G0.out 1
    have q0_l := lt_blk G0.out
    go_wp2_with fail
    refine (H2.out _ (Nat.le_trans hB HB1.out.size) (HT.out.p10.on HB1.out hB)).mono ?_
    rintro e w2 ⟨rfl, hb2⟩
    clear q0_0 q0_1 q0_l
    have G0 := hide (below_blk hb2 G0.out (lt_blk G0.out))
    have HB2 := hide (Below.trans (HB1.out) (hb2.mono (HB1.out).size))
    clear hb2
    have q0_0 := cell_blk G0.out 0
    have q0_1 := cell_blk G0.out 1
    have q0_l := lt_blk G0.out
    go_wp2_with fail
    first
    | (refine bodyPost_ret (results_tmp2 rfl _ _ _) rfl ?_
       exact ⟨rfl, HB2.out⟩)
    | skip
  refine (H3.out _ (Nat.le_trans hB HB2.out.size) (HT.out.on HB2.out hB)).mono ?_
  rintro e w3 ⟨rfl, hb3⟩
  have HB3 := hide (HB2.out.trans (hb3.mono HB2.out.size))
  clear hb3
  go_wp2_with fail
  refine bodyPost_ret (results_tmp2 rfl _ _ _) rfl ?_
  exact ⟨rfl, HB3.out⟩
theorem nums1 {w : World} {b : Nat} {p : Rat} (h : w.heap[b]? = some (.cells #[.string (T p)] 22 (0, 0))) : NumsAt w b [p] := by
  refine ⟨lt_blk h, fun i x hx => ?_⟩
  match i with
  | 0 => simp at hx; rw [← hx]; exact cell_blk h 0
  | i + 1 => simp at hx
theorem nums2 {w : World} {b : Nat} {p q : Rat} (h : w.heap[b]? = some (.cells #[.string (T p), .string (T q)] 22 (0, 0))) : NumsAt w b [p, q] := by
  refine ⟨lt_blk h, fun i x hx => ?_⟩
  match i with
  | 0 => simp at hx; rw [← hx]; exact cell_blk h 0
  | 1 => simp at hx; rw [← hx]; exact cell_blk h 1
  | i + 2 => simp at hx
theorem T_num0 (q : Rat) : ((T q).toList == [48]) = decide (q.num = 0) := by
  rw [list_is (T_list q)]
  have h0 : ratS 0 = [48] := by rw [← T_list, T0]
  refine decide_eq_decide.2 ⟨fun e => by rw [ratS_inj (e.trans h0.symm)]; rfl, fun e => by rw [Rat.num_eq_zero.1 e, h0]⟩
end Go.Proofs.YtpmnhipffkhcpaaGreatDoor
namespace Go.KI
open Go
theorem num_is (q : Rat) : (q.num : Rat) = q * ((q.den : Nat) : Rat) := by
  have h := rat_quot q
  have hd : ((q.den : Nat) : Rat) ≠ 0 := by
    have := Rat.natCast_pos.2 q.den_pos
    exact fun e => by rw [e] at this; exact Rat.lt_irrefl this
  exact (Rat.div_mul_cancel hd).symm.trans (by rw [h])
theorem le_by {a b c : Rat} (hc : 0 < c) (h : a * c ≤ b * c) : a ≤ b := Rat.le_of_mul_le_mul_right h hc
theorem lt_by {a b c : Rat} (hc : 0 < c) (h : a * c < b * c) : a < b := Rat.lt_of_mul_lt_mul_right h (Rat.le_of_lt hc)
def unitsN (q u : Rat) (f : Nat) : Nat := rootN ((q.num * ((u.den : Int) * u.den) * f / ((q.den : Int) * (u.num * u.num))).toNat)
theorem root_between (n d : Nat) (hd : 0 < d) : rootN (n / d) * rootN (n / d) * d ≤ n ∧ n < (rootN (n / d) + 1) * (rootN (n / d) + 1) * d := by
  obtain ⟨h1, h2⟩ := rootN_spec (n / d)
  exact ⟨(Nat.le_div_iff_mul_le hd).1 h1, (Nat.div_lt_iff_lt_mul hd).1 h2⟩
theorem unitsN_spec {q u : Rat} (f : Nat) (hq : 0 ≤ q.num) (hu : 0 < u.num) :
    ((unitsN q u f : Nat) : Rat) * ((unitsN q u f : Nat) : Rat) * (u * u) ≤ (f : Rat) * q ∧ (f : Rat) * q < (((unitsN q u f : Nat) : Rat) + 1) * (((unitsN q u f : Nat) : Rat) + 1) * (u * u) := by
  have e1 : q.num * ((u.den : Int) * u.den) * f = ((q.num.toNat * (u.den * u.den) * f : Nat) : Int) := by
    simp only [Int.natCast_mul]
    rw [Int.toNat_of_nonneg hq]
  have e2 : (q.den : Int) * (u.num * u.num) = ((q.den * (u.num.toNat * u.num.toNat) : Nat) : Int) := by
    simp only [Int.natCast_mul]
    rw [Int.toNat_of_nonneg (Int.le_of_lt hu)]
  have eU : unitsN q u f = rootN (q.num.toNat * (u.den * u.den) * f / (q.den * (u.num.toNat * u.num.toNat))) := by
    unfold unitsN
    rw [e1, e2, ← Int.natCast_ediv, Int.toNat_natCast]
  have hup : 0 < u.num.toNat := by omega
  have hd : 0 < q.den * (u.num.toNat * u.num.toNat) := Nat.mul_pos q.den_pos (Nat.mul_pos hup hup)
  obtain ⟨h1, h2⟩ := root_between (q.num.toNat * (u.den * u.den) * f) _ hd
  rw [← eU] at h1 h2
  have g1 := Rat.natCast_le_natCast.2 h1
  have g2 := Rat.natCast_lt_natCast.2 h2
  simp only [Rat.natCast_mul, Rat.natCast_add] at g1 g2
  have c1 : ((q.num.toNat : Nat) : Rat) = q * ((q.den : Nat) : Rat) := by
    rw [← num_is, ← Rat.intCast_natCast, Int.toNat_of_nonneg hq]
  have c2 : ((u.num.toNat : Nat) : Rat) = u * ((u.den : Nat) : Rat) := by
    rw [← num_is, ← Rat.intCast_natCast, Int.toNat_of_nonneg (Int.le_of_lt hu)]
  rw [c1, c2] at g1 g2
  have p1 := Rat.natCast_pos.2 q.den_pos
  have p2 := Rat.natCast_pos.2 u.den_pos
  generalize ((unitsN q u f : Nat) : Rat) = r at g1 g2 ⊢
  generalize ((q.den : Nat) : Rat) = a at g1 g2 p1
  generalize ((u.den : Nat) : Rat) = b at g1 g2 p2
  generalize (f : Rat) = F at g1 g2 ⊢
  have one : ((1 : Nat) : Rat) = 1 := rfl
  rw [one] at g2
  clear c1 c2 hd hup eU e1 e2 h1 h2 hq hu one
  have pp : 0 < a * (b * b) := Rat.mul_pos p1 (Rat.mul_pos p2 p2)
  refine ⟨le_by pp ?_, lt_by pp ?_⟩
  · have l : r * r * (u * u) * (a * (b * b)) = r * r * (a * (u * b * (u * b))) := by grind
    have m : F * q * (a * (b * b)) = q * a * (b * b) * F := by grind
    rw [l, m]
    exact g1
  · have l : (r + 1) * (r + 1) * (u * u) * (a * (b * b)) = (r + 1) * (r + 1) * (a * (u * b * (u * b))) := by grind
    have m : F * q * (a * (b * b)) = q * a * (b * b) * F := by grind
    rw [l, m]
    exact g2
def floorR (q u : Rat) : Rat := ((unitsN q u 1 : Nat) : Rat) * u
def nearR (q u : Rat) : Rat := (((unitsN q u 4 + 1) / 2 : Nat) : Rat) * u
theorem pos_num {u : Rat} (hu : 0 < u.num) : 0 < u := by
  rcases Rat.le_iff_lt_or_eq.1 (Rat.num_nonneg.1 (Int.le_of_lt hu)) with h | h
  · exact h
  · rw [← h] at hu; exact absurd hu (by decide)
theorem sq_le {a b : Rat} (ha : 0 ≤ a) (h : a ≤ b) : a * a ≤ b * b :=
  Rat.le_trans (Rat.mul_le_mul_of_nonneg_left h ha) (Rat.mul_le_mul_of_nonneg_right h (Rat.le_trans ha h))
def decN (q : Rat) (S : Nat) : Nat := rootN ((q.num * S * S / (q.den : Int)).toNat)
theorem decN_spec {q : Rat} (hq : 0 ≤ q.num) (S : Nat) : ((decN q S : Nat) : Rat) * ((decN q S : Nat) : Rat) ≤ q * ((S : Rat) * S) ∧ q * ((S : Rat) * S) < (((decN q S : Nat) : Rat) + 1) * (((decN q S : Nat) : Rat) + 1) := by
  have e1 : q.num * (S : Int) * S = ((q.num.toNat * S * S : Nat) : Int) := by
    simp only [Int.natCast_mul]
    rw [Int.toNat_of_nonneg hq]
  have eU : decN q S = rootN (q.num.toNat * S * S / q.den) := by
    unfold decN
    rw [e1, ← Int.natCast_ediv, Int.toNat_natCast]
  obtain ⟨h1, h2⟩ := root_between (q.num.toNat * S * S) _ q.den_pos
  rw [← eU] at h1 h2
  have g1 := Rat.natCast_le_natCast.2 h1
  have g2 := Rat.natCast_lt_natCast.2 h2
  simp only [Rat.natCast_mul, Rat.natCast_add] at g1 g2
  have c1 : ((q.num.toNat : Nat) : Rat) = q * ((q.den : Nat) : Rat) := by
    rw [← num_is, ← Rat.intCast_natCast, Int.toNat_of_nonneg hq]
  rw [c1] at g1 g2
  have p1 := Rat.natCast_pos.2 q.den_pos
  have one : ((1 : Nat) : Rat) = 1 := rfl
  rw [one] at g2
  generalize ((decN q S : Nat) : Rat) = r at g1 g2 ⊢
  generalize ((q.den : Nat) : Rat) = a at g1 g2 p1
  generalize (S : Rat) = s at g1 g2 ⊢
  refine ⟨le_by p1 (by grind), lt_by p1 (by grind)⟩
def lowR (q : Rat) (S : Nat) : Rat := ((decN q S : Nat) : Rat) / (S : Rat)
def highR (q : Rat) (S : Nat) : Rat := if sqR q = some (lowR q S) then lowR q S else (((decN q S + 1 : Nat)) : Rat) / (S : Rat)
theorem lt_of_sq {a b : Rat} (hb : 0 ≤ b) (h : a * a < b * b) : a < b := by
  rcases Classical.em (a < b) with h1 | h1
  · exact h1
  · have := sq_le hb (Rat.not_lt.1 h1)
    grind
theorem nat_lt_of {a b : Nat} (h : (a : Rat) * a < (b : Rat) * b) : a < b := Rat.natCast_lt_natCast.1 (lt_of_sq Rat.natCast_nonneg h)
theorem low_facts {q : Rat} (hq : 0 ≤ q.num) {S : Nat} (hS : 0 < S) : 0 ≤ lowR q S ∧ lowR q S * (S : Rat) = ((decN q S : Nat) : Rat) ∧ lowR q S * lowR q S ≤ q ∧ q < (lowR q S + 1 / (S : Rat)) * (lowR q S + 1 / (S : Rat)) ∧ (((decN q S + 1 : Nat)) : Rat) / (S : Rat) = lowR q S + 1 / (S : Rat) := by
  obtain ⟨h1, h2⟩ := decN_spec hq S
  have sp := Rat.natCast_pos.2 hS
  have sn : (S : Rat) ≠ 0 := Rat.ne_of_gt sp
  have k0 : (0 : Rat) ≤ ((decN q S : Nat) : Rat) := Rat.natCast_nonneg
  have one : ((1 : Nat) : Rat) = 1 := rfl
  have e0 : lowR q S * (S : Rat) = ((decN q S : Nat) : Rat) := Rat.div_mul_cancel sn
  have e1 : (lowR q S + 1 / (S : Rat)) * (S : Rat) = ((decN q S : Nat) : Rat) + 1 := by rw [Rat.add_mul, e0, Rat.div_mul_cancel sn]
  have e2 : (((decN q S + 1 : Nat)) : Rat) / (S : Rat) = lowR q S + 1 / (S : Rat) := by
    rw [Rat.natCast_add, one, ← e1, Rat.mul_div_cancel sn]
  have ll : 0 ≤ lowR q S := by
    unfold lowR
    rw [Rat.div_def]
    exact Rat.mul_nonneg k0 (Rat.le_of_lt (Rat.inv_pos.2 sp))
  refine ⟨ll, e0, ?_, ?_, e2⟩
  · generalize lowR q S + 1 / (S : Rat) = H at *
    generalize lowR q S = L at *
    generalize ((decN q S : Nat) : Rat) = r at *
    generalize (S : Rat) = s at *
    refine le_by (Rat.mul_pos sp sp) ?_
    rw [show L * L * (s * s) = L * s * (L * s) by grind, e0]
    exact h1
  · generalize lowR q S + 1 / (S : Rat) = H at *
    generalize lowR q S = L at *
    generalize ((decN q S : Nat) : Rat) = r at *
    generalize (S : Rat) = s at *
    refine lt_by (Rat.mul_pos sp sp) ?_
    rw [show H * H * (s * s) = H * s * (H * s) by grind, e1]
    exact h2
theorem lowexact_iff {q : Rat} (hq : 0 ≤ q.num) {S : Nat} (hS : 0 < S) : sqR q = some (lowR q S) ↔ lowR q S * lowR q S = q := by
  rw [sqR_some (Rat.num_nonneg.1 hq)]
  exact ⟨fun h => h.2, fun h => ⟨(low_facts hq hS).1, h⟩⟩
theorem high_of {q : Rat} (hq : 0 ≤ q.num) {S : Nat} (hS : 0 < S) : highR q S = if lowR q S * lowR q S = q then lowR q S else lowR q S + 1 / (S : Rat) := by
  unfold highR
  rw [(low_facts hq hS).2.2.2.2]
  by_cases h : lowR q S * lowR q S = q
  · rw [if_pos h, if_pos ((lowexact_iff hq hS).2 h)]
  · rw [if_neg h, if_neg (fun e => h ((lowexact_iff hq hS).1 e))]
theorem cmpT_cases (x y : Rat) : (x < y ∧ cmpR x y = -1) ∨ (x = y ∧ cmpR x y = 0) ∨ (y < x ∧ cmpR x y = 1) := by
  unfold cmpR
  by_cases h : x < y
  · rw [if_pos h]; exact .inl ⟨h, rfl⟩
  · rw [if_neg h]
    by_cases h2 : y < x
    · rw [if_pos h2]; exact .inr (.inr ⟨h2, rfl⟩)
    · rw [if_neg h2]; exact .inr (.inl ⟨Rat.le_antisymm (Rat.not_lt.1 h2) (Rat.not_lt.1 h), rfl⟩)
theorem cmpT_lt {x y : Rat} (h : x < y) : cmpR x y = -1 := if_pos h
theorem cmpT_gt {x y : Rat} (h : y < x) : cmpR x y = 1 := by
  rcases cmpT_cases x y with ⟨h1, _⟩ | ⟨h1, _⟩ | ⟨_, h1⟩
  · exact absurd h (Rat.not_lt.2 (Rat.le_of_lt h1))
  · rw [h1] at h; exact absurd h Rat.lt_irrefl
  · exact h1
theorem cmpT_same (x : Rat) : cmpR x x = 0 := by
  rcases cmpT_cases x x with ⟨h1, _⟩ | ⟨_, h1⟩ | ⟨h1, _⟩
  · exact absurd h1 Rat.lt_irrefl
  · exact h1
  · exact absurd h1 Rat.lt_irrefl
def sgnR (x : Rat) : Int := cmpR x 0
theorem sgnR_mul (x y : Rat) : sgnR (x * y) = sgnR x * sgnR y := by
  unfold sgnR
  rcases cmpT_cases x 0 with ⟨h1, h⟩ | ⟨h1, h⟩ | ⟨h1, h⟩ <;> rcases cmpT_cases y 0 with ⟨h2, h'⟩ | ⟨h2, h'⟩ | ⟨h2, h'⟩ <;> rw [h, h']
  · refine cmpT_gt ?_
    have := Rat.mul_pos (show 0 < -x by grind) (show 0 < -y by grind)
    grind
  · rw [h2, Rat.mul_zero, cmpT_same]; rfl
  · refine cmpT_lt ?_
    have := Rat.mul_pos (show 0 < -x by grind) h2
    grind
  · rw [h1, Rat.zero_mul, cmpT_same]; rfl
  · rw [h1, Rat.zero_mul, cmpT_same]; rfl
  · rw [h1, Rat.zero_mul, cmpT_same]; rfl
  · refine cmpT_lt ?_
    have := Rat.mul_pos h1 (show 0 < -y by grind)
    grind
  · rw [h2, Rat.mul_zero, cmpT_same]; rfl
  · exact cmpT_gt (Rat.mul_pos h1 h2)
theorem sgnR_bound (x : Rat) : -1 ≤ sgnR x ∧ sgnR x ≤ 1 := by
  unfold sgnR
  rcases cmpT_cases x 0 with ⟨_, h⟩ | ⟨_, h⟩ | ⟨_, h⟩ <;> rw [h] <;> decide
def rcmpS (x y k : Int) : Int := if x < y then -1 else if y < x then 1 else if x = 0 then 0 else x * k
def rcmp (a p b q : Rat) : Int := rcmpS (sgnR a * sgnR p) (sgnR b * sgnR q) (cmpR (a * a * p) (b * b * q))
end Go.KI
