/-
  Texts of the integers, laid together: L7, Px, Qf, Qg, Qh, Ra, Rb, Rc, Re.
-/
import Derived.Test.YthkioajalhglfaaGreatDoorZ9
namespace Go.Proofs.YthkioajalhglfaaGreatDoor
open Go.RowKit Go.KP Go.KI Go.Shelf
attribute [local go_sem] Oper.semAt_some

abbrev pairT (r : ByteArray) : Value := .tuple #[.string r, .int .i64 0]
theorem strB_eq {r : ByteArray} {l : List UInt8} (h : r.data.toList = l) : strB l = r := bytes_eq (by rw [strB_list, h])
theorem Add_to {s t r : ByteArray} {x y : Int} (h1 : s.data.toList = Lib.itoa x) (h2 : t.data.toList = Lib.itoa y) (h3 : r.data.toList = Lib.itoa (x + y)) (f1 : fits x) (f2 : fits y) (f3 : fits (x + y)) (B : Nat) (w : World) (hB : B ≤ w.heap.size) (hT : P10 B w) :
    Calls Tryz.prog 26 #[.string s, .string t] w (Ret w (pairT r)) := by
  have := Add_good h1 h2 f1 f2 f3 B w hB hT
  rw [pairV, strB_eq h3] at this
  exact this
theorem Sub_to {s t r : ByteArray} {x y : Int} (h1 : s.data.toList = Lib.itoa x) (h2 : t.data.toList = Lib.itoa y) (h3 : r.data.toList = Lib.itoa (x - y)) (f1 : fits x) (f2 : fits y) (f3 : fits (x - y)) (B : Nat) (w : World) (hB : B ≤ w.heap.size) (hT : P10 B w) :
    Calls Tryz.prog 27 #[.string s, .string t] w (Ret w (pairT r)) := by
  have := Sub_good h1 h2 f1 f2 f3 B w hB hT
  rw [pairV, strB_eq h3] at this
  exact this
theorem Mul_to {s t r : ByteArray} {x y : Int} (h1 : s.data.toList = Lib.itoa x) (h2 : t.data.toList = Lib.itoa y) (h3 : r.data.toList = Lib.itoa (x * y)) (f1 : fits x) (f2 : fits y) (f3 : fits (x * y)) (B : Nat) (w : World) (hB : B ≤ w.heap.size) (hT : P10 B w) :
    Calls Tryz.prog 15 #[.string s, .string t] w (Ret w (pairT r)) := by
  have c1 : chkI s.data.toList = 0 := by rw [h1]; exact chk_fits f1
  have c2 : chkI t.data.toList = 0 := by rw [h2]; exact chk_fits f2
  have b : bothI s.data.toList t.data.toList = 0 := by unfold bothI; rw [if_pos c1, c2]
  have l1 := (chk_digs c1).2
  have l2 := (chk_digs c2).2
  rw [bytes_len] at l1 l2
  obtain ⟨_, _, e1, e2⟩ := op2_good (f := (· * ·)) b
  have := Mul_any s t B w (by omega) (by omega) hB hT
  rw [e1, e2, h1, h2, val_itoa, val_itoa] at this
  have e3 : resS (x * y) = Lib.itoa (x * y) := if_pos f3
  have e4 : resE (x * y) = 0 := if_pos f3
  rw [pairV, e3, e4, strB_eq h3] at this
  exact this
theorem mul_lt_p {x y : Int} {p q : Nat} (hx : x.natAbs < p) (hy : y.natAbs < q) : (x * y).natAbs < p * q := by
  rw [Int.natAbs_mul]
  exact Nat.mul_lt_mul'' hx hy
set_option maxRecDepth 100000 in
set_option maxHeartbeats 4000000 in
theorem ring_any (a b c : ByteArray) (B : Nat) (w : World) (hB : B ≤ w.heap.size) (hT : P10 B w) :
    Calls Tryz.prog 7 #[.string a, .string b, .string c] w (Ret w (.bool true)) := by
  have HT := hide hT
  have HAW := hide (fun w2 (hb : Below w.heap.size w w2) => awake_any B w2 (Nat.le_trans hB hb.size) (hT.on hb hB))
  clear hT
  have HF := hide (fun t => fine_any w.heap.size [a, b, c] (w.alloc (.cells #[.string a, .string b, .string c] t)) (by simp) (heap_three w a b c t) (by simp))
  obtain ⟨F, hF⟩ : ∃ F, F = decide (∀ s ∈ [a, b, c], fineS s) := ⟨_, rfl⟩
  rw [← hF] at HF
  cases F
  · have G0 := hide (fun o => (heap1 w o).2.2)
    clear hF
    go_enter Tryz.func7, Tryz.ntmps7
    go_wp2_with fail
    refine (HF.out _).mono ?_
    rintro e w1 ⟨rfl, hb1⟩
    have HB1 := hide ((G0.out _).trans (hb1.mono (G0.out _).size))
    clear hb1 HF G0
    go_wp2_with fail
    refine (HAW.out _ HB1.out).mono ?_
    rintro e w2 ⟨rfl, hb2⟩
    have HB2 := hide (HB1.out.trans (hb2.mono HB1.out.size))
    clear hb2 HAW HB1
    go_wp2_with fail
    go_ret
    exact ⟨rfl, HB2.out⟩
  · have hf := of_decide_eq_true hF.symm
    have fa := hf a (by simp)
    have fb := hf b (by simp)
    have fc := hf c (by simp)
    clear hF hf
    have va := fine_val fa
    have vb := fine_val fb
    have vc := fine_val fc
    have ea := (chk_ok fa.2).1
    have eb := (chk_ok fb.2).1
    have ec := (chk_ok fc.2).1
    obtain ⟨x, hx⟩ : ∃ x, x = valI a.data.toList := ⟨_, rfl⟩
    obtain ⟨y, hy⟩ : ∃ y, y = valI b.data.toList := ⟨_, rfl⟩
    obtain ⟨z, hz⟩ : ∃ z, z = valI c.data.toList := ⟨_, rfl⟩
    rw [← hx] at va ea
    rw [← hy] at vb eb
    rw [← hz] at vc ec
    clear fa fb fc hx hy hz
    have mk : ∀ u : Int, ∃ s : ByteArray, s.data.toList = Lib.itoa u := fun u => ⟨strB _, strB_list _⟩
    obtain ⟨s1, e1⟩ := mk (x + y)
    obtain ⟨s2, e2⟩ := mk (x + y + z)
    obtain ⟨s3, e3⟩ := mk (y + z)
    obtain ⟨p1, g1⟩ := mk (x * y)
    obtain ⟨p2, g2⟩ := mk (x * y * z)
    obtain ⟨p3, g3⟩ := mk (y * z)
    obtain ⟨p4, g4⟩ := mk (x * (y + z))
    obtain ⟨p5, g5⟩ := mk (x * z)
    obtain ⟨p, hp⟩ : ∃ p, p = (10 : Nat) ^ 81 := ⟨_, rfl⟩
    have h81 : (10 : Nat) ^ 81 = 10 ^ 80 * 10 := Nat.pow_succ ..
    have fz : ∀ u : Int, u.natAbs < p * p * p → fits u := fun u hu => fits_small (n := 243) (by rw [most_eq]; omega) (by rw [hp, ← Nat.pow_add, ← Nat.pow_add] at hu; exact hu)
    have hp1 : 1000 ≤ p := by
      rw [hp]
      exact Nat.le_trans (show 1000 ≤ 10 ^ 3 by decide) (Nat.pow_le_pow_right (by omega) (by omega))
    have wa : x.natAbs < p := by omega
    have wb : y.natAbs < p := by omega
    have wc : z.natAbs < p := by omega
    have wyz : (y + z).natAbs < p := by omega
    have hpp : p * 1000 ≤ p * p := Nat.mul_le_mul_left _ hp1
    have hppp : p * p * 1000 ≤ p * p * p := Nat.mul_le_mul_left _ hp1
    have w1 := mul_lt_p wa wb
    have w3 := mul_lt_p wb wc
    have w5 := mul_lt_p wa wc
    have w4 := mul_lt_p wa wyz
    have w2 := mul_lt_p w1 wc
    obtain ⟨pp, hpp2⟩ : ∃ pp, pp = p * p := ⟨_, rfl⟩
    obtain ⟨ppp, hppp2⟩ : ∃ ppp, ppp = p * p * p := ⟨_, rfl⟩
    rw [← hpp2] at hpp w1 w3 w5 w4
    rw [← hppp2] at fz hppp w2
    rw [← hpp2] at hppp
    have q4 : x * (y + z) = x * y + x * z := Int.mul_add ..
    have q2 : x * (y * z) = x * y * z := (Int.mul_assoc ..).symm
    have fx := fz x (by omega)
    have fy := fz y (by omega)
    have f0 := fz z (by omega)
    have fxy := fz (x + y) (by omega)
    have fyz := fz (y + z) (by omega)
    have fxyz := fz (x + y + z) (by omega)
    have m1 := fz (x * y) (by omega)
    have m3 := fz (y * z) (by omega)
    have m5 := fz (x * z) (by omega)
    have m4 := fz (x * (y + z)) (by omega)
    have m2 := fz (x * y * z) (by omega)
    have K1 := hide (fun B w => Add_to ea eb e1 fx fy fxy B w)
    have K2 := hide (fun B w => Add_to eb ea (r := s1) (by rw [e1, Int.add_comm]) fy fx (by rw [Int.add_comm]; exact fxy) B w)
    have K3 := hide (fun B w => Add_to e1 ec e2 fxy f0 fxyz B w)
    have K4 := hide (fun B w => Add_to eb ec e3 fy f0 fyz B w)
    have K5 := hide (fun B w => Add_to ea e3 (r := s2) (by rw [e2, Int.add_assoc]) fx fyz (by rw [← Int.add_assoc]; exact fxyz) B w)
    have K6 := hide (fun B w => Sub_to e1 eb (r := a) (by rw [ea, Int.add_sub_cancel]) fxy fy (by rw [Int.add_sub_cancel]; exact fx) B w)
    have M1 := hide (fun B w => Mul_to ea eb g1 fx fy m1 B w)
    have M2 := hide (fun B w => Mul_to eb ea (r := p1) (by rw [g1, Int.mul_comm]) fy fx (by rw [Int.mul_comm]; exact m1) B w)
    have M3 := hide (fun B w => Mul_to g1 ec g2 m1 f0 m2 B w)
    have M4 := hide (fun B w => Mul_to eb ec g3 fy f0 m3 B w)
    have M5 := hide (fun B w => Mul_to ea g3 (r := p2) (by rw [g2, q2]) fx m3 (by rw [q2]; exact m2) B w)
    have M6 := hide (fun B w => Mul_to ea e3 g4 fx fyz m4 B w)
    have M7 := hide (fun B w => Mul_to ea ec g5 fx f0 m5 B w)
    have K7 := hide (fun B w => Add_to g1 g5 (r := p4) (by rw [g4, q4]) m1 m5 (by rw [← q4]; exact m4) B w)
    have G0 := hide (fun o => (heap1 w o).2.2)
    have hmx6 : ∀ w : World, (Builtin.max_ #[24, 24, 24, 24, 24, 24] 24 #[.int .i64 0, .int .i64 0, .int .i64 0, .int .i64 0, .int .i64 0, .int .i64 0]).run Tryz.prog w = .ok (.int .i64 0) w := fun _ => by kernel_rfl
    have hmx8 : ∀ w : World, (Builtin.max_ #[24, 24, 24, 24, 24, 24, 24, 24] 24 #[.int .i64 0, .int .i64 0, .int .i64 0, .int .i64 0, .int .i64 0, .int .i64 0, .int .i64 0, .int .i64 0]).run Tryz.prog w = .ok (.int .i64 0) w := fun _ => by kernel_rfl
    clear va vb vc ea eb ec mk e1 e2 e3 g1 g2 g3 g4 g5 hp h81 fz hp1 wa wb wc wyz hpp hppp w1 w3 w5 w4 w2 hpp2 hppp2 q4 q2 fx fy f0 fxy fyz fxyz m1 m2 m3 m4 m5
    go_enter Tryz.func7, Tryz.ntmps7
    go_wp2_with fail
    refine (HF.out _).mono ?_
    rintro e w1 ⟨rfl, hb1⟩
    have HB1 := hide ((G0.out _).trans (hb1.mono (G0.out _).size))
    clear hb1 HF G0
    go_wp2_with fail
    refine (K1.out B _ (Nat.le_trans hB HB1.out.size) (HT.out.on HB1.out hB)).mono ?_
    rintro e w2 ⟨rfl, hb2⟩
    have HB2 := hide (HB1.out.trans (hb2.mono HB1.out.size))
    clear hb2 K1 HB1
    go_wp2_with fail
    refine (K2.out B _ (Nat.le_trans hB HB2.out.size) (HT.out.on HB2.out hB)).mono ?_
    rintro e w3 ⟨rfl, hb3⟩
    have HB3 := hide (HB2.out.trans (hb3.mono HB2.out.size))
    clear hb3 K2 HB2
    go_wp2_with fail
    refine (K3.out B _ (Nat.le_trans hB HB3.out.size) (HT.out.on HB3.out hB)).mono ?_
    rintro e w4 ⟨rfl, hb4⟩
    have HB4 := hide (HB3.out.trans (hb4.mono HB3.out.size))
    clear hb4 K3 HB3
    go_wp2_with fail
    refine (K4.out B _ (Nat.le_trans hB HB4.out.size) (HT.out.on HB4.out hB)).mono ?_
    rintro e w5 ⟨rfl, hb5⟩
    have HB5 := hide (HB4.out.trans (hb5.mono HB4.out.size))
    clear hb5 K4 HB4
    go_wp2_with fail
    refine (K5.out B _ (Nat.le_trans hB HB5.out.size) (HT.out.on HB5.out hB)).mono ?_
    rintro e w6 ⟨rfl, hb6⟩
    have HB6 := hide (HB5.out.trans (hb6.mono HB5.out.size))
    clear hb6 K5 HB5
    go_wp2_with fail
    refine (K6.out B _ (Nat.le_trans hB HB6.out.size) (HT.out.on HB6.out hB)).mono ?_
    rintro e w7 ⟨rfl, hb7⟩
    have HB7 := hide (HB6.out.trans (hb7.mono HB6.out.size))
    clear hb7 K6 HB6
    go_wp2_with fail
    refine (M1.out B _ (Nat.le_trans hB HB7.out.size) (HT.out.on HB7.out hB)).mono ?_
    rintro e w8 ⟨rfl, hb8⟩
    have HB8 := hide (HB7.out.trans (hb8.mono HB7.out.size))
    clear hb8 M1 HB7
    go_wp2_with fail
    refine (M2.out B _ (Nat.le_trans hB HB8.out.size) (HT.out.on HB8.out hB)).mono ?_
    rintro e w9 ⟨rfl, hb9⟩
    have HB9 := hide (HB8.out.trans (hb9.mono HB8.out.size))
    clear hb9 M2 HB8
    go_wp2_with fail
    refine (M3.out B _ (Nat.le_trans hB HB9.out.size) (HT.out.on HB9.out hB)).mono ?_
    rintro e w10 ⟨rfl, hb10⟩
    have HB10 := hide (HB9.out.trans (hb10.mono HB9.out.size))
    clear hb10 M3 HB9
    go_wp2_with fail
    refine (M4.out B _ (Nat.le_trans hB HB10.out.size) (HT.out.on HB10.out hB)).mono ?_
    rintro e w11 ⟨rfl, hb11⟩
    have HB11 := hide (HB10.out.trans (hb11.mono HB10.out.size))
    clear hb11 M4 HB10
    go_wp2_with fail
    refine (M5.out B _ (Nat.le_trans hB HB11.out.size) (HT.out.on HB11.out hB)).mono ?_
    rintro e w12 ⟨rfl, hb12⟩
    have HB12 := hide (HB11.out.trans (hb12.mono HB11.out.size))
    clear hb12 M5 HB11
    go_wp2_with fail
    refine (M6.out B _ (Nat.le_trans hB HB12.out.size) (HT.out.on HB12.out hB)).mono ?_
    rintro e w13 ⟨rfl, hb13⟩
    have HB13 := hide (HB12.out.trans (hb13.mono HB12.out.size))
    clear hb13 M6 HB12
    go_wp2_with fail
    refine (M7.out B _ (Nat.le_trans hB HB13.out.size) (HT.out.on HB13.out hB)).mono ?_
    rintro e w14 ⟨rfl, hb14⟩
    have HB14 := hide (HB13.out.trans (hb14.mono HB13.out.size))
    clear hb14 M7 HB13
    go_wp2_with fail
    refine (K7.out B _ (Nat.le_trans hB HB14.out.size) (HT.out.on HB14.out hB)).mono ?_
    rintro e w15 ⟨rfl, hb15⟩
    have HB15 := hide (HB14.out.trans (hb15.mono HB14.out.size))
    clear hb15 K7 HB14
    go_wp2_with fail
    refine (HAW.out _ HB15.out).mono ?_
    rintro e w16 ⟨rfl, hb16⟩
    have HB16 := hide (HB15.out.trans (hb16.mono HB15.out.size))
    clear hb16 HAW HB15
    go_wp2_with fail
    go_ret
    exact ⟨rfl, HB16.out⟩
end Go.Proofs.YthkioajalhglfaaGreatDoor
namespace Go.Proofs.YthkioajalhglfaaGreatDoor
open Go.RowKit Go.KP Go.KI Go.Shelf
attribute [local go_sem] Oper.semAt_some

theorem fits_one : fits 1 := fits_small (n := 1) (by rw [most_eq]; omega) (by decide)
theorem fits_zero : fits 0 := fits_small (n := 1) (by rw [most_eq]; omega) (by decide)
theorem pow_fits {x : Int} {i k : Nat} (h : fits (x ^ k)) (hi : i ≤ k) : fits (x ^ i) := by
  rcases Nat.eq_zero_or_pos x.natAbs with h0 | h0
  · have hx : x = 0 := by omega
    rcases Nat.eq_zero_or_pos i with hi0 | hi0
    · rw [hi0, Int.pow_zero]
      exact fits_one
    · rw [hx, Int.zero_pow (by omega)]
      exact fits_zero
  · refine fits_of_le h ?_
    rw [Int.natAbs_pow, Int.natAbs_pow]
    exact Nat.pow_le_pow_right h0 hi
/-- Mul at two good texts, whether the product fits or not. -/
theorem Mul_good {s t : ByteArray} {x y : Int} (h1 : s.data.toList = Lib.itoa x) (h2 : t.data.toList = Lib.itoa y) (f1 : fits x) (f2 : fits y) (B : Nat) (w : World) (hB : B ≤ w.heap.size) (hT : P10 B w) :
    Calls Tryz.prog 15 #[.string s, .string t] w (Ret w (pairV (resS (x * y)) (resE (x * y)))) := by
  have c1 : chkI s.data.toList = 0 := by rw [h1]; exact chk_fits f1
  have c2 : chkI t.data.toList = 0 := by rw [h2]; exact chk_fits f2
  have b : bothI s.data.toList t.data.toList = 0 := by unfold bothI; rw [if_pos c1, c2]
  have l1 := (chk_digs c1).2
  have l2 := (chk_digs c2).2
  rw [bytes_len] at l1 l2
  obtain ⟨_, _, e1, e2⟩ := op2_good (f := (· * ·)) b
  have := Mul_any s t B w (by omega) (by omega) hB hT
  rw [e1, e2, h1, h2, val_itoa, val_itoa] at this
  exact this
set_option maxRecDepth 100000 in
set_option maxHeartbeats 2000000 in
theorem Power_good (s : ByteArray) (x : Int) (k : Nat) (B : Nat) (w : World) (h1 : s.data.toList = Lib.itoa x) (f1 : fits x) (hk : k ≤ 4096) (hB : B ≤ w.heap.size) (hT : P10 B w) :
    Calls Tryz.prog 23 #[.string s, .int .i64 k] w (Ret w (pairV (resS (x ^ k)) (resE (x ^ k)))) := by
  have HT := hide hT
  have c1 : chkI s.data.toList = 0 := by rw [h1]; exact chk_fits f1
  have l1 := (chk_digs c1).2
  rw [bytes_len] at l1
  have HC := hide (check_any s (by omega) w)
  rw [c1] at HC
  have HM := hide (fun (i : Nat) (r : ByteArray) (hr : r.data.toList = Lib.itoa (x ^ i)) (fi : fits (x ^ i)) B w => Mul_good hr h1 fi f1 B w)
  have g1 : ((k : Int) < 0) = False := eq_false (by omega)
  have g2 : ((4096 : Int) < (k : Int)) = False := eq_false (by omega)
  clear hT c1 l1 h1 f1
  go_enter Tryz.func23, Tryz.ntmps23
  go_wp2_with fail
  refine HC.out.mono ?_
  rintro e w1 ⟨rfl, hb1⟩
  have HB1 := hide hb1
  clear hb1 HC
  go_wp2_with fail
  clear g1 g2
  go_loopw [7, 22] (fun r i wr => ∃ (n : Nat) (t : ByteArray), n ≤ k ∧ i = .int .i64 n ∧ r = .string t ∧ Hid (t.data.toList = Lib.itoa (x ^ n) ∧ fits (x ^ n) ∧ Below w.heap.size w wr)) (fun _ i _ => k - (intOf i).toNat)
  case atStart => exact ⟨0, ⟨#[49]⟩, Nat.zero_le _, rfl, rfl, by rw [Int.pow_zero, itoa_one], by rw [Int.pow_zero]; exact fits_one, HB1.out⟩
  case round =>
    obtain ⟨n, t, hn, rfl, rfl, hin⟩ := hrel
    have IN := hide hin.out
    clear hin
    by_cases hlt : n < k
    · have hl : (n : Int) < (k : Int) := by omega
      have HM1 := hide (HM.out n t IN.out.1 IN.out.2.1 B wr (Nat.le_trans hB IN.out.2.2.size) (HT.out.on IN.out.2.2 hB))
      rw [← Int.pow_succ] at HM1
      by_cases hf : fits (x ^ (n + 1))
      · have e3 : resS (x ^ (n + 1)) = Lib.itoa (x ^ (n + 1)) := if_pos hf
        have e4 : resE (x ^ (n + 1)) = 0 := if_pos hf
        obtain ⟨u, hu⟩ : ∃ u, u = strB (Lib.itoa (x ^ (n + 1))) := ⟨_, rfl⟩
        rw [pairV, e3, e4, ← hu] at HM1
        have HF := hide hf; have HU := hide (show u.data.toList = Lib.itoa (x ^ (n + 1)) by rw [hu]; exact strB_list _)
        clear hf e3 e4 hu
        go_wp2_with fail
        refine HM1.out.mono ?_
        rintro e w2 ⟨rfl, hb2⟩
        have HB2 := hide (IN.out.2.2.trans (hb2.mono IN.out.2.2.size))
        clear hb2 HM1
        go_wp2_with fail
        go_roundw
        case rel => exact ⟨n + 1, u, by omega, by simp, rfl, HU.out, HF.out, HB2.out⟩
        case measure => simp [intOf]; omega
      · have hfk : ¬ fits (x ^ k) := fun h => hf (pow_fits h (by omega))
        have e3 : resS (x ^ (n + 1)) = [] := if_neg hf
        have e4 : resE (x ^ (n + 1)) = 4 := if_neg hf
        have HE := hide (show resS (x ^ k) = [] ∧ resE (x ^ k) = 4 from ⟨if_neg hfk, if_neg hfk⟩)
        rw [pairV, e3, e4] at HM1
        clear hf hfk e3 e4
        go_wp2_with fail
        refine HM1.out.mono ?_
        rintro e w2 ⟨rfl, hb2⟩
        have HB2 := hide (IN.out.2.2.trans (hb2.mono IN.out.2.2.size))
        clear hb2 HM1
        go_wp2_with fail
        refine bodyPost_ret (results_tmp2 rfl _ _ _) rfl ?_
        exact ⟨by rw [HE.out.1, HE.out.2]; rfl, HB2.out⟩
    · obtain rfl : n = k := by omega
      have hl : ((n : Int) < (n : Int)) = False := eq_false (by omega)
      have HE := hide (show resS (x ^ n) = Lib.itoa (x ^ n) ∧ resE (x ^ n) = 0 from ⟨if_pos IN.out.2.1, if_pos IN.out.2.1⟩)
      clear hlt
      go_wp2_with fail
      refine bodyPost_ret (results_tmp2 rfl _ _ _) rfl ?_
      exact ⟨by rw [HE.out.1, HE.out.2, ← IN.out.1]; rfl, IN.out.2.2⟩
end Go.Proofs.YthkioajalhglfaaGreatDoor
namespace Go.Proofs.YthkioajalhglfaaGreatDoor
open Go.RowKit Go.KP Go.KI Go.Shelf
attribute [local go_sem] Oper.semAt_some

theorem itoa_nz {z : Int} (h : z ≠ 0) : Lib.itoa z ≠ [48] := fun e => h (itoa_inj (e.trans itoa_zero.symm))
abbrev tripT (q r : ByteArray) : Value := .tuple #[.string q, .string r, .int .i64 0]
theorem Divide_to {s t q r : ByteArray} {x y : Int} (h1 : s.data.toList = Lib.itoa x) (h2 : t.data.toList = Lib.itoa y) (h3 : q.data.toList = Lib.itoa (x.fdiv y)) (h4 : r.data.toList = Lib.itoa (x.fmod y)) (f1 : fits x) (f2 : fits y) (hy : y ≠ 0) (B : Nat) (w : World) (hB : B ≤ w.heap.size) (hT : P10 B w) :
    Calls Tryz.prog 17 #[.string s, .string t] w (Ret w (tripT q r)) := by
  have c1 : chkI s.data.toList = 0 := by rw [h1]; exact chk_fits f1
  have c2 : chkI t.data.toList = 0 := by rw [h2]; exact chk_fits f2
  have h0 : t.data.toList ≠ [48] := by rw [h2]; exact itoa_nz hy
  have e : Calls Tryz.prog 17 #[.string s, .string t] w (Ret w (tripV (Lib.itoa ((valI s.data.toList).fdiv (valI t.data.toList))) (Lib.itoa ((valI s.data.toList).fmod (valI t.data.toList))) 0)) := by
    by_cases hl : s.size ≤ 18 ∧ t.size ≤ 18
    · exact Divide_small s t B w c1 c2 hl.1 hl.2 h0 hB hT
    · exact Divide_long s t B w c1 c2 hl h0 hB hT
  rw [h1, h2, val_itoa, val_itoa, tripV, strB_eq h3, strB_eq h4] at e
  exact e
set_option maxRecDepth 100000 in
set_option maxHeartbeats 2000000 in
theorem Divide_zero {s t : ByteArray} (c1 : chkI s.data.toList = 0) (h2 : t.data.toList = [48]) (w : World) :
    Calls Tryz.prog 17 #[.string s, .string t] w (Ret w (.tuple #[.string ⟨#[]⟩, .string ⟨#[]⟩, .int .i64 12])) := by
  have l1 := (chk_digs c1).2
  rw [bytes_len] at l1
  have l2 : t.size = 1 := by rw [← bytes_len, h2]; rfl
  have H1 := hide (both_any s t (by omega) (by omega) w)
  have c2 : chkI t.data.toList = 0 := by rw [h2, ← itoa_zero]; exact chk_fits fits_zero
  have hb0 : bothI s.data.toList t.data.toList = 0 := by unfold bothI; rw [if_pos c1, c2]
  rw [hb0] at H1
  have hq : (t.toList == [48]) = true := by rw [ByteArray.toList_eq]; simpa using h2
  clear c1 c2 h2 hb0 l1 l2
  go_enter Tryz.func17, Tryz.ntmps17
  go_wp2_with fail
  refine H1.out.mono ?_
  rintro e w1 ⟨rfl, hb1⟩
  have HB1 := hide hb1
  clear hb1 H1
  go_wp2_with fail
  refine bodyPost_ret (results_tmp3' rfl _ _ _) rfl ?_
  exact ⟨rfl, HB1.out⟩
end Go.Proofs.YthkioajalhglfaaGreatDoor
namespace Go.Proofs.YthkioajalhglfaaGreatDoor
open Go.RowKit Go.KP Go.KI Go.Shelf
attribute [local go_sem] Oper.semAt_some

theorem valS_abs (m : Bool) (n : Nat) : (valS m n).natAbs = n := by cases m <;> simp [valS]
theorem field_limbs (m : Bool) (v : Value) (w : World) : (Instr.field 48 (numV m v) 1).run Tryz.prog w = .ok v w := by kernel_rfl
/-- The limbs that a slice value shows. -/
def limbsAt (w : World) : Value → List Nat
  | .slice (some ⟨b, o, none⟩) n _ => (List.range n).map fun i => match w.cell? ⟨b, o + i, none⟩ with
    | some (.int _ z) => z.toNat
    | _ => 0
  | _ => []
theorem limbsAt_eq {B : Nat} {w : World} {v : Value} {l : List Nat} (h : LimbAt B w v l) : limbsAt w v = l := by
  rcases h.cases with ⟨a, c, rfl, rfl⟩ | ⟨b, o, cap, rfl, _, hc⟩
  · unfold limbsAt
    split
    · rename_i h1
      injection h1 with h2 h3 h4
      rw [← h3]
      rfl
    · rfl
  · show (List.range l.length).map _ = l
    apply List.ext_getElem?
    intro i
    rw [List.getElem?_map]
    by_cases hi : i < l.length
    · rw [List.getElem?_range hi, lat_some hi]
      simp only [Option.map_some, hc i hi, Int.toNat_natCast]
    · rw [List.getElem?_eq_none (by simpa using hi), List.getElem?_eq_none (by omega)]
      rfl
set_option maxRecDepth 100000 in
set_option maxHeartbeats 4000000 in
theorem Gcd_long (s t : ByteArray) (B : Nat) (w : World) (c1 : chkI s.data.toList = 0) (c2 : chkI t.data.toList = 0) (hl : ¬ (s.size ≤ 18 ∧ t.size ≤ 18)) (hB : B ≤ w.heap.size) (hT : P10 B w) :
    Calls Tryz.prog 19 #[.string s, .string t] w (Ret w (pairV (resS ((Nat.gcd (valI s.data.toList).natAbs (valI t.data.toList).natAbs : Nat) : Int)) (resE ((Nat.gcd (valI s.data.toList).natAbs (valI t.data.toList).natAbs : Nat) : Int)))) := by
  have l1' := (chk_digs c1).2
  have l2' := (chk_digs c2).2
  rw [bytes_len] at l1' l2'
  have H1 := hide (both_any s t (by omega) (by omega) w)
  have hb0 : bothI s.data.toList t.data.toList = 0 := by unfold bothI; rw [if_pos c1, c2]
  rw [hb0] at H1
  have HT := hide hT
  have H2 := hide (fun w => small_no s t hl w)
  have R1 := hide (fun w => read_good s c1 w)
  have R2 := hide (fun w => read_good t c2 w)
  obtain ⟨G, hG⟩ : ∃ G, G = Nat.gcd (valI s.data.toList).natAbs (valI t.data.toList).natAbs := ⟨_, rfl⟩
  rw [← hG]
  have HG := hide hG
  clear c1 c2 hl hT hb0 l1' l2' hG
  go_enter Tryz.func19, Tryz.ntmps19
  go_wp2_with fail
  refine H1.out.mono ?_
  rintro e w1 ⟨rfl, hb1⟩
  have HB1 := hide hb1
  clear hb1 H1
  go_wp2_with fail
  refine (H2.out _).mono ?_
  rintro e w2 ⟨rfl, hb2⟩
  have HB2 := hide (HB1.out.trans (hb2.mono HB1.out.size))
  clear hb2 H2 HB1
  go_wp2_with fail
  refine (R1.out _).mono ?_
  rintro e w3 ⟨m1, a1, l1, rfl, hb3, o1, n1, q1, k1⟩
  have HB3 := hide (HB2.out.trans (hb3.mono HB2.out.size))
  have O1 := hide o1; have N1 := hide n1; have Q1 := hide q1
  obtain ⟨av1, cv1, hvf, _, _⟩ := o1.form
  subst hvf
  clear hb3 HB2 R1 o1 n1 q1
  have hf1 := fun w => field_limbs m1 (.slice av1 l1.length cv1) w
  go_wp2_with fail
  clear hf1
  refine (R2.out _).mono ?_
  rintro e w4 ⟨m2, a2, l2, rfl, hb4, o2, n2, q2, k2⟩
  have HB4 := hide (HB3.out.trans (hb4.mono HB3.out.size))
  have O1' := hide (O1.out.keep hb4)
  have O2 := hide o2; have N2 := hide n2; have Q2 := hide q2
  obtain ⟨av2, cv2, hvf, _, _⟩ := o2.form
  subst hvf
  clear hb4 HB3 R2 o2 n2 q2 O1
  have hf2 := fun w => field_limbs m2 (.slice av2 l2.length cv2) w
  have HG2 := hide (show Nat.gcd (lv 1000000000 l1) (lv 1000000000 l2) = G by
    rw [HG.out, ← Q1.out, ← Q2.out, valS_abs, valS_abs])
  go_wp2_with fail
  clear hf2
  go_loopw [10, 11] (fun p q wr => ∃ (ap : Option Addr) (cp : Nat) (aq : Option Addr) (cq : Nat) (x y : List Nat), p = .slice ap x.length cp ∧ q = .slice aq y.length cq ∧ x.length ≤ 40 ∧ y.length ≤ 40 ∧ Hid (LimbAt wr.heap.size wr (.slice ap x.length cp) x ∧ LimbAt wr.heap.size wr (.slice aq y.length cq) y ∧ Norm 1000000000 x ∧ Norm 1000000000 y ∧ Nat.gcd (lv 1000000000 x) (lv 1000000000 y) = G ∧ Below w.heap.size w wr)) (fun _ q wr => lv 1000000000 (limbsAt wr q))
  case atStart => exact ⟨av1, cv1, av2, cv2, l1, l2, rfl, rfl, k1, k2, LimbAt.of_own O1'.out, LimbAt.of_own O2.out, N1.out, N2.out, HG2.out, HB4.out⟩
  case round =>
    clear k1 k2
    obtain ⟨ap, cp, aq, cq, x, y, rfl, rfl, hx, hy, hin⟩ := hrel
    have I1 := hide hin.out.1; have I2 := hide hin.out.2.1; have N3 := hide hin.out.2.2.1; have N4 := hide hin.out.2.2.2.1; have GG := hide hin.out.2.2.2.2.1; have HBW := hide hin.out.2.2.2.2.2
    clear hin
    by_cases hy0 : y = []
    · subst hy0
      have hz : valS false (lv 1000000000 x) = (G : Int) := by
        have := GG.out
        rw [lv_nil, Nat.gcd_zero_right] at this
        rw [this]
        rfl
      have HR := hide (result_any false (.slice ap x.length cp) x wr.heap.size wr I1.out (Nat.le_refl _) N3.out (by omega) ((HT.out.on HBW.out hB).mono (Nat.le_trans hB HBW.out.size)))
      rw [hz] at HR
      clear hz
      go_wp2_with fail
      refine HR.out.mono ?_
      rintro e w5 ⟨rfl, hb5⟩
      have HB5 := hide (HBW.out.trans (hb5.mono HBW.out.size))
      clear hb5 HR
      go_wp2_with fail
      refine bodyPost_ret (results_tmp2 rfl _ _ _) rfl ?_
      exact ⟨rfl, HB5.out⟩
    · have hyl : 0 < (y.length : Int) := by
        have := List.length_pos_iff.2 hy0
        omega
      have HD := hide (divide_any (.slice ap x.length cp) (.slice aq y.length cq) x y wr.heap.size wr I1.out I2.out (Nat.le_refl _) N3.out N4.out hy0 (by omega) (by omega))
      have hyp : 0 < lv 1000000000 y := by
        rcases Nat.eq_zero_or_pos (lv 1000000000 y) with h | h
        · exact absurd ((N4.out.zero (by omega)).1 h) hy0
        · exact h
      have HYP := hide hyp
      clear hy0 hyp
      go_wp2_with fail
      refine HD.out.mono ?_
      rintro e w5 ⟨vq, vr, q, r, rfl, hb5, oq, or_, nq, nr, eq, er, lq, lr⟩
      obtain ⟨ar, cr, hvf⟩ := or_.form
      subst hvf
      have hrlt : lv 1000000000 r < lv 1000000000 y := by rw [er]; exact Nat.mod_lt _ HYP.out
      have hrl : r.length ≤ 40 := by
        have := norm_le nr N4.out.lt (Nat.le_of_lt hrlt)
        omega
      have HB5 := hide (HBW.out.trans (hb5.mono HBW.out.size))
      have J2 := hide ((I2.out.below hb5 (Nat.le_refl _)).mono hb5.size)
      have HE := hide (show Nat.gcd (lv 1000000000 y) (lv 1000000000 r) = G by rw [er, ← GG.out, Nat.gcd_comm (lv 1000000000 y), ← Nat.gcd_rec, Nat.gcd_comm])
      have OR := hide or_; have NR := hide nr; have HLT := hide hrlt
      clear hb5 oq or_ nq nr eq er lq lr HD hrlt
      go_wp2_with fail
      go_roundw
      case rel => exact ⟨aq, cq, ar, cr, y, r, rfl, rfl, hy, hrl, J2.out, OR.out, N4.out, NR.out, HE.out, HB5.out⟩
      case measure =>
        rw [limbsAt_eq OR.out, limbsAt_eq I2.out]
        exact HLT.out
/-- Gcd at good texts. -/
theorem Gcd_to {s t r : ByteArray} {x y : Int} (h1 : s.data.toList = Lib.itoa x) (h2 : t.data.toList = Lib.itoa y) (h3 : r.data.toList = Lib.itoa ((Nat.gcd x.natAbs y.natAbs : Nat) : Int)) (f1 : fits x) (f2 : fits y) (B : Nat) (w : World) (hB : B ≤ w.heap.size) (hT : P10 B w) :
    Calls Tryz.prog 19 #[.string s, .string t] w (Ret w (pairT r)) := by
  have c1 : chkI s.data.toList = 0 := by rw [h1]; exact chk_fits f1
  have c2 : chkI t.data.toList = 0 := by rw [h2]; exact chk_fits f2
  have ff : fits ((Nat.gcd x.natAbs y.natAbs : Nat) : Int) := by
    rcases Nat.eq_zero_or_pos x.natAbs with h0 | h0
    · rw [h0, Nat.gcd_zero_left]
      exact fits_of_le f2 (by omega)
    · exact fits_of_le f1 (by rw [Int.natAbs_natCast]; exact Nat.gcd_le_left _ h0)
  by_cases hl : s.size ≤ 18 ∧ t.size ≤ 18
  · have e := Gcd_small s t B w c1 c2 hl.1 hl.2 hB hT
    rw [h1, h2, val_itoa, val_itoa, pairV, strB_eq h3] at e
    exact e
  · have e := Gcd_long s t B w c1 c2 hl hB hT
    rw [h1, h2, val_itoa, val_itoa, pairV, (res_fit ff).1, (res_fit ff).2, strB_eq h3] at e
    exact e
end Go.Proofs.YthkioajalhglfaaGreatDoor
namespace Go.Proofs.YthkioajalhglfaaGreatDoor
open Go.RowKit Go.KP Go.KI Go.Shelf
attribute [local go_sem] Oper.semAt_some

theorem dv_zeros (k : Nat) : dv ([49] ++ List.replicate k 48) = 10 ^ k := by
  have hz : ∀ n, dv (List.replicate n (48 : UInt8)) = 0 := by
    intro n
    induction n with
    | zero => rfl
    | succ n ih => rw [List.replicate_succ', dv_snoc, ih]; rfl
  rw [dv_append, hz, List.length_replicate]
  show (0 * 10 + (49 - 48)) * 10 ^ k + 0 = 10 ^ k
  omega
/-- The text from which the root is sought. -/
theorem start_text (k : Nat) (hk : k ≤ 200) : chkI ([49] ++ List.replicate k 48) = 0 ∧ valI ([49] ++ List.replicate k 48) = ((10 ^ k : Nat) : Int) := by
  have e : [49] ++ List.replicate k 48 = Lib.itoa ((10 ^ k : Nat) : Int) := by
    rw [Lib.itoa_nonneg]
    have h := dec_of (l := [49] ++ List.replicate k 48) (by simp) (fun c hc => by
      rcases List.mem_append.1 hc with h | h
      · simp at h; rw [h]; rfl
      · rw [List.eq_of_mem_replicate h]; rfl) (fun _ => by simp)
    rw [dv_zeros] at h
    exact h
  rw [e, val_itoa]
  refine ⟨chk_fits (fits_small (n := 201) (by rw [most_eq]; omega) ?_), rfl⟩
  rw [Int.natAbs_natCast]
  exact (Nat.pow_lt_pow_iff_right (by omega)).2 (by omega)
theorem root_start {n k len : Nat} (h : n < 10 ^ len) (hk : len ≤ 2 * k) : rootN n ≤ 10 ^ k := by
  refine root_le_of ?_
  have h1 : (10 : Nat) ^ len ≤ 10 ^ (2 * k) := Nat.pow_le_pow_right (by omega) hk
  have h2 : (10 : Nat) ^ (2 * k) = 10 ^ k * 10 ^ k := by rw [← Nat.pow_add]; congr 1; omega
  have h3 : 10 ^ k * 10 ^ k ≤ (10 ^ k + 1) * (10 ^ k + 1) := Nat.mul_le_mul (by omega) (by omega)
  omega
theorem two_lt : Norm 1000000000 [2] := ⟨fun z hz => by simp at hz; omega, .inr (by decide)⟩
set_option maxRecDepth 100000 in
set_option maxHeartbeats 8000000 in
theorem Root_long (s : ByteArray) (n : Nat) (B : Nat) (w : World) (c1 : chkI s.data.toList = 0) (hs : 18 < s.size) (hn : valI s.data.toList = (n : Int)) (h0 : 0 < n) (hB : B ≤ w.heap.size) (hT : P10 B w) :
    Calls Tryz.prog 21 #[.string s] w (Ret w (pairV (resS ((rootN n : Nat) : Int)) (resE ((rootN n : Nat) : Int)))) := by
  have HT := hide hT
  have l1' := (chk_digs c1).2
  rw [bytes_len] at l1'
  have H1 := hide (check_any s (by omega) w)
  rw [c1] at H1
  have HRD := hide (fun w => read_good s c1 w)
  have hsi := (chk_ok c1).1
  rw [hn, Lib.itoa_nonneg] at hsi
  have hne : s.data.toList ≠ [] := by rw [hsi]; exact decDigits_ne _
  obtain ⟨hp, hh⟩ := bytes_head hne
  have hp0 : (0 : Int) < (s.size : Int) := by omega
  have h45 : ((s[0].toNat : Int) == 45) = false := by
    have h1 : s[0] ≠ 45 := fun e => by
      rw [e, hsi] at hh
      exact dec_head45 _ hh
    have : s[0].toNat ≠ 45 := fun h => h1 (UInt8.toNat_inj.1 h)
    simp only [beq_eq_false_iff_ne, ne_eq]
    omega
  have hz : (s.toList == [48]) = false := by
    rw [ByteArray.toList_eq]
    have : s.data.toList ≠ [48] := fun e => by
      have h2 := hn
      rw [e, ← itoa_zero, val_itoa] at h2
      omega
    simpa using this
  have hl18 : ((s.size : Int) ≤ 18) = False := eq_false (by omega)
  obtain ⟨k, hk⟩ : ∃ k, k = (s.size + 1) / 2 := ⟨_, rfl⟩
  have hki : ((s.size : Int) + 1) / 2 = (k : Int) := by omega
  have hkl : k ≤ 200 := by omega
  obtain ⟨st1, st2⟩ := start_text k hkl
  obtain ⟨rp, hrp⟩ : ∃ rp, rp = strB (Lib.repeatL [48] k) := ⟨_, rfl⟩
  have hrpl : rp.data.toList = List.replicate k 48 := by rw [hrp, strB_list, repeat48]
  have hrps : rp.size ≤ 200 := by rw [← bytes_len, hrpl, List.length_replicate]; exact hkl
  have HRP := hide (fun w => repeat_any ⟨#[48]⟩ k w (by omega) (by decide))
  rw [show (⟨#[48]⟩ : ByteArray).data.toList = [48] from rfl, ← hrp] at HRP
  have hcat : ((⟨#[49]⟩ : ByteArray) ++ rp).data.toList = [49] ++ List.replicate k 48 := by
    rw [← hrpl]
    simp
  rw [← hcat] at st1 st2
  have HRX := hide (fun w => read_good (⟨#[49]⟩ ++ rp) st1 w)
  have HST := hide (show rootN n ≤ 10 ^ k by
    refine root_start (len := s.size) ?_ (by omega)
    have := dec_lt n
    rw [← hsi, bytes_len] at this
    exact this)
  have hcs : (9223372036854775807 < (⟨#[49]⟩ : ByteArray).size + rp.size) = False := eq_false (by
    have : (⟨#[49]⟩ : ByteArray).size = 1 := rfl
    omega)
  have HS2 := hide st2; have H0 := hide h0; have HN := hide hn
  have hfd : ∀ (w : World) (m : Bool) (a : Option Addr) (n c : Nat), (Instr.field 48 (.agg #[.bool m, .slice a n c]) 1).run Tryz.prog w = .ok (.slice a n c) w := fun _ _ _ _ _ => by kernel_rfl
  clear hsi hne hh c1 hs hn hT l1' hk st1 st2 hrp hrpl hcat h0
  go_enter Tryz.func21, Tryz.ntmps21
  go_wp2_with fail
  refine H1.out.mono ?_
  rintro e w1 ⟨rfl, hb1⟩
  have HB1 := hide hb1
  clear hb1 H1
  go_wp2_with fail
  refine (HRD.out _).mono ?_
  rintro e w2 ⟨m1, a1, l1, rfl, hb2, o1, n1, q1, k1⟩
  obtain ⟨av, cv, hvf, _, _⟩ := o1.form
  subst hvf
  have HB2 := hide (HB1.out.trans (hb2.mono HB1.out.size))
  have O1 := hide (LimbAt.of_own o1); have N1 := hide n1
  have E1 := hide (show lv 1000000000 l1 = n by
    have h := HN.out
    rw [← q1] at h
    have := valS_abs m1 (lv 1000000000 l1)
    rw [h] at this
    omega)
  clear hb2 HRD o1 n1 q1 HB1
  go_wp2_with fail
  refine (HRP.out _).mono ?_
  rintro e w3 ⟨rfl, hb3⟩
  have O3 := hide ((O1.out.below hb3 (Nat.le_refl _)).mono hb3.size)
  have HB3 := hide (HB2.out.trans (hb3.mono HB2.out.size))
  clear hb3 HRP HB2 O1
  go_wp2_with fail
  refine (HRX.out _).mono ?_
  rintro e w4 ⟨m2, a2, l2, rfl, hb4, o2, n2, q2, k2⟩
  obtain ⟨av2, cv2, hvf, _, _⟩ := o2.form
  subst hvf
  have O4 := hide ((O3.out.below hb4 (Nat.le_refl _)).mono hb4.size)
  have HB4 := hide (HB3.out.trans (hb4.mono HB3.out.size))
  have O2 := hide (LimbAt.of_own o2); have N2 := hide n2
  have E2 := hide (show rootN n ≤ lv 1000000000 l2 by
    rw [HS2.out] at q2
    have := valS_abs m2 (lv 1000000000 l2)
    rw [q2, Int.natAbs_natCast] at this
    rw [← this]
    exact HST.out)
  clear hb4 o2 n2 q2 HRX O3 HB3
  go_wp2_with fail
  clear hfd
  go_loopw [6] (fun p wr => ∃ (ap : Option Addr) (cp : Nat) (x : List Nat), p = .slice ap x.length cp ∧ x.length ≤ 50 ∧ Hid (LimbAt wr.heap.size wr (.slice ap x.length cp) x ∧ Norm 1000000000 x ∧ rootN n ≤ lv 1000000000 x ∧ Below w4.heap.size w4 wr)) (fun p wr => lv 1000000000 (limbsAt wr p))
  case atStart => exact ⟨av2, cv2, l2, rfl, by omega, O2.out, N2.out, E2.out, Below.refl _ _⟩
  case round =>
    clear O2 N2 E2 k2
    obtain ⟨ap, cp, x, rfl, hx, hin⟩ := hrel
    have I1 := hide hin.out.1; have N3 := hide hin.out.2.1; have RX := hide hin.out.2.2.1; have HBW := hide hin.out.2.2.2
    clear hin
    have HM0 := hide (limbsAt_eq I1.out)
    have hxp : 0 < lv 1000000000 x := Nat.lt_of_lt_of_le (root_pos H0.out) RX.out
    have hxne : x ≠ [] := fun e => by rw [e] at hxp; exact absurd hxp (by decide)
    have HXP := hide hxp
    have HD := hide (divide_any (.slice av l1.length cv) (.slice ap x.length cp) l1 x wr.heap.size wr ((O4.out.below HBW.out (Nat.le_refl _)).mono HBW.out.size) I1.out (Nat.le_refl _) N1.out N3.out hxne (by omega) (by omega))
    clear hxp hxne
    go_wp2_with fail
    refine HD.out.mono ?_
    rintro e w5 ⟨vq, vr, q, r, rfl, hb5, oq, or_, nq, nr, eq, er, lq, lr⟩
    obtain ⟨aq, cq, hvf⟩ := oq.form
    subst hvf
    obtain ⟨ar, cr, hvf⟩ := or_.form
    subst hvf
    rw [E1.out] at eq
    have J1 := hide ((I1.out.below hb5 (Nat.le_refl _)).mono hb5.size)
    have HB5 := hide (HBW.out.trans (hb5.mono HBW.out.size))
    have HC := hide (combine_any 48 plusP plusFn (.slice ap x.length cp) (.slice aq q.length cq) x q w5.heap.size w5 J1.out oq (Nat.le_refl _) N3.out.lt nq.lt (by omega) (by omega))
    have hsum := plus_lv N3.out.lt nq.lt
    rw [eq] at hsum
    obtain ⟨l3, hl3⟩ : ∃ l, l = trimL (combL plusP x q) := ⟨_, rfl⟩
    rw [← hl3] at HC hsum
    have h3l : l3.length ≤ 200 := by
      have := hsum.2.2
      omega
    have N4 := hide hsum.1; have E3 := hide hsum.2.1
    clear hb5 oq or_ nq nr eq er lq lr HD I1 HBW hsum hl3
    go_wp2_with fail
    refine HC.out.mono ?_
    rintro e w6 ⟨v3, rfl, hb6, o3⟩
    obtain ⟨av3, cv3, hvf, _, _⟩ := o3.form
    subst hvf
    obtain ⟨g0, gs0, gb0⟩ := heap1 w6 (rowO [2])
    have HBa := hide ((hb6.trans (gb0.mono hb6.size)))
    have HD2 := hide (divide_any (.slice av3 l3.length cv3) (.slice (some ⟨w6.heap.size, 0, none⟩) 1 1) l3 [2] (w6.alloc (rowO [2])).heap.size (w6.alloc (rowO [2])) (LimbAt.of_own (o3.keep gb0)) (row_limbs g0 (by unfold maxLen; simp)) (Nat.le_refl _) N4.out two_lt (by simp) (by omega) (by simp))
    have HB6 := hide (HB5.out.trans (HBa.out.mono HB5.out.size))
    have J2 := hide ((J1.out.below HBa.out (Nat.le_refl _)).mono HBa.out.size)
    clear hb6 o3 g0 gs0 gb0 HC HB5 J1 HBa
    go_wp2_with fail
    refine HD2.out.mono ?_
    rintro e w7 ⟨vq, vr, q2, r2, rfl, hb7, oq, or_, nq, nr, eq, er, lq, lr⟩
    obtain ⟨aq2, cq2, hvf⟩ := oq.form
    subst hvf
    obtain ⟨ar2, cr2, hvf⟩ := or_.form
    subst hvf
    have eq2 : lv 1000000000 q2 = (lv 1000000000 x + n / lv 1000000000 x) / 2 := by
      rw [eq, E3.out]
      rfl
    have J3 := hide ((J2.out.below hb7 (Nat.le_refl _)).mono hb7.size)
    have HB7 := hide (HB6.out.trans (hb7.mono HB6.out.size))
    have HCM := hide (compare_any (.slice aq2 q2.length cq2) (.slice ap x.length cp) q2 x w7.heap.size w7 oq J3.out (Nat.le_refl _) nq N3.out (by omega) (by omega))
    have OQ := hide oq; have NQ := hide nq; have EQ := hide eq2
    clear hb7 oq or_ nq nr eq er lr HD2 HB6 J2 eq2
    go_wp2_with fail
    refine HCM.out.mono ?_
    rintro e w8 ⟨rc, rfl, hcr, hb8⟩
    have J4 := hide ((J3.out.below hb8 (Nat.le_refl _)).mono hb8.size)
    have OQ8 := hide ((OQ.out.below hb8 (Nat.le_refl _)).mono hb8.size)
    have HB8 := hide (HB7.out.trans (hb8.mono HB7.out.size))
    clear hb8 HCM HB7 J3 OQ
    by_cases hge : lv 1000000000 x ≤ lv 1000000000 q2
    · have hr0 : 0 ≤ rc := by
        rcases Int.lt_or_le rc 0 with h | h
        · have := hcr.1.1 h
          omega
        · exact h
      have HEN := hide (newton_end (n := n) HXP.out RX.out (by rw [← EQ.out]; exact hge))
      have HR := hide (result_any false (.slice ap x.length cp) x w8.heap.size w8 J4.out (Nat.le_refl _) N3.out (by omega) ((HT.out.on (HB4.out.trans (HB8.out.mono HB4.out.size)) hB).mono (Nat.le_trans hB (HB4.out.trans (HB8.out.mono HB4.out.size)).size)))
      rw [show valS false (lv 1000000000 x) = ((rootN n : Nat) : Int) by rw [HEN.out]; rfl] at HR
      have HBF := hide (HB4.out.trans (HB8.out.mono HB4.out.size))
      clear hge hcr
      go_wp2_with fail
      refine HR.out.mono ?_
      rintro e w9 ⟨rfl, hb9⟩
      have HB9 := hide (HBF.out.trans (hb9.mono HBF.out.size))
      clear hb9 HR
      go_wp2_with fail
      refine bodyPost_ret (results_tmp2 rfl _ _ _) rfl ?_
      exact ⟨rfl, HB9.out⟩
    · have hr0 : (0 ≤ rc) = False := eq_false (fun h => by
        have h1 : rc < 0 := hcr.1.2 (by omega)
        omega)
      have HLT := hide (show lv 1000000000 q2 < lv 1000000000 x by omega)
      have HGE := hide (show rootN n ≤ lv 1000000000 q2 by rw [EQ.out]; exact newton_ge HXP.out)
      have hql : q2.length ≤ 50 := by
        have := norm_le NQ.out N3.out.lt (Nat.le_of_lt HLT.out)
        omega
      clear hge hcr
      go_wp2_with fail
      go_roundw
      case rel => exact ⟨aq2, cq2, q2, rfl, hql, OQ8.out, NQ.out, HGE.out, HB8.out⟩
      case measure =>
        rw [limbsAt_eq OQ8.out, HM0.out]
        exact HLT.out
/-- Root at good texts. -/
theorem Root_to {s r : ByteArray} {n : Nat} (h1 : s.data.toList = Lib.itoa (n : Int)) (h3 : r.data.toList = Lib.itoa ((rootN n : Nat) : Int)) (f1 : fits (n : Int)) (h0 : 0 < n) (B : Nat) (w : World) (hB : B ≤ w.heap.size) (hT : P10 B w) :
    Calls Tryz.prog 21 #[.string s] w (Ret w (pairT r)) := by
  have c1 : chkI s.data.toList = 0 := by rw [h1]; exact chk_fits f1
  have hv : valI s.data.toList = (n : Int) := by rw [h1, val_itoa]
  have ff : fits ((rootN n : Nat) : Int) := by
    refine fits_of_le f1 ?_
    rw [Int.natAbs_natCast, Int.natAbs_natCast]
    obtain ⟨g1, _⟩ := rootN_spec n
    have hr := root_pos h0
    have : rootN n * 1 ≤ rootN n * rootN n := Nat.mul_le_mul_left _ hr
    omega
  by_cases hl : s.size ≤ 18
  · have e := Root_small s n B w c1 hl hv h0 hB hT
    rw [pairV, strB_eq h3] at e
    exact e
  · have e := Root_long s n B w c1 (by omega) hv h0 hB hT
    rw [pairV, (res_fit ff).1, (res_fit ff).2, strB_eq h3] at e
    exact e
end Go.Proofs.YthkioajalhglfaaGreatDoor
namespace Go.Proofs.YthkioajalhglfaaGreatDoor
open Go.RowKit Go.KP Go.KI Go.Shelf
attribute [local go_sem] Oper.semAt_some

theorem rlimb_any (v : Value) (l : List Nat) (i : Nat) (B : Nat) (w : World) (h : LimbAt B w v l) (hi : i ≤ 1000000) :
    Calls Tryz.prog 79 #[v, .int .i64 i] w fun e w' => e = .returned (.int .i64 (lat l i)) ∧ w' = w := by
  have i0 : (0 : Int) ≤ (i : Int) := by omega
  rcases h.cases with ⟨a, c, rfl, rfl⟩ | ⟨b, o, cap, rfl, hb, hc⟩
  · have hlt : ((i : Int) < 0) = False := eq_false (by omega)
    have hl : lat [] i = 0 := rfl
    rw [hl]
    go_enter Tryz.func79, Tryz.ntmps79
    go_wp2
    go_ret
    exact ⟨rfl, rfl⟩
  · by_cases hlt : i < l.length
    · have hcell := hc i hlt
      have hlti : (i : Int) < (l.length : Int) := by omega
      clear hc h
      go_enter Tryz.func79, Tryz.ntmps79
      go_wp2
      go_ret
      exact ⟨rfl, rfl⟩
    · have hlti : ¬ (i : Int) < (l.length : Int) := by omega
      have hl := lat_past (l := l) (i := i) (by omega)
      rw [hl]
      clear hc h hl
      go_enter Tryz.func79, Tryz.ntmps79
      go_wp2
      go_ret
      exact ⟨rfl, rfl⟩
set_option maxRecDepth 100000 in
set_option maxHeartbeats 1000000 in
theorem rtrim_any (a : Option Addr) (c : Nat) (l : List Nat) (B : Nat) (w : World) (h : LimbAt B w (.slice a l.length c) l) (hc : l.length ≤ c) (hl : l.length ≤ 1000000) :
    Calls Tryz.prog 72 #[.slice a l.length c] w fun e w' => e = .returned (.slice a (trimTo l l.length) c) ∧ w = w' := by
  have H := hide h
  obtain ⟨n, hn⟩ : ∃ n, n = l.length := ⟨_, rfl⟩
  rw [← hn] at hc hl ⊢
  have HN := hide hn
  clear h hn
  go_enter Tryz.func72, Tryz.ntmps72
  go_wp2_with fail
  go_loopw [3] (fun t wr => ∃ k : Nat, k ≤ n ∧ t = .int .i64 k ∧ Hid (trimTo l k = trimTo l n) ∧ wr = w) (fun t _ => (intOf t).toNat)
  case atStart => exact ⟨n, Nat.le_refl _, rfl, rfl, rfl⟩
  case round =>
    obtain ⟨k, hk, rfl, ht, rfl⟩ := hrel
    rcases Nat.eq_zero_or_pos k with h0 | h0
    · have hq : (0 < k) = False := eq_false (by omega)
      have HT := hide (show trimTo l n = k by rw [← ht.out, h0]; rfl)
      have hkc : (k : Int) ≤ (c : Int) := by omega
      clear h0 ht
      go_wp2_with fail
      go_ret
      rw [HT.out]
      exact ⟨rfl, rfl⟩
    · rcases H.out.cases with ⟨a0, c0, hv, hnil⟩ | ⟨b, o, cap, hv, hb, hcl⟩
      · exfalso
        have := HN.out
        rw [hnil] at this
        simp at this
        omega
      · have hcell := hcl (k - 1) (by rw [← HN.out]; omega)
        injection hv with hv1 hv2 hv3
        subst hv1; subst hv3
        obtain ⟨m, hm⟩ : ∃ m, k = m + 1 := ⟨k - 1, by omega⟩
        subst hm
        rw [Nat.add_sub_cancel] at hcell
        have hq : decide (((m + 1 : Nat) : Int) > 0) = true := by simp
        have hm1 : ((m + 1 : Nat) : Int) - 1 = (m : Int) := by omega
        have hmn : (m : Int) < (n : Int) := by omega
        by_cases hz : lat l m = 0
        · have hz1 : ((lat l m : Int) == 0) = true := by rw [hz]; rfl
          have HT := hide (show trimTo l m = trimTo l n from (trimTo_z hz).symm.trans ht.out)
          clear hz ht hcl hv2
          go_wp2_with fail
          go_roundw
          case rel => exact ⟨m, by omega, rfl, HT, trivial⟩
          case measure => simp [intOf]
        · have hz1 : ((lat l m : Int) == 0) = false := by simpa using hz
          have HT := hide (show trimTo l n = m + 1 from ht.out.symm.trans (trimTo_p hz))
          have hkc : ((m + 1 : Nat) : Int) ≤ (c : Int) := by omega
          clear hz ht hcl hv2
          go_wp2_with fail
          go_ret
          rw [HT.out]
          exact ⟨rfl, rfl⟩
set_option maxRecDepth 100000 in
theorem rboth_any (s t : ByteArray) (hs : s.size ≤ 1000000) (ht : t.size ≤ 1000000) (w : World) :
    Calls Tryz.prog 41 #[.string s, .string t] w (Ret w (.int .i64 (bothI s.data.toList t.data.toList))) := by
  have H1 := hide (fun w => rcheck_any s hs w)
  have H2 := hide (fun w => rcheck_any t ht w)
  by_cases h : chkI s.data.toList = 0
  · have HE := hide (show bothI s.data.toList t.data.toList = chkI t.data.toList from if_pos h)
    rw [h] at H1
    clear h
    go_enter Tryz.func41, Tryz.ntmps41
    go_wp2_with fail
    refine (H1.out _).mono ?_
    rintro e w1 ⟨rfl, hb1⟩
    have HB1 := hide hb1
    clear hb1 H1
    go_wp2_with fail
    refine (H2.out _).mono ?_
    rintro e w2 ⟨rfl, hb2⟩
    have HB2 := hide (HB1.out.trans (hb2.mono HB1.out.size))
    clear hb2 H2 HB1
    go_wp2_with fail
    go_ret
    rw [HE.out]
    exact ⟨rfl, HB2.out⟩
  · have HE := hide (show bothI s.data.toList t.data.toList = chkI s.data.toList from if_neg h)
    have hq : (chkI s.data.toList != 0) = true := by simpa using h
    obtain ⟨E, hE⟩ : ∃ E, E = chkI s.data.toList := ⟨_, rfl⟩
    rw [← hE] at H1 hq HE
    clear h hE
    go_enter Tryz.func41, Tryz.ntmps41
    go_wp2_with fail
    refine (H1.out _).mono ?_
    rintro e w1 ⟨rfl, hb1⟩
    have HB1 := hide hb1
    clear hb1 H1
    go_wp2_with fail
    go_ret
    rw [HE.out]
    exact ⟨rfl, HB1.out⟩
theorem digs_drop (l : List UInt8) : digs l = l.drop (if l.head? = some 45 then 1 else 0) := by
  cases l with
  | nil => rfl
  | cons c r =>
    by_cases h : c = 45
    · simp [digs, h]
    · simp [digs, h]
set_option maxRecDepth 100000 in
set_option maxHeartbeats 4000000 in
theorem rsmall_yes (s : ByteArray) (c1 : chkI s.data.toList = 0) (hs : s.size ≤ 17) (w : World) :
    Calls Tryz.prog 71 #[.string s] w (Ret w (.tuple #[.int .i64 (valI s.data.toList), .bool true])) := by
  obtain ⟨mi, hmi⟩ : ∃ mi, mi = decide (s.data.toList.head? = some 45) := ⟨_, rfl⟩
  obtain ⟨off, hoff⟩ : ∃ off : Nat, off = if mi then 1 else 0 := ⟨_, rfl⟩
  have hd : digs s.data.toList = s.data.toList.drop off := by
    rw [digs_drop, hoff, hmi]
    by_cases h : s.data.toList.head? = some 45 <;> simp [h]
  have HD := hide hd
  have HDG := hide (chk_digs c1).1
  have HV := hide (valI_S s.data.toList)
  rw [← hmi] at HV
  have hpos := chk_pos c1
  rw [bytes_len] at hpos
  have hsi : (s.size : Int) ≤ 17 := by omega
  have hne : s.data.toList ≠ [] := fun e => by have := bytes_len s; rw [e] at this; simp at this; omega
  obtain ⟨hp, hh⟩ := bytes_head hne
  have hp0 : (0 : Int) < (s.size : Int) := by omega
  have h45 : ((s[0].toNat : Int) == 45) = mi := by
    rw [hmi, hh]
    by_cases h : s[0] = 45
    · rw [h]; rfl
    · have : s[0].toNat ≠ 45 := fun e => h (UInt8.toNat_inj.1 e)
      have h2 : ((s[0].toNat : Int) == 45) = false := by
        simp only [beq_eq_false_iff_ne, ne_eq]
        omega
      rw [h2]
      simp [h]
  have hlen : (digs s.data.toList).length = s.size - off := by rw [hd, List.length_drop, bytes_len]
  have hbnd : dv (digs s.data.toList) < 100000000000000000 := by
    have h1 := dv_lt _ (chk_digs c1).1
    have h2 : 10 ^ (digs s.data.toList).length ≤ 10 ^ 17 := Nat.pow_le_pow_right (by omega) (by rw [hlen]; omega)
    have h3 : (10 : Nat) ^ 17 = 100000000000000000 := by decide
    omega
  have HOF := hide hoff; have HMI := hide hmi; have HB := hide hbnd; have H45 := hide h45
  clear hd c1 hne hh hlen hoff hmi hbnd
  go_enter Tryz.func71, Tryz.ntmps71
  go_wp2_with fail
  clear h45
  go_loopw [4, 5] (fun acc i wr => ∃ k A : Nat, k ≤ s.size ∧ i = .int .i64 k ∧ acc = .int .i64 A ∧ Hid (A = dv ((digs s.data.toList).take (k - off))) ∧ wr = w) (fun _ i _ => s.size - (intOf i).toNat)
  case atStart => exact ⟨0, 0, Nat.zero_le _, rfl, rfl, by rw [Nat.zero_sub]; rfl, rfl⟩
  case round =>
    obtain ⟨k, A, hk, rfl, rfl, hA, rfl⟩ := hrel
    by_cases hlt : k < s.size
    · have hki : (k : Int) < (s.size : Int) := by omega
      have hk0 : (0 : Int) ≤ (k : Int) := by omega
      obtain ⟨y, hyv⟩ : ∃ y : Nat, y = (s[k]'hlt).toNat := ⟨_, rfl⟩
      have hyv2 : (s[k]'hlt).toNat = y := hyv.symm
      have hat : s.data.toList[k]? = some (s[k]'hlt) := by
        have h1 : s.data.toList[k]? = some s.data[k] := by simp
        exact h1
      by_cases hko : k < off
      · have hk00 : k = 0 ∧ off = 1 := by
          have := HOF.out
          cases hm : mi <;> rw [hm] at this <;> simp at this <;> omega
        have hmt : mi = true := by
          have := HOF.out
          cases hm : mi
          · rw [hm] at this; simp at this; omega
          · rfl
        have hy45 : y = 45 := by
          have h1 := HMI.out
          rw [hmt] at h1
          have h2 := of_decide_eq_true h1.symm
          have h3 : s.data.toList[0]? = some 45 := by rw [← List.head?_eq_getElem?]; exact h2
          obtain ⟨rfl, _⟩ := hk00
          rw [h3] at hat
          rw [hyv]
          injection hat with hat
          rw [← hat]
          rfl
        have hq : ((y : Int) != 45) = false := by rw [hy45]; rfl
        have HN := hide (show A = dv ((digs s.data.toList).take (k + 1 - off)) by
          have h1 := hA.out
          rw [show k - off = 0 by omega] at h1
          rw [h1, show k + 1 - off = 0 by omega])
        clear hat hyv hy45 hmt hk00 hko hA
        go_wp2_with fail
        go_roundw
        case rel => exact ⟨k + 1, A, by omega, by go_num, rfl, HN, trivial⟩
        case measure => simp [intOf]; omega
      · have hat2 : (digs s.data.toList)[k - off]? = some (s[k]'hlt) := by
          rw [HD.out, List.getElem?_drop, show off + (k - off) = k by omega]
          exact hat
        have hdg := isDg_iff.1 (HDG.out _ (List.mem_of_getElem? hat2))
        rw [hyv2] at hdg
        have hq : ((y : Int) != 45) = true := by
          have : (y : Int) ≠ 45 := by omega
          simpa using this
        have hnew : dv ((digs s.data.toList).take (k + 1 - off)) = A * 10 + (y - 48) := by
          rw [show k + 1 - off = (k - off) + 1 by omega, List.take_add_one, hat2]
          show dv (_ ++ [s[k]'hlt]) = _
          rw [dv_snoc, hyv2, hA.out]
        have hle : A * 10 + (y - 48) < 100000000000000000 := by
          rw [← hnew]
          refine Nat.lt_of_le_of_lt ?_ HB.out
          have h1 := dv_append ((digs s.data.toList).take (k + 1 - off)) ((digs s.data.toList).drop (k + 1 - off))
          rw [List.take_append_drop] at h1
          rw [h1]
          have h2 : 0 < 10 ^ ((digs s.data.toList).drop (k + 1 - off)).length := Nat.pow_pos (by omega)
          have h3 : dv ((digs s.data.toList).take (k + 1 - off)) * 1 ≤ dv ((digs s.data.toList).take (k + 1 - off)) * 10 ^ ((digs s.data.toList).drop (k + 1 - off)).length := Nat.mul_le_mul_left _ h2
          omega
        have HN := hide hnew.symm
        have y0 : (48 : Int) ≤ (y : Int) := by omega
        have y1 : (y : Int) ≤ 57 := by omega
        have a1 : (A : Int) < 10000000000000000 := by omega
        have HC := hide (show 10 * (A : Int) + ((y : Int) - 48) = ((A * 10 + (y - 48) : Nat) : Int) by omega)
        clear hat hat2 hyv hdg hnew hle hko hA
        go_wp2_with fail
        go_roundw
        case rel => exact ⟨k + 1, A * 10 + (y - 48), by omega, by go_num, by rw [← HC.out], HN, trivial⟩
        case measure => simp [intOf]; omega
    · obtain rfl : k = s.size := by omega
      have hki : ((s.size : Int) < (s.size : Int)) = False := eq_false (by omega)
      have hA2 : A = dv (digs s.data.toList) := by
        rw [hA.out, List.take_of_length_le]
        rw [HD.out, List.length_drop, bytes_len]
        exact Nat.le_refl _
      have hAb : (A : Int) < 100000000000000000 := by
        have := HB.out
        rw [← hA2] at this
        omega
      rw [← hA2] at HV
      have h45 := H45.out
      clear hlt hA hA2
      cases mi
      · go_wp2_with fail
        refine bodyPost_ret (results_tmp2 rfl _ _ _) rfl ?_
        exact ⟨by rw [HV.out]; rfl, Below.refl _ _⟩
      · go_wp2_with fail
        refine bodyPost_ret (results_tmp2 rfl _ _ _) rfl ?_
        exact ⟨by rw [HV.out]; rfl, Below.refl _ _⟩
theorem rsmall_no (s : ByteArray) (hs : 17 < s.size) (w : World) :
    Calls Tryz.prog 71 #[.string s] w (Ret w (.tuple #[.int .i64 0, .bool false])) := by
  have e1 : (17 : Int) < (s.size : Int) := by omega
  go_enter Tryz.func71, Tryz.ntmps71
  go_wp2_with fail
  refine bodyPost_ret (results_tmp2 rfl _ _ _) rfl ?_
  exact ⟨rfl, Below.refl _ _⟩
end Go.Proofs.YthkioajalhglfaaGreatDoor
namespace Go.KI
open Go
theorem norm_le_b {b : Nat} (hb : 0 < b) {p q : List Nat} (hp : Norm b p) (hq : Lt b q) (h : lv b p ≤ lv b q) : p.length ≤ q.length := by
  rcases Nat.lt_or_ge q.length p.length with h1 | h1
  · have := norm_len_lt hb hq hp h1
    omega
  · exact h1
theorem upper_cmp_b {b : Nat} (hb : 0 < b) {x y : List Nat} (hx : Lt b x) (hy : Lt b y) (hl : x.length = y.length) {k : Nat} (hk : k < x.length) (hs : ∀ j, j < k → lat x (x.length - 1 - j) = lat y (x.length - 1 - j)) :
    (lat x (x.length - 1 - k) < lat y (x.length - 1 - k) → lv b x < lv b y) ∧ (lat y (x.length - 1 - k) < lat x (x.length - 1 - k) → lv b y < lv b x) := by
  have hd : x.drop (x.length - 1 - k + 1) = y.drop (x.length - 1 - k + 1) := by
    apply List.ext_getElem?
    intro i
    rw [List.getElem?_drop, List.getElem?_drop]
    by_cases hi : x.length - 1 - k + 1 + i < x.length
    · have h1 := hs (k - 1 - i) (by omega)
      rw [show x.length - 1 - (k - 1 - i) = x.length - 1 - k + 1 + i by omega] at h1
      rw [lat_some hi, lat_some (l := y) (by omega), h1]
    · rw [List.getElem?_eq_none (by omega), List.getElem?_eq_none (by omega)]
  exact ⟨fun h => lv_top_lt hb hx hl (i := x.length - 1 - k) (by omega) hd h, fun h => lv_top_lt hb hy hl.symm (i := x.length - 1 - k) (by omega) hd.symm h⟩
end Go.KI
namespace Go.Proofs.YthkioajalhglfaaGreatDoor
open Go.RowKit Go.KP Go.KI Go.Shelf
attribute [local go_sem] Oper.semAt_some

set_option maxRecDepth 100000 in
set_option maxHeartbeats 2000000 in
theorem rtwo_yes (s t : ByteArray) (c1 : chkI s.data.toList = 0) (c2 : chkI t.data.toList = 0) (hs : s.size ≤ 17) (ht : t.size ≤ 17) (w : World) :
    Calls Tryz.prog 42 #[.string s, .string t] w (Ret w (.tuple #[.int .i64 (valI s.data.toList), .int .i64 (valI t.data.toList), .bool true])) := by
  have H1 := hide (fun w => rsmall_yes s c1 hs w)
  have H2 := hide (fun w => rsmall_yes t c2 ht w)
  clear c1 c2 hs ht
  go_enter Tryz.func42, Tryz.ntmps42
  go_wp2_with fail
  refine (H1.out _).mono ?_
  rintro e w1 ⟨rfl, hb1⟩
  have HB1 := hide hb1
  clear hb1 H1
  go_wp2_with fail
  refine (H2.out _).mono ?_
  rintro e w2 ⟨rfl, hb2⟩
  have HB2 := hide (HB1.out.trans (hb2.mono HB1.out.size))
  clear hb2 H2 HB1
  go_wp2_with fail
  go_ret3
  exact ⟨rfl, HB2.out⟩
/-- What two returns where one of the texts is too long: false, whatever the numbers. -/
def TwoNo (w : World) (e : Ending) (w2 : World) : Prop := ∃ x y : Int, Ret w (.tuple #[.int .i64 x, .int .i64 y, .bool false]) e w2
set_option maxRecDepth 100000 in
set_option maxHeartbeats 2000000 in
theorem rtwo_no (s t : ByteArray) (c1 : chkI s.data.toList = 0) (h : ¬ (s.size ≤ 17 ∧ t.size ≤ 17)) (w : World) :
    Calls Tryz.prog 42 #[.string s, .string t] w (TwoNo w) := by
  by_cases hs : s.size ≤ 17
  · have H1 := hide (fun w => rsmall_yes s c1 hs w)
    have H2 := hide (fun w => rsmall_no t (by omega) w)
    clear c1 hs h
    go_enter Tryz.func42, Tryz.ntmps42
    go_wp2_with fail
    refine (H1.out _).mono ?_
    rintro e w1 ⟨rfl, hb1⟩
    have HB1 := hide hb1
    clear hb1 H1
    go_wp2_with fail
    refine (H2.out _).mono ?_
    rintro e w2 ⟨rfl, hb2⟩
    have HB2 := hide (HB1.out.trans (hb2.mono HB1.out.size))
    clear hb2 H2 HB1
    go_wp2_with fail
    go_ret3
    exact ⟨_, _, rfl, HB2.out⟩
  · have H1 := hide (fun w => rsmall_no s (by omega) w)
    clear c1 hs h
    go_enter Tryz.func42, Tryz.ntmps42
    go_wp2_with fail
    refine (H1.out _).mono ?_
    rintro e w1 ⟨rfl, hb1⟩
    have HB1 := hide hb1
    clear hb1 H1
    go_wp2_with fail
    go_ret3
    exact ⟨_, _, rfl, HB1.out⟩
/-- What size returns. -/
def SizeRes (x y : List Nat) (w : World) (e : Ending) (w2 : World) : Prop := ∃ r : Int, e = .returned (.int .i64 r) ∧ CmpRes r (lv 1000000 x) (lv 1000000 y) ∧ Below w.heap.size w w2
set_option maxRecDepth 100000 in
set_option maxHeartbeats 4000000 in
theorem rsize_any (va vb : Value) (x y : List Nat) (B : Nat) (w : World) (ha : LimbAt B w va x) (hb : LimbAt B w vb y) (hB : B ≤ w.heap.size) (hx : Norm 1000000 x) (hy : Norm 1000000 y) (lx : x.length ≤ 100000) :
    Calls Tryz.prog 56 #[va, vb] w (SizeRes x y w) := by
  obtain ⟨a0, c0, hva⟩ := ha.form
  obtain ⟨a1, c1, hvb⟩ := hb.form
  subst hva; subst hvb
  have HA := hide ha; have HBB := hide hb; have HX := hide hx; have HY := hide hy
  clear ha hb hx hy
  by_cases hlen : x.length = y.length
  · have hq : ((x.length : Int) != (y.length : Int)) = false := by rw [hlen]; simp
    have HL := hide hlen
    obtain ⟨n, hn⟩ : ∃ n, n = x.length := ⟨_, rfl⟩
    have hyn : y.length = n := by omega
    have HN := hide hn; have HYN := hide hyn
    rw [← hn] at lx hq ⊢
    rw [hyn] at hq ⊢
    clear hlen hn hyn
    go_enter Tryz.func56, Tryz.ntmps56
    go_wp2_with fail
    go_loopw [5] (fun i wr => ∃ k : Nat, k ≤ n ∧ i = .int .i64 ((n : Int) - 1 - k) ∧ Hid ((∀ j, j < k → lat x (n - 1 - j) = lat y (n - 1 - j)) ∧ Below w.heap.size w wr)) (fun i _ => (intOf i + 1).toNat)
    case atStart => exact ⟨0, Nat.zero_le _, by simp, fun j hj => by omega, Below.refl _ _⟩
    case round =>
      obtain ⟨k, hk, rfl, hin⟩ := hrel
      have IN := hide hin.out
      clear hin
      by_cases hlt : k < n
      · obtain ⟨m, hm⟩ : ∃ m : Nat, (n : Int) - 1 - (k : Int) = m := ⟨n - 1 - k, by omega⟩
        have hm2 : n - 1 - k = m := by omega
        rw [hm]
        have hmi : (m : Int) < (n : Int) := by omega
        rcases (HA.out.below IN.out.2 hB).cases with ⟨_, _, _, hnil⟩ | ⟨g, o, cap, hv, hg, hc⟩
        · have := HN.out
          rw [hnil] at this
          simp at this
          omega
        injection hv with hv1 hv2 hv3
        rcases (HBB.out.below IN.out.2 hB).cases with ⟨_, _, _, hnil⟩ | ⟨g', o', cap', hv', hg', hc'⟩
        · have := HYN.out
          rw [hnil] at this
          simp at this
          omega
        injection hv' with hv1' hv2' hv3'
        subst hv1; subst hv1'
        have q1 := hc m (by have := HN.out; omega)
        have q2 := hc' m (by have := HYN.out; omega)
        have hc3 := upper_cmp_b (b := 1000000) (by omega) HX.out.lt HY.out.lt HL.out (k := k) (by have := HN.out; omega) (by rw [← HN.out]; exact IN.out.1)
        rw [← HN.out, hm2] at hc3
        obtain ⟨X, hX⟩ : ∃ X, X = lat x m := ⟨_, rfl⟩
        obtain ⟨Y, hY⟩ : ∃ Y, Y = lat y m := ⟨_, rfl⟩
        have HXY := hide (show X = Y → lat x (n - 1 - k) = lat y (n - 1 - k) from fun h => by rw [hm2, ← hX, ← hY]; exact h)
        rw [← hX, ← hY] at hc3
        rw [← hX] at q1
        rw [← hY] at q2
        have HC3 := hide hc3
        have HM := hide hm
        clear hc hc' hv2 hv2' hv3 hv3' hX hY hc3 hm hm2 hg hg'
        by_cases h1 : X < Y
        · have t1 : (X : Int) < (Y : Int) := by omega
          have HR := hide (HC3.out.1 h1)
          clear h1
          go_wp2_with fail
          go_quiet (fail)
          have HB2 := hide (below_drewN IN.out.2 nq)
          go_wp2_with fail
          go_ret
          exact ⟨_, rfl, ⟨⟨fun _ => HR.out, fun _ => by omega⟩, ⟨fun h => by omega, fun h => by have := HR.out; omega⟩⟩, HB2.out⟩
        · have t1 : ((X : Int) < (Y : Int)) = False := eq_false (by omega)
          by_cases h2 : Y < X
          · have t2 : (Y : Int) < (X : Int) := by omega
            have HR := hide (HC3.out.2 h2)
            clear h1 h2
            go_wp2_with fail
            go_quiet (fail)
            have HB2 := hide (below_drewN IN.out.2 nq)
            go_wp2_with fail
            go_quiet (fail)
            have HB3 := hide (below_drewN HB2.out nq)
            go_wp2_with fail
            go_ret
            exact ⟨_, rfl, ⟨⟨fun h => by omega, fun h => by have := HR.out; omega⟩, ⟨fun h => by omega, fun h => by have := HR.out; omega⟩⟩, HB3.out.os, HB3.out.tape, HB3.out.output, HB3.out.size, HB3.out.block⟩
          · have t2 : ((Y : Int) < (X : Int)) = False := eq_false (by omega)
            have HE := hide (HXY.out (by omega))
            clear h1 h2
            go_wp2_with fail
            go_quiet (fail)
            have HB2 := hide (below_drewN IN.out.2 nq)
            go_wp2_with fail
            go_quiet (fail)
            have HB3 := hide (below_drewN HB2.out nq)
            go_wp2_with fail
            go_roundw
            case rel =>
              refine ⟨k + 1, by omega, by have := HM.out; congr 1; omega, fun j hj => ?_, HB3.out.os, HB3.out.tape, HB3.out.output, HB3.out.size, HB3.out.block⟩
              rcases Nat.lt_or_ge j k with h | h
              · exact IN.out.1 j h
              · obtain rfl : j = k := by omega
                exact HE.out
            case measure => simp [intOf]
      · obtain rfl : k = n := by omega
        have hm : (k : Int) - 1 - (k : Int) = -1 := by omega
        rw [hm]
        have HXY := hide (show x = y from all_cmp HL.out (fun j hj => by rw [← HN.out]; exact IN.out.1 j (by have := HN.out; omega)))
        clear hm hlt
        go_wp2_with fail
        go_ret
        exact ⟨_, rfl, ⟨by rw [HXY.out]; omega, by rw [HXY.out]; simp⟩, IN.out.2⟩
  · have hq : ((x.length : Int) != (y.length : Int)) = true := by
      have : (x.length : Int) ≠ (y.length : Int) := by omega
      simpa using this
    rcases Nat.lt_or_gt_of_ne hlen with h | h
    · have HR := hide (norm_len_lt (b := 1000000) (by omega) HX.out.lt HY.out h)
      have t1 : (x.length : Int) < (y.length : Int) := by omega
      clear hlen h
      go_enter Tryz.func56, Tryz.ntmps56
      go_wp2_with fail
      go_ret
      exact ⟨_, rfl, ⟨⟨fun _ => HR.out, fun _ => by omega⟩, ⟨fun h => by omega, fun h => by have := HR.out; omega⟩⟩, Below.refl _ _⟩
    · have HR := hide (norm_len_lt (b := 1000000) (by omega) HY.out.lt HX.out h)
      have t1 : ((x.length : Int) < (y.length : Int)) = False := eq_false (by omega)
      clear hlen h
      go_enter Tryz.func56, Tryz.ntmps56
      go_wp2_with fail
      go_ret
      exact ⟨_, rfl, ⟨⟨fun h => by omega, fun h => by have := HR.out; omega⟩, ⟨fun h => by omega, fun h => by have := HR.out; omega⟩⟩, Below.refl _ _⟩
end Go.Proofs.YthkioajalhglfaaGreatDoor
namespace Go.Proofs.YthkioajalhglfaaGreatDoor
open Go.RowKit Go.KP Go.KI Go.Shelf
attribute [local go_sem] Oper.semAt_some

theorem radd_nums {X Y C : Nat} (hX : X < 1000000) (hY : Y < 1000000) (hC : C ≤ 1) :
    ∃ T Q R : Nat, (X : Int) + (Y : Int) + (C : Int) = (T : Int) ∧ (T : Int) / 1000000 = (Q : Int) ∧ (T : Int) % 1000000 = (R : Int) ∧ T ≤ 2000000 ∧ Q ≤ 1 ∧ R < 1000000 ∧ X + Y + C = R + 1000000 * Q := by
  refine ⟨X + Y + C, (X + Y + C) / 1000000, (X + Y + C) % 1000000, by omega, by omega, by omega, by omega, by omega, by omega, by omega⟩
/-- What the reference's operations return: a row of limbs of their own, of this value. -/
def RowRes (v : Nat) (n : Nat) (w : World) (e : Ending) (w2 : World) : Prop := ∃ l, LimbsRet w l e w2 ∧ Norm 1000000 l ∧ lv 1000000 l = v ∧ l.length ≤ n
theorem empty_own (w : World) : OwnL w.heap.size (w.alloc (.cells #[] 3)) (.slice (some ⟨w.heap.size, 0, none⟩) 0 0) [] := by
  refine ⟨by simp [icells], .inr ⟨w.heap.size, 0, #[], rfl, Nat.le_refl _, heap_alloc_new _ _, Nat.le_refl _, by unfold maxLen; omega, rfl, rfl⟩⟩
set_option maxRecDepth 100000 in
set_option maxHeartbeats 4000000 in
theorem rplus_any (va vb : Value) (x y : List Nat) (B : Nat) (w : World) (ha : LimbAt B w va x) (hb : LimbAt B w vb y) (hB : B ≤ w.heap.size) (hx : Lt 1000000 x) (hy : Lt 1000000 y) (lx : x.length ≤ 100000) (ly : y.length ≤ 100000) :
    Calls Tryz.prog 58 #[va, vb] w (RowRes (lv 1000000 x + lv 1000000 y) (max x.length y.length + 1) w) := by
  obtain ⟨a0, c0, hva⟩ := ha.form
  obtain ⟨a1, c1, hvb⟩ := hb.form
  subst hva; subst hvb
  obtain ⟨i0, hi0, hz0, hz1, hz2⟩ := info_parts info3
  have HA := hide ha; have HBB := hide hb; have HX := hide hx; have HY := hide hy
  obtain ⟨n, hn⟩ : ∃ n, n = max x.length y.length := ⟨_, rfl⟩
  have hnl : n ≤ 100000 := by omega
  have HN := hide hn
  have HE0 := hide (empty_own w)
  have HBe := hide ((Below.refl w.heap.size w).alloc (Nat.le_refl _) (.cells #[] 3))
  clear ha hb hx hy hn
  go_enter Tryz.func58, Tryz.ntmps58
  go_wp2_with fail
  go_loopw [5, 6, 7] (fun v c i wr => ∃ (k C : Nat) (L : List Nat), k ≤ n + 1 ∧ i = .int .i64 k ∧ c = .int .i64 C ∧ C ≤ 1 ∧ Hid (OwnL w.heap.size wr v L ∧ Below w.heap.size w wr ∧ L.length = k ∧ Lt 1000000 L ∧ lv 1000000 L + 1000000 ^ k * C = lvT 1000000 x k + lvT 1000000 y k)) (fun _ _ i _ => n + 2 - (intOf i).toNat)
  case atStart => exact ⟨0, 0, [], Nat.zero_le _, rfl, rfl, Nat.zero_le _, HE0.out, HBe.out, rfl, fun z hz => by simp at hz, by rw [lvT_zero, lvT_zero]; rfl⟩
  case round =>
    obtain ⟨k, C, L, hk, rfl, rfl, hC, hin⟩ := hrel
    have hsz := hin.out.2.1.size
    obtain ⟨va2, vc2, hvf, hcap, _⟩ := hin.out.1.form
    have hLk := hin.out.2.2.1
    rw [hLk] at hvf hcap
    subst hvf
    have IN := hide hin.out
    clear hin
    have hcarry : n + 1 ≤ k → C = 0 := fun h => by
      have h1 := IN.out.2.2.2.2
      rw [lvT_all (l := x) (by have := HN.out; omega), lvT_all (l := y) (by have := HN.out; omega)] at h1
      have h2 := lv_lt HX.out
      have h3 := lv_lt HY.out
      have h4 : 1000000 ^ x.length ≤ 1000000 ^ n := Nat.pow_le_pow_right (by omega) (by have := HN.out; omega)
      have h5 : 1000000 ^ y.length ≤ 1000000 ^ n := Nat.pow_le_pow_right (by omega) (by have := HN.out; omega)
      obtain rfl : k = n + 1 := by omega
      rw [Nat.pow_succ] at h1
      rcases Nat.eq_zero_or_pos C with h6 | h6
      · exact h6
      · exfalso
        have h7 : 1000000 ^ n * 1000000 * 1 ≤ 1000000 ^ n * 1000000 * C := Nat.mul_le_mul_left _ h6
        omega
    have HCA := hide hcarry
    clear hcarry
    rcases (show (k < x.length) ∨ (¬ k < x.length ∧ k < y.length) ∨ (¬ k < x.length ∧ ¬ k < y.length ∧ 0 < C) ∨ (¬ k < x.length ∧ ¬ k < y.length ∧ C = 0) by omega) with h1 | ⟨h1, h2⟩ | ⟨h1, h2, h3⟩ | ⟨h1, h2, h3⟩
    case' inl =>
      have t1 : (k : Int) < (x.length : Int) := by omega
      have hkn : k ≤ n := by have := HN.out; omega
    case' inr.inl =>
      have t1 : ((k : Int) < (x.length : Int)) = False := eq_false (by omega)
      have t2 : (k : Int) < (y.length : Int) := by omega
      have hkn : k ≤ n := by have := HN.out; omega
    case' inr.inr.inl =>
      have t1 : ((k : Int) < (x.length : Int)) = False := eq_false (by omega)
      have t2 : ((k : Int) < (y.length : Int)) = False := eq_false (by omega)
      have t3 : 0 < C := h3
      have hkn : k ≤ n := by
        rcases Nat.lt_or_ge n k with h | h
        · have := HCA.out h
          omega
        · exact h
    rotate_right
    · have t1 : ((k : Int) < (x.length : Int)) = False := eq_false (by omega)
      have t2 : ((k : Int) < (y.length : Int)) = False := eq_false (by omega)
      subst h3
      have HT := hide (rtrim_any va2 vc2 L wr.heap.size wr (by rw [hLk]; exact IN.out.1.at_) (by omega) (by omega))
      rw [hLk] at HT
      have HV := hide (show lv 1000000 L = lv 1000000 x + lv 1000000 y by
        have h4 := IN.out.2.2.2.2
        rw [lvT_all (l := x) (by omega), lvT_all (l := y) (by omega), Nat.mul_zero, Nat.add_zero] at h4
        exact h4)
      have HLK := hide hLk
      clear h1 h2 hLk
      go_wp2_with fail
      refine HT.out.mono ?_
      rintro e w1 ⟨rfl, rfl⟩
      go_wp2_with fail
      go_ret
      refine ⟨trimL L, ⟨_, rfl, IN.out.2.1, ?_⟩, trimL_norm IN.out.2.2.2.1, by rw [trimL_lv, HV.out], ?_⟩
      · have hc := IN.out.1.cut (k := trimTo L k) (by rw [HLK.out]; have := trimTo_le L k; omega)
        unfold trimL
        rw [HLK.out]
        exact hc
      · rw [trimL_len]
        have := trimTo_le L L.length
        have := HLK.out
        have := HN.out
        omega
    all_goals
      have hL1 := hide (fun W (h : Below w.heap.size w W) => rlimb_any (.slice a0 x.length c0) x k B W (HA.out.below h hB) (by omega))
      have hL2 := hide (fun W (h : Below w.heap.size w W) => rlimb_any (.slice a1 y.length c1) y k B W (HBB.out.below h hB) (by omega))
      have hxk := lat_lt (by omega) HX.out k
      have hyk := lat_lt (by omega) HY.out k
      obtain ⟨X, hX⟩ : ∃ X, X = lat x k := ⟨_, rfl⟩
      obtain ⟨Y, hY⟩ : ∃ Y, Y = lat y k := ⟨_, rfl⟩
      rw [← hX] at hL1 hxk
      rw [← hY] at hL2 hyk
      obtain ⟨T, Q, R, hT, hQ, hR, hTl, hQl, hRl, hs⟩ := radd_nums hxk hyk hC
      have HXE := hide hX; have HYE := hide hY; have HS := hide hs; have HQE := hide hQ
      have HOW := hide (show (wr.alloc (.cells #[.int .i64 R] 3)).ownsRow w.heap.size 3 1 (.slice va2 k vc2) k (icells L) by
        have h := IN.out.1
        unfold OwnL at h
        rw [hLk] at h
        exact h.alloc _)
      have HNW := hide (show ∀ j u, ([.int .i64 R] : List Value)[j]? = some u → (wr.alloc (.cells #[.int .i64 R] 3)).cell? ((⟨wr.heap.size, 0, none⟩ : Addr).add j) = some u from World.news_of_block (cs := #[.int .i64 R]) (t := 3) (fr := (0, 0)) (heap_alloc_new wr _))
      have HLK := hide hLk
      clear hX hY hs hLk
      go_wp2_with fail
      refine (hL1.out wr IN.out.2.1).mono ?_
      rintro e w1 ⟨rfl, rfl⟩
      go_wp2_with fail
      refine (hL2.out _ IN.out.2.1).mono ?_
      rintro e w1 ⟨rfl, rfl⟩
      clear hL1 hL2
      go_wp2_with (at_builtin; go_must (refine wpList_append_own _ rfl (.tmp 35) (.tmp 38) 46 rfl w.heap.size 3 i0 _ 1 8 Tryz.underlying46 hi0 hz0 hz1 hz2 rfl (by decide) (.slice va2 k vc2) _ _ rfl HOW.out ⟨w1.heap.size, 0, none⟩ 1 1 [.int .i64 R] rfl rfl HNW.out (by simp [Value.oneCell']) (by simp only [maxLen]; omega) (by omega) (by simp; omega) ?_); intro v1 w5 hown hg1 hiff; clear hiff; have HOW5 := hide hown; have HGR := hide hg1; clear hown hg1)
      go_roundw
      case rel =>
        refine ⟨k + 1, Q, L ++ [R], by omega, by go_num, by first | rfl | rw [HQE.out], hQl, ?_, (IN.out.2.1.alloc (by omega) _).grown HGR.out (by simp; omega) (owns_ge IN.out.1 (Nat.le_refl _)), by rw [List.length_append, HLK.out]; rfl, ?_, ?_⟩
        · show World.ownsRow _ _ _ _ _ (L ++ [R]).length (icells (L ++ [R]))
          rw [List.length_append, HLK.out, icells_append]
          exact HOW5.out
        · intro z hz
          rcases List.mem_append.1 hz with h | h
          · exact IN.out.2.2.2.1 z h
          · simp only [List.mem_singleton] at h
            rw [h]
            exact hRl
        · rw [lv_snoc, HLK.out, lvT_succ, lvT_succ, ← HXE.out, ← HYE.out]
          exact plus_step IN.out.2.2.2.2 HS.out
      case measure => simp [intOf]; omega
theorem rsub_nums {X Y C : Nat} (hX : X < 1000000) (hY : Y < 1000000) (hC : C ≤ 1) :
    (∃ R : Nat, (X : Int) - (Y : Int) - (C : Int) = (R : Int) ∧ R < 1000000 ∧ R + Y + C = X + 1000000 * 0) ∨
    (∃ m R : Nat, (X : Int) - (Y : Int) - (C : Int) = -(m : Int) ∧ 0 < m ∧ m ≤ 1000000 ∧ -(m : Int) + 1000000 = (R : Int) ∧ R < 1000000 ∧ R + Y + C = X + 1000000 * 1) := by
  by_cases h : Y + C ≤ X
  · exact .inl ⟨X - (Y + C), by omega, by omega, by omega⟩
  · exact .inr ⟨Y + C - X, 1000000 + X - (Y + C), by omega, by omega, by omega, by omega, by omega, by omega⟩
set_option maxRecDepth 100000 in
set_option maxHeartbeats 4000000 in
theorem rminus_any (va vb : Value) (x y : List Nat) (B : Nat) (w : World) (ha : LimbAt B w va x) (hb : LimbAt B w vb y) (hB : B ≤ w.heap.size) (hx : Lt 1000000 x) (hy : Norm 1000000 y) (lx : x.length ≤ 100000) (hle : lv 1000000 y ≤ lv 1000000 x) :
    Calls Tryz.prog 80 #[va, vb] w (RowRes (lv 1000000 x - lv 1000000 y) x.length w) := by
  obtain ⟨a0, c0, hva⟩ := ha.form
  obtain ⟨a1, c1, hvb⟩ := hb.form
  subst hva; subst hvb
  obtain ⟨i0, hi0, hz0, hz1, hz2⟩ := info_parts info3
  have hyl := norm_le_b (b := 1000000) (by omega) hy hx hle
  have HA := hide ha; have HBB := hide hb; have HX := hide hx; have HY := hide hy.lt; have HLE := hide hle
  have HE0 := hide (empty_own w)
  have HBe := hide ((Below.refl w.heap.size w).alloc (Nat.le_refl _) (.cells #[] 3))
  clear ha hb hx hy hle
  go_enter Tryz.func80, Tryz.ntmps80
  go_wp2_with fail
  go_loopw [5, 6, 7] (fun v c i wr => ∃ (k C : Nat) (L : List Nat), k ≤ x.length ∧ i = .int .i64 k ∧ c = .int .i64 C ∧ C ≤ 1 ∧ Hid (OwnL w.heap.size wr v L ∧ Below w.heap.size w wr ∧ L.length = k ∧ Lt 1000000 L ∧ lv 1000000 L + lvT 1000000 y k = lvT 1000000 x k + 1000000 ^ k * C)) (fun _ _ i _ => x.length - (intOf i).toNat)
  case atStart => exact ⟨0, 0, [], Nat.zero_le _, rfl, rfl, Nat.zero_le _, HE0.out, HBe.out, rfl, fun z hz => by simp at hz, by rw [lvT_zero, lvT_zero]; rfl⟩
  case round =>
    obtain ⟨k, C, L, hk, rfl, rfl, hC, hin⟩ := hrel
    have hsz := hin.out.2.1.size
    obtain ⟨va2, vc2, hvf, hcap, _⟩ := hin.out.1.form
    have hLk := hin.out.2.2.1
    rw [hLk] at hvf hcap
    subst hvf
    have IN := hide hin.out
    clear hin
    by_cases hlt : k < x.length
    · have t1 : (k : Int) < (x.length : Int) := by omega
      have hk0 : (0 : Int) ≤ (k : Int) := by omega
      rcases (HA.out.below IN.out.2.1 hB).cases with ⟨_, _, _, hnil⟩ | ⟨g, o, cap, hv, hg, hcl⟩
      · rw [hnil] at hlt
        simp at hlt
      injection hv with hv1 hv2 hv3
      subst hv1; subst hv3
      have q1 := hcl k hlt
      have hL2 := hide (fun m : Nat => rlimb_any (.slice a1 y.length c1) y k B (wr.drewN m) (HBB.out.below (below_drewN IN.out.2.1 m) hB) (by omega))
      have hxk := lat_lt (by omega) HX.out k
      have hyk := lat_lt (by omega) HY.out k
      obtain ⟨X, hX⟩ : ∃ X, X = lat x k := ⟨_, rfl⟩
      obtain ⟨Y, hY⟩ : ∃ Y, Y = lat y k := ⟨_, rfl⟩
      rw [← hX] at q1 hxk
      rw [← hY] at hL2 hyk
      have HXE := hide hX; have HYE := hide hY; have HLK := hide hLk
      have hnums := rsub_nums hxk hyk hC
      have hw0 : IntKind.i64.wrap ((X : Int) - (Y : Int)) = (X : Int) - (Y : Int) := IntWalk.i64_in _ (by omega)
      clear hX hY hcl hv2 hg hlt
      rcases hnums with ⟨R, hR, hRl, hs⟩ | ⟨m, R, hm, hm0, hml, hR, hRl, hs⟩
      case' inl =>
        have hw1 : IntKind.i64.wrap ((X : Int) - (Y : Int) - (C : Int)) = (R : Int) := by rw [hR]; exact IntWalk.i64_in _ (by omega)
        have t2 : ((R : Int) < 0) = False := eq_false (by omega)
        have HCN := hide (show (0 : Nat) ≤ 1 by omega)
        obtain ⟨C2, hC2⟩ : ∃ C2 : Nat, C2 = 0 := ⟨_, rfl⟩
      case' inr =>
        have hw1 : IntKind.i64.wrap ((X : Int) - (Y : Int) - (C : Int)) = -(m : Int) := by rw [hm]; exact IntWalk.i64_in _ (by omega)
        have hw2 : IntKind.i64.wrap (-(m : Int) + 1000000) = (R : Int) := by rw [hR]; exact IntWalk.i64_in _ (by omega)
        have t2 : 0 < m := hm0
        clear hm hR
        obtain ⟨C2, hC2⟩ : ∃ C2 : Nat, C2 = 1 := ⟨_, rfl⟩
      all_goals
        rw [← hC2] at hs
        have HS := hide hs
        have HC2 := hide hC2
        have HOW := hide (fun nq : Nat => show ((wr.drewN nq).alloc (.cells #[.int .i64 R] 3)).ownsRow w.heap.size 3 1 (.slice va2 k vc2) k (icells L) by
          have h : OwnL w.heap.size (wr.drewN nq) (.slice va2 k vc2) L := IN.out.1
          unfold OwnL at h
          rw [hLk] at h
          exact h.alloc _)
        have HNW := hide (fun nq : Nat => show ∀ j u, ([.int .i64 R] : List Value)[j]? = some u → ((wr.drewN nq).alloc (.cells #[.int .i64 R] 3)).cell? ((⟨wr.heap.size, 0, none⟩ : Addr).add j) = some u from World.news_of_block (cs := #[.int .i64 R]) (t := 3) (fr := (0, 0)) (heap_alloc_new (wr.drewN nq) _))
        clear hs hC2 hLk
        go_wp2_with fail
        go_quiet ((go_at_call 79; exact Calls.quiet_of_same (hL2.out _)))
        clear hL2 q1 hw0 hw1
        go_wp2_with (at_builtin; go_must (refine wpList_append_own _ rfl (.tmp 30) (.tmp 32) 46 rfl w.heap.size 3 i0 _ 1 8 Tryz.underlying46 hi0 hz0 hz1 hz2 rfl (by decide) (.slice va2 k vc2) _ _ rfl (HOW.out nq) ⟨wr.heap.size, 0, none⟩ 1 1 [.int .i64 R] rfl rfl (HNW.out nq) (by simp [Value.oneCell']) (by simp only [maxLen]; omega) (by omega) (by simp; omega) ?_); intro v1 w5 hown hg1 hiff; clear hiff; have HOW5 := hide hown; have HGR := hide hg1; clear hown hg1)
        go_roundw
        case rel =>
          refine ⟨k + 1, C2, L ++ [R], by omega, by go_num, by rw [HC2.out]; rfl, by have := HC2.out; omega, ?_, ((below_drewN IN.out.2.1 nq).alloc (by show w.heap.size ≤ wr.heap.size; omega) _).grown HGR.out (by simp; omega) (owns_ge IN.out.1 (Nat.le_refl _)), by rw [List.length_append, HLK.out]; rfl, ?_, ?_⟩
          · show World.ownsRow _ _ _ _ _ (L ++ [R]).length (icells (L ++ [R]))
            rw [List.length_append, HLK.out, icells_append]
            exact HOW5.out
          · intro z hz
            rcases List.mem_append.1 hz with h | h
            · exact IN.out.2.2.2.1 z h
            · simp only [List.mem_singleton] at h
              rw [h]
              exact hRl
          · rw [lv_snoc, HLK.out, lvT_succ, lvT_succ, ← HXE.out, ← HYE.out]
            have := minus_step IN.out.2.2.2.2 HS.out
            omega
        case measure => simp [intOf]; omega
    · obtain rfl : k = x.length := by omega
      have t1 : ((x.length : Int) < (x.length : Int)) = False := eq_false (by omega)
      have HT := hide (rtrim_any va2 vc2 L wr.heap.size wr (by rw [hLk]; exact IN.out.1.at_) (by omega) (by omega))
      rw [hLk] at HT
      have HV := hide (show lv 1000000 L = lv 1000000 x - lv 1000000 y by
        have h4 := IN.out.2.2.2.2
        rw [lvT_all (l := x) (Nat.le_refl _), lvT_all (l := y) hyl] at h4
        have h5 := lv_lt IN.out.2.2.2.1
        rw [hLk] at h5
        have h6 := HLE.out
        rcases Nat.eq_zero_or_pos C with h7 | h7
        · rw [h7, Nat.mul_zero] at h4
          omega
        · exfalso
          have h8 : 1000000 ^ x.length * 1 ≤ 1000000 ^ x.length * C := Nat.mul_le_mul_left _ h7
          omega)
      have HLK := hide hLk
      clear hlt hLk
      go_wp2_with fail
      refine HT.out.mono ?_
      rintro e w1 ⟨rfl, rfl⟩
      go_wp2_with fail
      go_ret
      refine ⟨trimL L, ⟨_, rfl, IN.out.2.1, ?_⟩, trimL_norm IN.out.2.2.2.1, by rw [trimL_lv, HV.out], ?_⟩
      · have hc := IN.out.1.cut (k := trimTo L x.length) (by rw [HLK.out]; have := trimTo_le L x.length; omega)
        unfold trimL
        rw [HLK.out]
        exact hc
      · rw [trimL_len]
        have := trimTo_le L L.length
        have := HLK.out
        omega
end Go.Proofs.YthkioajalhglfaaGreatDoor
namespace Go.Proofs.YthkioajalhglfaaGreatDoor
open Go.RowKit Go.KP Go.KI Go.Shelf
attribute [local go_sem] Oper.semAt_some

theorem rtimes_nums {X Y Q C : Nat} (hX : X < 1000000) (hY : Y < 1000000) (hQ : Q < 1000000) (hC : C < 1000000) :
    ∃ p T D R : Nat, p = X * Y ∧ (X : Int) * (Y : Int) = (p : Int) ∧ IntKind.i64.wrap (p : Int) = (p : Int) ∧ IntKind.i64.wrap ((Q : Int) + (p : Int)) = (Q : Int) + (p : Int) ∧ IntKind.i64.wrap ((Q : Int) + (p : Int) + (C : Int)) = (T : Int) ∧
      (T : Int) / 1000000 = (D : Int) ∧ (T : Int) % 1000000 = (R : Int) ∧ T ≤ 1000000000000 ∧ D < 1000000 ∧ R < 1000000 ∧ Q + X * Y + C = R + 1000000 * D := by
  have hm : X * Y ≤ 999999 * 999999 := Nat.mul_le_mul (by omega) (by omega)
  obtain ⟨p, hp⟩ : ∃ p, p = X * Y := ⟨_, rfl⟩
  rw [← hp] at hm
  have hpi : (X : Int) * (Y : Int) = (p : Int) := by rw [hp, Int.natCast_mul]
  refine ⟨p, Q + p + C, (Q + p + C) / 1000000, (Q + p + C) % 1000000, hp, hpi, IntWalk.i64_in _ (by omega), IntWalk.i64_in _ (by omega), ?_, by omega, by omega, by omega, by omega, by omega, by rw [← hp]; omega⟩
  rw [IntWalk.i64_in _ (by omega)]
  omega
set_option maxRecDepth 100000 in
set_option maxHeartbeats 8000000 in
theorem rtimes_any (va vb : Value) (x y : List Nat) (B : Nat) (w : World) (ha : LimbAt B w va x) (hb : LimbAt B w vb y) (hB : B ≤ w.heap.size) (hx : Lt 1000000 x) (hy : Lt 1000000 y) (lx : x.length ≤ 100000) (ly : y.length ≤ 100000) :
    Calls Tryz.prog 57 #[va, vb] w (RowRes (lv 1000000 x * lv 1000000 y) (x.length + y.length + 1) w) := by
  obtain ⟨a0, c0, hva⟩ := ha.form
  obtain ⟨a1, c1, hvb⟩ := hb.form
  subst hva; subst hvb
  obtain ⟨n, hn⟩ : ∃ n, n = x.length + y.length + 1 := ⟨_, rfl⟩
  have hn2 : (x.length : Int) + (y.length : Int) + 1 = (n : Int) := by omega
  have hmk := make_ints n (by omega)
  have HA := hide ha; have HBB := hide hb; have HX := hide hx; have HY := hide hy; have HN := hide hn
  have hnb : n ≤ 200001 := by omega
  clear ha hb hx hy hn
  go_enter Tryz.func57, Tryz.ntmps57
  go_wp2_with fail
  clear hmk hn2
  have H0 := hide (heap_alloc_new w (rowO (zeros n))); have HB0 := hide ((Below.refl w.heap.size w).alloc (Nat.le_refl _) (rowO (zeros n)))
  go_loopw [6] (fun i wr => ∃ k : Nat, k ≤ x.length ∧ i = .int .i64 k ∧ Hid (∃ L : List Nat, L.length = n ∧ Lt 1000000 L ∧ lv 1000000 L = lvT 1000000 x k * lv 1000000 y ∧ wr.heap[w.heap.size]? = some (rowO L) ∧ Below w.heap.size w wr)) (fun i _ => x.length - (intOf i).toNat)
  case atStart =>
    refine ⟨0, Nat.zero_le _, rfl, zeros n, zeros_len n, zeros_lt _ _ (by omega), ?_, H0.out, HB0.out⟩
    rw [lvT_zero, zeros, lv_zeros]
    simp
  case round =>
    obtain ⟨i, hi, rfl, hin⟩ := hrel
    obtain ⟨L0, hL0n, hL0t, hL0v, hL0b, hL0w⟩ := hin.out
    have hsz := lt_blk hL0b
    by_cases hlt : i < x.length
    · have e3 : (i : Int) < (x.length : Int) := by omega
      rcases (HA.out.below hL0w hB).cases with ⟨_, _, _, hnil⟩ | ⟨b, o, cap, hv, hbb, hcl⟩
      · rw [hnil] at hlt
        simp at hlt
      injection hv with hv1 hv2 hv3
      subst hv1; subst hv3
      have hcell := hide (fun W (h : Below w.heap.size w W) => (h.cell (p := ⟨b, o + i, none⟩) (by simp; omega)).trans ((hL0w.cell (p := ⟨b, o + i, none⟩) (by simp; omega)).symm.trans (hcl i hlt)))
      have hxi := lat_lt (by omega) HX.out i
      obtain ⟨X, hX⟩ : ∃ X, X = lat x i := ⟨_, rfl⟩
      rw [← hX] at hcell hxi
      have HXE := hide hX; have HL0 := hide hL0b; have HW0 := hide hL0w; have HV0 := hide hL0v; have HN0 := hide hL0n; have HT0 := hide hL0t
      clear hcl hv2 hX hL0n hL0t hL0v hL0b hL0w hin hbb
      obtain ⟨wo, hwo⟩ : ∃ wo, wo = wr := ⟨_, rfl⟩
      subst hwo
      go_wp2_with fail
      go_loopw [7, 8] (fun c j wr => ∃ (k C : Nat), k ≤ y.length + 1 ∧ j = .int .i64 k ∧ c = .int .i64 C ∧ C < 1000000 ∧ Hid (∃ L : List Nat, L.length = n ∧ Lt 1000000 L ∧ lv 1000000 L + 1000000 ^ (i + k) * C = lv 1000000 L0 + X * lvT 1000000 y k * 1000000 ^ i ∧ wr.heap[w.heap.size]? = some (rowO L) ∧ Below w.heap.size w wr)) (fun _ j _ => y.length + 1 - (intOf j).toNat)
      case atStart =>
        refine ⟨0, 0, Nat.zero_le _, rfl, rfl, by omega, L0, HN0.out, HT0.out, ?_, HL0.out, HW0.out⟩
        rw [lvT_zero]
        simp
      case round =>
        obtain ⟨k, C, hk, rfl, rfl, hC, hin⟩ := hrel
        obtain ⟨L, hLn, hLt, hLv, hLb, hLw⟩ := hin.out
        have hsz2 := lt_blk hLb
        have hzero : y.length + 1 ≤ k → C = 0 := fun h => by
          have hk1 : k = y.length + 1 := by omega
          exact times_zero (by omega) HX.out HY.out hk1 (hLv.trans (times_total HV0.out (X := X) HXE.out (k := k) (by omega)))
        have hdone : ¬ k < y.length → C = 0 → lv 1000000 L = lvT 1000000 x (i + 1) * lv 1000000 y := fun h h2 => by
          have htot := hLv.trans (times_total HV0.out (X := X) HXE.out (k := k) (by omega))
          rw [h2] at htot
          simpa using htot
        rcases (show (k < y.length) ∨ (¬ k < y.length ∧ 0 < C) ∨ (¬ k < y.length ∧ C = 0) by omega) with h1 | ⟨h1, h2⟩ | ⟨h1, h2⟩
        case' inl =>
          have e4 : (k : Int) < (y.length : Int) := by omega
          have hkl : k < y.length + 1 := by omega
        case' inr.inl =>
          have e4 : ((k : Int) < (y.length : Int)) = False := eq_false (by omega)
          have e5 : 0 < C := h2
          have hkl : k < y.length + 1 := by
            rcases Nat.lt_or_ge k (y.length + 1) with h | h
            · exact h
            · have := hzero h
              omega
        rotate_right
        · have e4 : ((k : Int) < (y.length : Int)) = False := eq_false (by omega)
          have HLE := hide (hdone h1 h2)
          subst h2
          have HLt := hide hLt; have HLn := hide hLn; have HLb := hide hLb; have HLw := hide hLw
          clear hLv hLt hLn hLb hLw hzero hdone hin h1
          go_wp2_with fail
          go_roundw
          case rel => exact ⟨i + 1, by omega, by go_num, L, HLn.out, HLt.out, HLE.out, HLb.out, HLw.out⟩
          case measure => simp [intOf]; omega
        all_goals
          have hik : i + k < L.length := by rw [hLn, HN.out]; omega
          have q1 := row_cell hLb hik
          have q2 := row_froz hLb (i + k)
          have q3 := hcell.out wr hLw
          have hyk := lat_lt (by omega) HY.out k
          have hlk := lat_lt (by omega) hLt (i + k)
          have hlim := hide (fun m : Nat => rlimb_any (.slice a1 y.length c1) y k B (wr.drewN m) (HBB.out.below (below_drewN hLw m) hB) (by omega))
          obtain ⟨Y, hY⟩ : ∃ Y, Y = lat y k := ⟨_, rfl⟩
          obtain ⟨Q, hQ⟩ : ∃ Q, Q = lat L (i + k) := ⟨_, rfl⟩
          rw [← hY] at hyk hlim
          rw [← hQ] at hlk q1
          obtain ⟨p, T, Dv, R, -, hpi, w2, w3, w4, hD, hR, hTl, hDl, hRl, hs⟩ := rtimes_nums hxi hyk hlk hC
          have w1 : IntKind.i64.wrap ((i : Int) + (k : Int)) = (i : Int) + (k : Int) := IntWalk.i64_in _ (by omega)
          have j0 : (0 : Int) ≤ (i : Int) + (k : Int) := by omega
          have j1 : (i : Int) + (k : Int) < (n : Int) := by have := HN.out; omega
          have j2 : ((i : Int) + (k : Int)).toNat = i + k := by omega
          have HLv := hide hLv; have HLt := hide hLt; have HLn := hide hLn; have HLb := hide hLb; have HLw := hide hLw; have HYE := hide hY; have HQE := hide hQ; have HIK := hide hik; have HS := hide hs; have HDE := hide hD
          clear hLv hLt hLn hLb hLw hY hQ hik hin hs hzero hdone h1
          go_wp2_with fail
          go_quiet ((go_at_call 79; exact Calls.quiet_of_same (hlim.out _)))
          clear w2 w3 w4 hpi hlim
          go_wp2_with fail
          go_roundw
          case rel =>
            refine ⟨k + 1, Dv, by omega, by go_num, by first | rfl | rw [HDE.out], hDl, L.set (i + k) R, by rw [List.length_set]; exact HLn.out, lt_set HLt.out hRl, ?_, ?_, ?_⟩
            · rw [lvT_succ, ← HYE.out]
              have h1 := lv_set (b := 1000000) R HIK.out
              rw [← HQE.out] at h1
              exact times_step HLv.out h1 HS.out
            · exact row_set (w := wr.drewN nq) HLb.out (i + k) _
            · exact (below_drewN HLw.out nq).setCell (p := ⟨w.heap.size, i + k, none⟩) (Nat.le_refl _) _
          case measure => simp [intOf]; omega
    · have e3 : ¬ (i : Int) < (x.length : Int) := by omega
      have HE := hide (show lv 1000000 L0 = lv 1000000 x * lv 1000000 y by rw [hL0v, lvT_all (l := x) (i := i) (by omega)])
      have HT := hide (rtrim_any (some ⟨w.heap.size, 0, none⟩) n L0 wr.heap.size wr (by
        have := row_limbs hL0b (by unfold maxLen; omega)
        rw [hL0n] at this ⊢
        exact this) (by omega) (by omega))
      rw [hL0n] at HT
      have HO := hide (row_owns hL0b (Nat.le_refl _) (by unfold maxLen; omega))
      have HLn := hide hL0n; have HLw := hide hL0w; have HLt := hide hL0t
      clear hL0n hL0t hL0v hL0b hL0w hin
      go_wp2_with fail
      refine HT.out.mono ?_
      rintro e w1 ⟨rfl, rfl⟩
      go_wp2_with fail
      go_ret
      refine ⟨trimL L0, ⟨_, rfl, HLw.out, ?_⟩, trimL_norm HLt.out, by rw [trimL_lv, HE.out], ?_⟩
      · have hc := HO.out.cut (k := trimTo L0 n) (by rw [HLn.out]; exact trimTo_le _ _)
        rw [HLn.out] at hc
        unfold trimL
        rw [HLn.out]
        exact hc
      · rw [trimL_len]
        have := trimTo_le L0 L0.length
        have := HLn.out
        have := HN.out
        omega
end Go.Proofs.YthkioajalhglfaaGreatDoor
