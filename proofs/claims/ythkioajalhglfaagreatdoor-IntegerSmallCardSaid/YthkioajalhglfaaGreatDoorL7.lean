/-
  Integers: the law Ring.
-/
import Derived.Test.YthkioajalhglfaaGreatDoorL9
namespace Go.Proofs.YthkioajalhglfaaGreatDoor
open Go.RowKit Go.KP Go.KI Go.Shelf
attribute [local go_sem] Oper.semAt_some

abbrev pairT (r : ByteArray) : Value := .tuple #[.string r, .int .i64 0]
theorem strB_eq {r : ByteArray} {l : List UInt8} (h : r.data.toList = l) : strB l = r := bytes_eq (by rw [strB_list, h])
theorem Add_to {s t r : ByteArray} {x y : Int} (h1 : s.data.toList = Lib.itoa x) (h2 : t.data.toList = Lib.itoa y) (h3 : r.data.toList = Lib.itoa (x + y)) (f1 : fits x) (f2 : fits y) (f3 : fits (x + y)) (B : Nat) (w : World) (hB : B ≤ w.heap.size) (hT : P10 B w) :
    Calls Tryz.prog 26 #[.string s, .string t] w (Ret w (pairT r)) := by
  have := Add_good h1 h2 f1 f2 f3 B w hB hT
  rw [pairV, strB_eq h3] at this
  exact this
theorem Sub_to {s t r : ByteArray} {x y : Int} (h1 : s.data.toList = Lib.itoa x) (h2 : t.data.toList = Lib.itoa y) (h3 : r.data.toList = Lib.itoa (x - y)) (f1 : fits x) (f2 : fits y) (f3 : fits (x - y)) (B : Nat) (w : World) (hB : B ≤ w.heap.size) (hT : P10 B w) :
    Calls Tryz.prog 27 #[.string s, .string t] w (Ret w (pairT r)) := by
  have := Sub_good h1 h2 f1 f2 f3 B w hB hT
  rw [pairV, strB_eq h3] at this
  exact this
theorem Mul_to {s t r : ByteArray} {x y : Int} (h1 : s.data.toList = Lib.itoa x) (h2 : t.data.toList = Lib.itoa y) (h3 : r.data.toList = Lib.itoa (x * y)) (f1 : fits x) (f2 : fits y) (f3 : fits (x * y)) (B : Nat) (w : World) (hB : B ≤ w.heap.size) (hT : P10 B w) :
    Calls Tryz.prog 15 #[.string s, .string t] w (Ret w (pairT r)) := by
  have c1 : chkI s.data.toList = 0 := by rw [h1]; exact chk_fits f1
  have c2 : chkI t.data.toList = 0 := by rw [h2]; exact chk_fits f2
  have b : bothI s.data.toList t.data.toList = 0 := by unfold bothI; rw [if_pos c1, c2]
  have l1 := (chk_digs c1).2
  have l2 := (chk_digs c2).2
  rw [bytes_len] at l1 l2
  obtain ⟨_, _, e1, e2⟩ := op2_good (f := (· * ·)) b
  have := Mul_any s t B w (by omega) (by omega) hB hT
  rw [e1, e2, h1, h2, val_itoa, val_itoa] at this
  have e3 : resS (x * y) = Lib.itoa (x * y) := if_pos f3
  have e4 : resE (x * y) = 0 := if_pos f3
  rw [pairV, e3, e4, strB_eq h3] at this
  exact this
theorem mul_lt_p {x y : Int} {p q : Nat} (hx : x.natAbs < p) (hy : y.natAbs < q) : (x * y).natAbs < p * q := by
  rw [Int.natAbs_mul]
  exact Nat.mul_lt_mul'' hx hy
set_option maxRecDepth 100000 in
set_option maxHeartbeats 4000000 in
theorem ring_any (a b c : ByteArray) (B : Nat) (w : World) (hB : B ≤ w.heap.size) (hT : P10 B w) :
    Calls Tryz.prog 7 #[.string a, .string b, .string c] w (Ret w (.bool true)) := by
  have HT := hide hT
  have HAW := hide (fun w2 (hb : Below w.heap.size w w2) => awake_any B w2 (Nat.le_trans hB hb.size) (hT.on hb hB))
  clear hT
  have HF := hide (fun t => fine_any w.heap.size [a, b, c] (w.alloc (.cells #[.string a, .string b, .string c] t)) (by simp) (heap_three w a b c t) (by simp))
  obtain ⟨F, hF⟩ : ∃ F, F = decide (∀ s ∈ [a, b, c], fineS s) := ⟨_, rfl⟩
  rw [← hF] at HF
  cases F
  · have G0 := hide (fun o => (heap1 w o).2.2)
    clear hF
    go_enter Tryz.func7, Tryz.ntmps7
    go_wp2_with fail
    refine (HF.out _).mono ?_
    rintro e w1 ⟨rfl, hb1⟩
    have HB1 := hide ((G0.out _).trans (hb1.mono (G0.out _).size))
    clear hb1 HF G0
    go_wp2_with fail
    refine (HAW.out _ HB1.out).mono ?_
    rintro e w2 ⟨rfl, hb2⟩
    have HB2 := hide (HB1.out.trans (hb2.mono HB1.out.size))
    clear hb2 HAW HB1
    go_wp2_with fail
    go_ret
    exact ⟨rfl, HB2.out⟩
  · have hf := of_decide_eq_true hF.symm
    have fa := hf a (by simp)
    have fb := hf b (by simp)
    have fc := hf c (by simp)
    clear hF hf
    have va := fine_val fa
    have vb := fine_val fb
    have vc := fine_val fc
    have ea := (chk_ok fa.2).1
    have eb := (chk_ok fb.2).1
    have ec := (chk_ok fc.2).1
    obtain ⟨x, hx⟩ : ∃ x, x = valI a.data.toList := ⟨_, rfl⟩
    obtain ⟨y, hy⟩ : ∃ y, y = valI b.data.toList := ⟨_, rfl⟩
    obtain ⟨z, hz⟩ : ∃ z, z = valI c.data.toList := ⟨_, rfl⟩
    rw [← hx] at va ea
    rw [← hy] at vb eb
    rw [← hz] at vc ec
    clear fa fb fc hx hy hz
    have mk : ∀ u : Int, ∃ s : ByteArray, s.data.toList = Lib.itoa u := fun u => ⟨strB _, strB_list _⟩
    obtain ⟨s1, e1⟩ := mk (x + y)
    obtain ⟨s2, e2⟩ := mk (x + y + z)
    obtain ⟨s3, e3⟩ := mk (y + z)
    obtain ⟨p1, g1⟩ := mk (x * y)
    obtain ⟨p2, g2⟩ := mk (x * y * z)
    obtain ⟨p3, g3⟩ := mk (y * z)
    obtain ⟨p4, g4⟩ := mk (x * (y + z))
    obtain ⟨p5, g5⟩ := mk (x * z)
    obtain ⟨p, hp⟩ : ∃ p, p = (10 : Nat) ^ 81 := ⟨_, rfl⟩
    have h81 : (10 : Nat) ^ 81 = 10 ^ 80 * 10 := Nat.pow_succ ..
    have fz : ∀ u : Int, u.natAbs < p * p * p → fits u := fun u hu => fits_small (n := 243) (by rw [most_eq]; omega) (by rw [hp, ← Nat.pow_add, ← Nat.pow_add] at hu; exact hu)
    have hp1 : 1000 ≤ p := by
      rw [hp]
      exact Nat.le_trans (show 1000 ≤ 10 ^ 3 by decide) (Nat.pow_le_pow_right (by omega) (by omega))
    have wa : x.natAbs < p := by omega
    have wb : y.natAbs < p := by omega
    have wc : z.natAbs < p := by omega
    have wyz : (y + z).natAbs < p := by omega
    have hpp : p * 1000 ≤ p * p := Nat.mul_le_mul_left _ hp1
    have hppp : p * p * 1000 ≤ p * p * p := Nat.mul_le_mul_left _ hp1
    have w1 := mul_lt_p wa wb
    have w3 := mul_lt_p wb wc
    have w5 := mul_lt_p wa wc
    have w4 := mul_lt_p wa wyz
    have w2 := mul_lt_p w1 wc
    obtain ⟨pp, hpp2⟩ : ∃ pp, pp = p * p := ⟨_, rfl⟩
    obtain ⟨ppp, hppp2⟩ : ∃ ppp, ppp = p * p * p := ⟨_, rfl⟩
    rw [← hpp2] at hpp w1 w3 w5 w4
    rw [← hppp2] at fz hppp w2
    rw [← hpp2] at hppp
    have q4 : x * (y + z) = x * y + x * z := Int.mul_add ..
    have q2 : x * (y * z) = x * y * z := (Int.mul_assoc ..).symm
    have fx := fz x (by omega)
    have fy := fz y (by omega)
    have f0 := fz z (by omega)
    have fxy := fz (x + y) (by omega)
    have fyz := fz (y + z) (by omega)
    have fxyz := fz (x + y + z) (by omega)
    have m1 := fz (x * y) (by omega)
    have m3 := fz (y * z) (by omega)
    have m5 := fz (x * z) (by omega)
    have m4 := fz (x * (y + z)) (by omega)
    have m2 := fz (x * y * z) (by omega)
    have K1 := hide (fun B w => Add_to ea eb e1 fx fy fxy B w)
    have K2 := hide (fun B w => Add_to eb ea (r := s1) (by rw [e1, Int.add_comm]) fy fx (by rw [Int.add_comm]; exact fxy) B w)
    have K3 := hide (fun B w => Add_to e1 ec e2 fxy f0 fxyz B w)
    have K4 := hide (fun B w => Add_to eb ec e3 fy f0 fyz B w)
    have K5 := hide (fun B w => Add_to ea e3 (r := s2) (by rw [e2, Int.add_assoc]) fx fyz (by rw [← Int.add_assoc]; exact fxyz) B w)
    have K6 := hide (fun B w => Sub_to e1 eb (r := a) (by rw [ea, Int.add_sub_cancel]) fxy fy (by rw [Int.add_sub_cancel]; exact fx) B w)
    have M1 := hide (fun B w => Mul_to ea eb g1 fx fy m1 B w)
    have M2 := hide (fun B w => Mul_to eb ea (r := p1) (by rw [g1, Int.mul_comm]) fy fx (by rw [Int.mul_comm]; exact m1) B w)
    have M3 := hide (fun B w => Mul_to g1 ec g2 m1 f0 m2 B w)
    have M4 := hide (fun B w => Mul_to eb ec g3 fy f0 m3 B w)
    have M5 := hide (fun B w => Mul_to ea g3 (r := p2) (by rw [g2, q2]) fx m3 (by rw [q2]; exact m2) B w)
    have M6 := hide (fun B w => Mul_to ea e3 g4 fx fyz m4 B w)
    have M7 := hide (fun B w => Mul_to ea ec g5 fx f0 m5 B w)
    have K7 := hide (fun B w => Add_to g1 g5 (r := p4) (by rw [g4, q4]) m1 m5 (by rw [← q4]; exact m4) B w)
    have G0 := hide (fun o => (heap1 w o).2.2)
    have hmx6 : ∀ w : World, (Builtin.max_ #[24, 24, 24, 24, 24, 24] 24 #[.int .i64 0, .int .i64 0, .int .i64 0, .int .i64 0, .int .i64 0, .int .i64 0]).run Tryz.prog w = .ok (.int .i64 0) w := fun _ => by kernel_rfl
    have hmx8 : ∀ w : World, (Builtin.max_ #[24, 24, 24, 24, 24, 24, 24, 24] 24 #[.int .i64 0, .int .i64 0, .int .i64 0, .int .i64 0, .int .i64 0, .int .i64 0, .int .i64 0, .int .i64 0]).run Tryz.prog w = .ok (.int .i64 0) w := fun _ => by kernel_rfl
    clear va vb vc ea eb ec mk e1 e2 e3 g1 g2 g3 g4 g5 hp h81 fz hp1 wa wb wc wyz hpp hppp w1 w3 w5 w4 w2 hpp2 hppp2 q4 q2 fx fy f0 fxy fyz fxyz m1 m2 m3 m4 m5
    go_enter Tryz.func7, Tryz.ntmps7
    go_wp2_with fail
    refine (HF.out _).mono ?_
    rintro e w1 ⟨rfl, hb1⟩
    have HB1 := hide ((G0.out _).trans (hb1.mono (G0.out _).size))
    clear hb1 HF G0
    go_wp2_with fail
    refine (K1.out B _ (Nat.le_trans hB HB1.out.size) (HT.out.on HB1.out hB)).mono ?_
    rintro e w2 ⟨rfl, hb2⟩
    have HB2 := hide (HB1.out.trans (hb2.mono HB1.out.size))
    clear hb2 K1 HB1
    go_wp2_with fail
    refine (K2.out B _ (Nat.le_trans hB HB2.out.size) (HT.out.on HB2.out hB)).mono ?_
    rintro e w3 ⟨rfl, hb3⟩
    have HB3 := hide (HB2.out.trans (hb3.mono HB2.out.size))
    clear hb3 K2 HB2
    go_wp2_with fail
    refine (K3.out B _ (Nat.le_trans hB HB3.out.size) (HT.out.on HB3.out hB)).mono ?_
    rintro e w4 ⟨rfl, hb4⟩
    have HB4 := hide (HB3.out.trans (hb4.mono HB3.out.size))
    clear hb4 K3 HB3
    go_wp2_with fail
    refine (K4.out B _ (Nat.le_trans hB HB4.out.size) (HT.out.on HB4.out hB)).mono ?_
    rintro e w5 ⟨rfl, hb5⟩
    have HB5 := hide (HB4.out.trans (hb5.mono HB4.out.size))
    clear hb5 K4 HB4
    go_wp2_with fail
    refine (K5.out B _ (Nat.le_trans hB HB5.out.size) (HT.out.on HB5.out hB)).mono ?_
    rintro e w6 ⟨rfl, hb6⟩
    have HB6 := hide (HB5.out.trans (hb6.mono HB5.out.size))
    clear hb6 K5 HB5
    go_wp2_with fail
    refine (K6.out B _ (Nat.le_trans hB HB6.out.size) (HT.out.on HB6.out hB)).mono ?_
    rintro e w7 ⟨rfl, hb7⟩
    have HB7 := hide (HB6.out.trans (hb7.mono HB6.out.size))
    clear hb7 K6 HB6
    go_wp2_with fail
    refine (M1.out B _ (Nat.le_trans hB HB7.out.size) (HT.out.on HB7.out hB)).mono ?_
    rintro e w8 ⟨rfl, hb8⟩
    have HB8 := hide (HB7.out.trans (hb8.mono HB7.out.size))
    clear hb8 M1 HB7
    go_wp2_with fail
    refine (M2.out B _ (Nat.le_trans hB HB8.out.size) (HT.out.on HB8.out hB)).mono ?_
    rintro e w9 ⟨rfl, hb9⟩
    have HB9 := hide (HB8.out.trans (hb9.mono HB8.out.size))
    clear hb9 M2 HB8
    go_wp2_with fail
    refine (M3.out B _ (Nat.le_trans hB HB9.out.size) (HT.out.on HB9.out hB)).mono ?_
    rintro e w10 ⟨rfl, hb10⟩
    have HB10 := hide (HB9.out.trans (hb10.mono HB9.out.size))
    clear hb10 M3 HB9
    go_wp2_with fail
    refine (M4.out B _ (Nat.le_trans hB HB10.out.size) (HT.out.on HB10.out hB)).mono ?_
    rintro e w11 ⟨rfl, hb11⟩
    have HB11 := hide (HB10.out.trans (hb11.mono HB10.out.size))
    clear hb11 M4 HB10
    go_wp2_with fail
    refine (M5.out B _ (Nat.le_trans hB HB11.out.size) (HT.out.on HB11.out hB)).mono ?_
    rintro e w12 ⟨rfl, hb12⟩
    have HB12 := hide (HB11.out.trans (hb12.mono HB11.out.size))
    clear hb12 M5 HB11
    go_wp2_with fail
    refine (M6.out B _ (Nat.le_trans hB HB12.out.size) (HT.out.on HB12.out hB)).mono ?_
    rintro e w13 ⟨rfl, hb13⟩
    have HB13 := hide (HB12.out.trans (hb13.mono HB12.out.size))
    clear hb13 M6 HB12
    go_wp2_with fail
    refine (M7.out B _ (Nat.le_trans hB HB13.out.size) (HT.out.on HB13.out hB)).mono ?_
    rintro e w14 ⟨rfl, hb14⟩
    have HB14 := hide (HB13.out.trans (hb14.mono HB13.out.size))
    clear hb14 M7 HB13
    go_wp2_with fail
    refine (K7.out B _ (Nat.le_trans hB HB14.out.size) (HT.out.on HB14.out hB)).mono ?_
    rintro e w15 ⟨rfl, hb15⟩
    have HB15 := hide (HB14.out.trans (hb15.mono HB14.out.size))
    clear hb15 K7 HB14
    go_wp2_with fail
    refine (HAW.out _ HB15.out).mono ?_
    rintro e w16 ⟨rfl, hb16⟩
    have HB16 := hide (HB15.out.trans (hb16.mono HB15.out.size))
    clear hb16 HAW HB15
    go_wp2_with fail
    go_ret
    exact ⟨rfl, HB16.out⟩
end Go.Proofs.YthkioajalhglfaaGreatDoor
