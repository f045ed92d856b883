/-
  Integers: the law Squares.
-/
import Derived.Test.YthkioajalhglfaaGreatDoorQh
import Derived.Test.YthkioajalhglfaaGreatDoorL10
import Derived.Test.YthkioajalhglfaaGreatDoorL5
namespace Go.Proofs.YthkioajalhglfaaGreatDoor
open Go.RowKit Go.KP Go.KI Go.Shelf
attribute [local go_sem] Oper.semAt_some

set_option maxRecDepth 100000 in
set_option maxHeartbeats 2000000 in
theorem Root_zero (s : ByteArray) (h : s.data.toList = [48]) (w : World) : Calls Tryz.prog 21 #[.string s] w (Ret w (pairT s)) := by
  have c1 : chkI s.data.toList = 0 := by rw [h, ← itoa_zero]; exact chk_fits fits_zero
  have hsz : s.size = 1 := by rw [← bytes_len, h]; rfl
  have H1 := hide (check_any s (by omega) w)
  rw [c1] at H1
  have hne : s.data.toList ≠ [] := by rw [h]; simp
  obtain ⟨hp, hh⟩ := bytes_head hne
  have hp0 : (0 : Int) < (s.size : Int) := by omega
  have h45 : ((s[0].toNat : Int) == 45) = false := by
    rw [h] at hh
    have : s[0] = 48 := by simpa using hh.symm
    rw [this]
    rfl
  have hz : (s.toList == [48]) = true := by rw [ByteArray.toList_eq, h]; rfl
  clear c1 h hne hh hsz
  go_enter Tryz.func21, Tryz.ntmps21
  go_wp2_with fail
  refine H1.out.mono ?_
  rintro e w1 ⟨rfl, hb1⟩
  have HB1 := hide hb1
  clear hb1 H1
  go_wp2_with fail
  refine bodyPost_ret (results_tmp2 rfl _ _ _) rfl ?_
  exact ⟨rfl, HB1.out⟩
set_option maxRecDepth 100000 in
set_option maxHeartbeats 2000000 in
theorem Root_neg (s : ByteArray) (c1 : chkI s.data.toList = 0) (hp : 0 < s.size) (hh : ((s[0].toNat : Int) == 45) = true) (w : World) : Calls Tryz.prog 21 #[.string s] w (Ret w (.tuple #[.string ⟨#[]⟩, .int .i64 2])) := by
  have l1' := (chk_digs c1).2
  rw [bytes_len] at l1'
  have H1 := hide (check_any s (by omega) w)
  rw [c1] at H1
  have hp0 : (0 : Int) < (s.size : Int) := by omega
  clear c1 l1'
  go_enter Tryz.func21, Tryz.ntmps21
  go_wp2_with fail
  refine H1.out.mono ?_
  rintro e w1 ⟨rfl, hb1⟩
  have HB1 := hide hb1
  clear hb1 H1
  go_wp2_with fail
  refine bodyPost_ret (results_tmp2 rfl _ _ _) rfl ?_
  exact ⟨rfl, HB1.out⟩
theorem Root_all {s r : ByteArray} {n : Nat} (h1 : s.data.toList = Lib.itoa (n : Int)) (h3 : r.data.toList = Lib.itoa ((rootN n : Nat) : Int)) (f1 : fits (n : Int)) (B : Nat) (w : World) (hB : B ≤ w.heap.size) (hT : P10 B w) :
    Calls Tryz.prog 21 #[.string s] w (Ret w (pairT r)) := by
  rcases Nat.eq_zero_or_pos n with h0 | h0
  · subst h0
    have e1 : s.data.toList = [48] := by rw [h1]; exact itoa_zero
    have e2 : r = s := bytes_eq (by rw [h1, h3]; rfl)
    rw [e2]
    exact Root_zero s e1 w
  · exact Root_to h1 h3 f1 h0 B w hB hT
theorem rootN_sq (n : Nat) : rootN (n * n) = n := rootN_eq (Nat.le_refl _) (Nat.mul_lt_mul'' (by omega) (by omega))
set_option maxRecDepth 100000 in
set_option maxHeartbeats 8000000 in
theorem squares_any (a : ByteArray) (B : Nat) (w : World) (hB : B ≤ w.heap.size) (hT : P10 B w) :
    Calls Tryz.prog 11 #[.string a] w (Ret w (.bool true)) := by
  have HT := hide hT
  have HAW := hide (fun w2 (hb : Below w.heap.size w w2) => awake_any B w2 (Nat.le_trans hB hb.size) (hT.on hb hB))
  clear hT
  have HF := hide (fun t => fine_any w.heap.size [a] (w.alloc (.cells #[.string a] t)) (by simp) (heap_one w a t) (by simp))
  obtain ⟨F, hF⟩ : ∃ F, F = decide (∀ s ∈ [a], fineS s) := ⟨_, rfl⟩
  rw [← hF] at HF
  have G0 := hide (fun o => (heap1 w o).2.2)
  cases F
  · clear hF
    go_enter Tryz.func11, Tryz.ntmps11
    go_wp2_with fail
    refine (HF.out _).mono ?_
    rintro e w1 ⟨rfl, hb1⟩
    have HB1 := hide ((G0.out _).trans (hb1.mono (G0.out _).size))
    clear hb1 HF G0
    go_wp2_with fail
    refine (HAW.out _ HB1.out).mono ?_
    rintro e w2 ⟨rfl, hb2⟩
    have HB2 := hide (HB1.out.trans (hb2.mono HB1.out.size))
    clear hb2 HAW HB1
    go_wp2_with fail
    go_ret
    exact ⟨rfl, HB2.out⟩
  · have hf := of_decide_eq_true hF.symm
    have fa := hf a (by simp)
    clear hF hf
    have va := fine_val fa
    have ca := fa.2
    have ea := (chk_ok fa.2).1
    obtain ⟨x, hx⟩ : ∃ x, x = valI a.data.toList := ⟨_, rfl⟩
    rw [← hx] at va ea
    clear fa hx
    have mk : ∀ u : Int, ∃ s : ByteArray, s.data.toList = Lib.itoa u := fun u => ⟨strB _, strB_list _⟩
    obtain ⟨p, hp⟩ : ∃ p, p = (10 : Nat) ^ 80 := ⟨_, rfl⟩
    rw [← hp] at va
    have hp1 : 1000 ≤ p := by
      rw [hp]
      exact Nat.le_trans (show 1000 ≤ 10 ^ 3 by decide) (Nat.pow_le_pow_right (by omega) (by omega))
    have fz : ∀ u : Int, u.natAbs < p * p * 10 → fits u := fun u hu => fits_small (n := 161) (by rw [most_eq]; omega) (by
      rw [hp, ← Nat.pow_add, ← Nat.pow_succ] at hu
      exact hu)
    have hpp : p * 1000 ≤ p * p := Nat.mul_le_mul_left _ hp1
    have wxx := mul_lt_p va va
    obtain ⟨k, hk⟩ : ∃ k : Nat, k = x.natAbs := ⟨_, rfl⟩
    have hkk : x * x = ((k * k : Nat) : Int) := by rw [hk, Int.natCast_mul]; exact Int.natAbs_mul_self.symm
    have fx : fits x := fz x (by omega)
    have fxx : fits (x * x) := fz _ (by omega)
    have fk : fits (k : Int) := fz _ (by omega)
    obtain ⟨s2, e1⟩ := mk (x * x)
    obtain ⟨A, e2⟩ := mk (k : Int)
    have tA : (A.toList == A.toList) = true := beq_self_eq_true _
    have K1 := hide (fun B w => Mul_to ea ea e1 fx fx fxx B w)
    have K2 := hide (fun B w => Root_all (s := s2) (n := k * k) (by rw [e1, hkk]) (r := A) (by rw [rootN_sq]; exact e2) (by rw [← hkk]; exact fxx) B w)
    have K3 := hide (fun B w => Gcd_to ea (t := ⟨#[48]⟩) itoa_zero.symm (r := A) (by rw [show (0 : Int).natAbs = 0 from rfl, Nat.gcd_zero_right, ← hk]; exact e2) fx fits_zero B w)
    have hmx3 : ∀ w : World, (Builtin.max_ #[24, 24, 24] 24 #[.int .i64 0, .int .i64 0, .int .i64 0]).run Tryz.prog w = .ok (.int .i64 0) w := fun _ => by kernel_rfl
    have hane : a.data.toList ≠ [] := by
      intro e
      rw [e] at ca
      exact absurd ca (by decide)
    obtain ⟨hap, hah⟩ := bytes_head hane
    have hap0 : (0 : Int) < (a.size : Int) := by omega
    by_cases hneg : x < 0
    · have h45 : ((a[0].toNat : Int) == 45) = true := by
        have h1 := (head_itoa x).2 hneg
        rw [← ea, hah] at h1
        have : a[0] = 45 := by simpa using h1
        rw [this]
        rfl
      have K4 := hide (fun w => Root_neg a ca hap h45 w)
      clear va ca ea mk hp hp1 fz hpp wxx hk hkk fx fxx fk e1 e2 hane hah hneg
      go_enter Tryz.func11, Tryz.ntmps11
      go_wp2_with fail
      refine (HF.out _).mono ?_
      rintro e w1 ⟨rfl, hb1⟩
      have HB1 := hide ((G0.out _).trans (hb1.mono (G0.out _).size))
      clear hb1 HF G0
      go_wp2_with fail
      refine (K1.out B _ (Nat.le_trans hB HB1.out.size) (HT.out.on HB1.out hB)).mono ?_
      rintro e w2 ⟨rfl, hb2⟩
      have HB2 := hide (HB1.out.trans (hb2.mono HB1.out.size))
      clear hb2 K1 HB1
      go_wp2_with fail
      refine (K2.out B _ (Nat.le_trans hB HB2.out.size) (HT.out.on HB2.out hB)).mono ?_
      rintro e w3 ⟨rfl, hb3⟩
      have HB3 := hide (HB2.out.trans (hb3.mono HB2.out.size))
      clear hb3 K2 HB2
      go_wp2_with fail
      refine (K3.out B _ (Nat.le_trans hB HB3.out.size) (HT.out.on HB3.out hB)).mono ?_
      rintro e w4 ⟨rfl, hb4⟩
      have HB4 := hide (HB3.out.trans (hb4.mono HB3.out.size))
      clear hb4 K3 HB3
      go_wp2_with fail
      refine (K4.out _).mono ?_
      rintro e w5 ⟨rfl, hb5⟩
      have HB5 := hide (HB4.out.trans (hb5.mono HB4.out.size))
      clear hb5 K4 HB4
      go_wp2_with fail
      refine (HAW.out _ HB5.out).mono ?_
      rintro e w6 ⟨rfl, hb6⟩
      have HB6 := hide (HB5.out.trans (hb6.mono HB5.out.size))
      clear hb6 HAW HB5
      go_wp2_with fail
      go_ret
      exact ⟨rfl, HB6.out⟩
    · have hxk : x = (k : Int) := by omega
      have h45 : ((a[0].toNat : Int) == 45) = false := by
        have h1 : a[0] ≠ 45 := fun e => by
          rw [e, ea] at hah
          exact hneg ((head_itoa x).1 hah)
        have : a[0].toNat ≠ 45 := fun h => h1 (UInt8.toNat_inj.1 h)
        simp only [beq_eq_false_iff_ne, ne_eq]
        omega
      obtain ⟨g1, g2⟩ := rootN_spec k
      obtain ⟨r0, hr0⟩ : ∃ r0, r0 = rootN k := ⟨_, rfl⟩
      rw [← hr0] at g1 g2
      have hrk : r0 ≤ k := by
        rcases Nat.eq_zero_or_pos r0 with h | h
        · omega
        · have : r0 * 1 ≤ r0 * r0 := Nat.mul_le_mul_left _ h
          omega
      have hrp : ((r0 : Nat) : Int).natAbs < p := by rw [Int.natAbs_natCast]; omega
      have wrr := mul_lt_p hrp hrp
      have hnn : (((r0 + 1 : Nat) : Int) * ((r0 + 1 : Nat) : Int)).natAbs < p * p * 10 := by
        rw [← Int.natCast_mul, Int.natAbs_natCast]
        have h1 : r0 + 1 ≤ p := by rw [Int.natAbs_natCast] at hrp; exact hrp
        have := Nat.mul_le_mul h1 h1
        omega
      obtain ⟨r, e3⟩ := mk (r0 : Int)
      obtain ⟨nx, e4⟩ := mk ((r0 + 1 : Nat) : Int)
      obtain ⟨lo, e5⟩ := mk ((r0 : Int) * (r0 : Int))
      obtain ⟨hi, e6⟩ := mk (((r0 + 1 : Nat) : Int) * ((r0 + 1 : Nat) : Int))
      have fr : fits (r0 : Int) := fz _ (by omega)
      have fn : fits ((r0 + 1 : Nat) : Int) := fz _ (by omega)
      have fl : fits ((r0 : Int) * (r0 : Int)) := fz _ (by omega)
      have fh : fits (((r0 + 1 : Nat) : Int) * ((r0 + 1 : Nat) : Int)) := fz _ hnn
      have K4 := hide (fun B w => Root_all (s := a) (n := k) (by rw [ea, hxk]) (r := r) (by rw [← hr0]; exact e3) (by rw [← hxk]; exact fx) B w)
      have K5 := hide (fun B w => Add_to e3 (t := ⟨#[49]⟩) itoa_one.symm (r := nx) e4 fr fits_one fn B w)
      have K6 := hide (fun B w => Mul_to e3 e3 e5 fr fr fl B w)
      have K7 := hide (fun B w => Mul_to e4 e4 e6 fn fn fh B w)
      obtain ⟨m, hm⟩ : ∃ m, Lib.compareInt ((r0 : Int) * (r0 : Int)) x = m := ⟨_, rfl⟩
      have hm0 : m ≤ 0 := by
        rw [← hm]
        have h1 : (r0 : Int) * (r0 : Int) ≤ x := by rw [hxk, ← Int.natCast_mul]; omega
        unfold Lib.compareInt
        split
        · omega
        · split <;> omega
      have hn1 : Lib.compareInt (((r0 + 1 : Nat) : Int) * ((r0 + 1 : Nat) : Int)) x = 1 := cmp_pos (by rw [hxk, ← Int.natCast_mul]; omega)
      have K8 := hide (fun w => Compare_to e5 ea fl fx hm w)
      have K9 := hide (fun w => Compare_to e6 ea fh fx hn1 w)
      have hmx : ∀ w : World, (Builtin.max_ #[24, 24, 24, 24, 24, 24] 24 #[.int .i64 0, .int .i64 0, .int .i64 0, .int .i64 0, .int .i64 0, .int .i64 0]).run Tryz.prog w = .ok (.int .i64 0) w := fun _ => by kernel_rfl
      clear va ca ea mk hp hp1 fz hpp wxx hk hkk fx fxx fk e1 e2 hane hah hneg hxk g1 g2 hr0 hrk hrp wrr hnn e3 e4 e5 e6 fr fn fl fh hm hn1
      go_enter Tryz.func11, Tryz.ntmps11
      go_wp2_with fail
      refine (HF.out _).mono ?_
      rintro e w1 ⟨rfl, hb1⟩
      have HB1 := hide ((G0.out _).trans (hb1.mono (G0.out _).size))
      clear hb1 HF G0
      go_wp2_with fail
      refine (K1.out B _ (Nat.le_trans hB HB1.out.size) (HT.out.on HB1.out hB)).mono ?_
      rintro e w2 ⟨rfl, hb2⟩
      have HB2 := hide (HB1.out.trans (hb2.mono HB1.out.size))
      clear hb2 K1 HB1
      go_wp2_with fail
      refine (K2.out B _ (Nat.le_trans hB HB2.out.size) (HT.out.on HB2.out hB)).mono ?_
      rintro e w3 ⟨rfl, hb3⟩
      have HB3 := hide (HB2.out.trans (hb3.mono HB2.out.size))
      clear hb3 K2 HB2
      go_wp2_with fail
      refine (K3.out B _ (Nat.le_trans hB HB3.out.size) (HT.out.on HB3.out hB)).mono ?_
      rintro e w4 ⟨rfl, hb4⟩
      have HB4 := hide (HB3.out.trans (hb4.mono HB3.out.size))
      clear hb4 K3 HB3
      go_wp2_with fail
      refine (K4.out B _ (Nat.le_trans hB HB4.out.size) (HT.out.on HB4.out hB)).mono ?_
      rintro e w5 ⟨rfl, hb5⟩
      have HB5 := hide (HB4.out.trans (hb5.mono HB4.out.size))
      clear hb5 K4 HB4
      go_wp2_with fail
      refine (K5.out B _ (Nat.le_trans hB HB5.out.size) (HT.out.on HB5.out hB)).mono ?_
      rintro e w6 ⟨rfl, hb6⟩
      have HB6 := hide (HB5.out.trans (hb6.mono HB5.out.size))
      clear hb6 K5 HB5
      go_wp2_with fail
      refine (K6.out B _ (Nat.le_trans hB HB6.out.size) (HT.out.on HB6.out hB)).mono ?_
      rintro e w7 ⟨rfl, hb7⟩
      have HB7 := hide (HB6.out.trans (hb7.mono HB6.out.size))
      clear hb7 K6 HB6
      go_wp2_with fail
      refine (K7.out B _ (Nat.le_trans hB HB7.out.size) (HT.out.on HB7.out hB)).mono ?_
      rintro e w8 ⟨rfl, hb8⟩
      have HB8 := hide (HB7.out.trans (hb8.mono HB7.out.size))
      clear hb8 K7 HB7
      go_wp2_with fail
      refine (K8.out _).mono ?_
      rintro e w9 ⟨rfl, hb9⟩
      have HB9 := hide (HB8.out.trans (hb9.mono HB8.out.size))
      clear hb9 K8 HB8
      go_wp2_with fail
      refine (K9.out _).mono ?_
      rintro e w10 ⟨rfl, hb10⟩
      have HB10 := hide (HB9.out.trans (hb10.mono HB9.out.size))
      clear hb10 K9 HB9
      go_wp2_with fail
      refine (HAW.out _ HB10.out).mono ?_
      rintro e w11 ⟨rfl, hb11⟩
      have HB11 := hide (HB10.out.trans (hb11.mono HB10.out.size))
      clear hb11 HAW HB10
      go_wp2_with fail
      go_ret
      exact ⟨rfl, HB11.out⟩
end Go.Proofs.YthkioajalhglfaaGreatDoor
