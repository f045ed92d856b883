/-
  Integers: Root of short numbers walked; awake.
-/
import Derived.Test.YthkioajalhglfaaGreatDoorPs
namespace Go.Proofs.YthkioajalhglfaaGreatDoor
open Go.RowKit Go.KP Go.KI Go.Shelf
attribute [local go_sem] Oper.semAt_some

set_option maxRecDepth 100000 in
set_option maxHeartbeats 2000000 in
theorem Root_small (s : ByteArray) (n : Nat) (B : Nat) (w : World) (c1 : chkI s.data.toList = 0) (hs : s.size ≤ 18) (hn : valI s.data.toList = (n : Int)) (h0 : 0 < n) (hB : B ≤ w.heap.size) (hT : P10 B w) :
    Calls Tryz.prog 21 #[.string s] w (Ret w (pairV (Lib.itoa ((rootN n : Nat) : Int)) 0)) := by
  have HT := hide hT
  have H1 := hide (check_any s (by omega) w)
  rw [c1] at H1
  have HSR := hide (fun w2 (hb : Below w.heap.size w w2) => smallRoot_any s n B w2 c1 hs hn h0 (Nat.le_trans hB hb.size) (hT.on hb hB))
  have HRD := hide (fun w => read_good s c1 w)
  have hsi := (chk_ok c1).1
  rw [hn, Lib.itoa_nonneg] at hsi
  have hne : s.data.toList ≠ [] := by rw [hsi]; exact decDigits_ne _
  obtain ⟨hp, hh⟩ := bytes_head hne
  have hp0 : (0 : Int) < (s.size : Int) := by omega
  have h45 : ((s[0].toNat : Int) == 45) = false := by
    have h1 : s[0] ≠ 45 := fun e => by
      rw [e, hsi] at hh
      exact dec_head45 _ hh
    have : s[0].toNat ≠ 45 := fun h => h1 (UInt8.toNat_inj.1 h)
    simp only [beq_eq_false_iff_ne, ne_eq]
    omega
  have hz : (s.toList == [48]) = false := by
    rw [ByteArray.toList_eq]
    have : s.data.toList ≠ [48] := fun e => by
      have h2 := hn
      rw [e, ← itoa_zero, val_itoa] at h2
      omega
    simpa using this
  have hl18 : (s.size : Int) ≤ 18 := by omega
  clear hsi hne hh c1 hs hn hT
  have hfd : ∀ (w : World) (m : Bool) (a : Option Addr) (n c : Nat), (Instr.field 48 (.agg #[.bool m, .slice a n c]) 1).run Tryz.prog w = .ok (.slice a n c) w := fun _ _ _ _ _ => by kernel_rfl
  go_enter Tryz.func21, Tryz.ntmps21
  go_wp2_with fail
  refine H1.out.mono ?_
  rintro e w1 ⟨rfl, hb1⟩
  have HB1 := hide hb1
  clear hb1 H1
  go_wp2_with fail
  refine (HRD.out _).mono ?_
  rintro e w2 ⟨m1, a1, l1, rfl, hb2, o1, n1, q1, k1⟩
  obtain ⟨av, cv, hvf, _, _⟩ := o1.form
  subst hvf
  have HB2 := hide (HB1.out.trans (hb2.mono HB1.out.size))
  clear hb2 HRD o1 n1 q1 HB1 k1
  go_wp2_with fail
  refine (HSR.out _ HB2.out).mono ?_
  rintro e w3 ⟨rfl, hb3⟩
  have HB3 := hide (HB2.out.trans (hb3.mono HB2.out.size))
  clear hb3 HSR HB2
  go_wp2_with fail
  refine bodyPost_ret (results_tmp2 rfl _ _ _) rfl ?_
  exact ⟨rfl, HB3.out⟩
theorem itoa_m4 : Lib.itoa (-4) = [45, 52] := by
  have := Lib.itoa_neg 4 (by omega)
  rw [Lib.decDigits_one (by omega)] at this
  exact this
theorem itoa_m1 : Lib.itoa (-1) = [45, 49] := by
  have := Lib.itoa_neg 1 (by omega)
  rw [Lib.decDigits_one (by omega)] at this
  exact this
theorem itoa_6 : Lib.itoa 6 = [54] := by
  have := Lib.itoa_nonneg 6
  rw [Lib.decDigits_one (by omega)] at this
  exact this
theorem itoa_9 : Lib.itoa 9 = [57] := by
  have := Lib.itoa_nonneg 9
  rw [Lib.decDigits_one (by omega)] at this
  exact this
theorem awake_div1 (B : Nat) (w : World) (hB : B ≤ w.heap.size) (hT : P10 B w) :
    Calls Tryz.prog 17 #[.string ⟨#[45, 55]⟩, .string ⟨#[50]⟩] w (Ret w (.tuple #[.string ⟨#[45, 52]⟩, .string ⟨#[49]⟩, .int .i64 0])) := by
  have h := Divide_small ⟨#[45, 55]⟩ ⟨#[50]⟩ B w (by decide) (by decide) (by decide) (by decide) (by decide) hB hT
  have e1 : valI (⟨#[45, 55]⟩ : ByteArray).data.toList = -7 := by decide
  have e2 : valI (⟨#[50]⟩ : ByteArray).data.toList = 2 := by decide
  rw [e1, e2, show Int.fdiv (-7) 2 = -4 by decide, show Int.fmod (-7) 2 = 1 by decide, itoa_m4, itoa_one] at h
  exact h
theorem awake_div2 (B : Nat) (w : World) (hB : B ≤ w.heap.size) (hT : P10 B w) :
    Calls Tryz.prog 17 #[.string ⟨#[55]⟩, .string ⟨#[45, 50]⟩] w (Ret w (.tuple #[.string ⟨#[45, 52]⟩, .string ⟨#[45, 49]⟩, .int .i64 0])) := by
  have h := Divide_small ⟨#[55]⟩ ⟨#[45, 50]⟩ B w (by decide) (by decide) (by decide) (by decide) (by decide) hB hT
  have e1 : valI (⟨#[55]⟩ : ByteArray).data.toList = 7 := by decide
  have e2 : valI (⟨#[45, 50]⟩ : ByteArray).data.toList = -2 := by decide
  rw [e1, e2, show Int.fdiv 7 (-2) = -4 by decide, show Int.fmod 7 (-2) = -1 by decide, itoa_m4, itoa_m1] at h
  exact h
theorem awake_gcd (B : Nat) (w : World) (hB : B ≤ w.heap.size) (hT : P10 B w) :
    Calls Tryz.prog 19 #[.string ⟨#[49, 50]⟩, .string ⟨#[45, 49, 56]⟩] w (Ret w (.tuple #[.string ⟨#[54]⟩, .int .i64 0])) := by
  have h := Gcd_small ⟨#[49, 50]⟩ ⟨#[45, 49, 56]⟩ B w (by decide) (by decide) (by decide) (by decide) hB hT
  have e1 : valI (⟨#[49, 50]⟩ : ByteArray).data.toList = 12 := by decide
  have e2 : valI (⟨#[45, 49, 56]⟩ : ByteArray).data.toList = -18 := by decide
  rw [e1, e2, show ((Nat.gcd (12 : Int).natAbs (-18 : Int).natAbs : Nat) : Int) = 6 by decide, itoa_6] at h
  exact h
theorem awake_root (B : Nat) (w : World) (hB : B ≤ w.heap.size) (hT : P10 B w) :
    Calls Tryz.prog 21 #[.string ⟨#[57, 57]⟩] w (Ret w (.tuple #[.string ⟨#[57]⟩, .int .i64 0])) := by
  have h := Root_small ⟨#[57, 57]⟩ 99 B w (by decide) (by decide) (by decide) (by decide) hB hT
  rw [rootN_eq (n := 99) (r := 9) (by decide) (by decide), show ((9 : Nat) : Int) = 9 from rfl, itoa_9] at h
  exact h
set_option maxRecDepth 100000 in
set_option maxHeartbeats 2000000 in
theorem awake_any (B : Nat) (w : World) (hB : B ≤ w.heap.size) (hT : P10 B w) :
    Calls Tryz.prog 14 #[] w (Ret w (.bool true)) := by
  have HT := hide hT
  have HC := hide (fun w => check_any ⟨#[45, 48]⟩ (by decide) w)
  rw [show chkI (⟨#[45, 48]⟩ : ByteArray).data.toList = 11 by decide] at HC
  have hmx : ∀ w : World, (Builtin.max_ #[24, 24, 24, 24] 24 #[.int .i64 0, .int .i64 0, .int .i64 0, .int .i64 0]).run Tryz.prog w = .ok (.int .i64 0) w := fun _ => by kernel_rfl
  clear hT
  go_enter Tryz.func14, Tryz.ntmps14
  go_wp2_with fail
  refine (awake_div1 B _ hB HT.out).mono ?_
  rintro e w1 ⟨rfl, hb1⟩
  have HB1 := hide hb1
  clear hb1
  go_wp2_with fail
  refine (awake_div2 B _ (Nat.le_trans hB HB1.out.size) (HT.out.on HB1.out hB)).mono ?_
  rintro e w2 ⟨rfl, hb2⟩
  have HB2 := hide (HB1.out.trans (hb2.mono HB1.out.size))
  clear hb2 HB1
  go_wp2_with fail
  refine (awake_root B _ (Nat.le_trans hB HB2.out.size) (HT.out.on HB2.out hB)).mono ?_
  rintro e w3 ⟨rfl, hb3⟩
  have HB3 := hide (HB2.out.trans (hb3.mono HB2.out.size))
  clear hb3 HB2
  go_wp2_with fail
  refine (awake_gcd B _ (Nat.le_trans hB HB3.out.size) (HT.out.on HB3.out hB)).mono ?_
  rintro e w4 ⟨rfl, hb4⟩
  have HB4 := hide (HB3.out.trans (hb4.mono HB3.out.size))
  clear hb4 HB3
  go_wp2_with fail
  refine (HC.out _).mono ?_
  rintro e w5 ⟨rfl, hb5⟩
  have HB5 := hide (HB4.out.trans (hb5.mono HB4.out.size))
  clear hb5 HB4
  go_wp2_with fail
  go_ret
  exact ⟨rfl, HB5.out⟩
end Go.Proofs.YthkioajalhglfaaGreatDoor
