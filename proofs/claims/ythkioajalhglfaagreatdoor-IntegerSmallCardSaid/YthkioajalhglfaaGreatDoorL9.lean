/-
  Integers: the law Order.
-/
import Derived.Test.YthkioajalhglfaaGreatDoorPw
namespace Go.Proofs.YthkioajalhglfaaGreatDoor
open Go.RowKit Go.KP Go.KI Go.Shelf
attribute [local go_sem] Oper.semAt_some

theorem heap_three (w : World) (a b c : ByteArray) (t : TypeId) (i : Nat) (s : ByteArray) (h : [a, b, c][i]? = some s) : (w.alloc (.cells #[.string a, .string b, .string c] t)).cell? ⟨w.heap.size, i, none⟩ = some (.string s) := by
  obtain ⟨g0, _, _⟩ := heap1 w (.cells #[.string a, .string b, .string c] t)
  rw [cell_blk g0 i]
  match i with
  | 0 => simpa using h
  | 1 => simpa using h
  | 2 => simpa using h
  | n + 3 => simp at h
set_option maxRecDepth 100000 in
set_option maxHeartbeats 4000000 in
theorem order_any (a b c : ByteArray) (B : Nat) (w : World) (hB : B ≤ w.heap.size) (hT : P10 B w) :
    Calls Tryz.prog 9 #[.string a, .string b, .string c] w (Ret w (.bool true)) := by
  have HT := hide hT
  have HAW := hide (fun w2 (hb : Below w.heap.size w w2) => awake_any B w2 (Nat.le_trans hB hb.size) (hT.on hb hB))
  clear hT
  have HF := hide (fun t => fine_any w.heap.size [a, b, c] (w.alloc (.cells #[.string a, .string b, .string c] t)) (by simp) (heap_three w a b c t) (by simp))
  obtain ⟨F, hF⟩ : ∃ F, F = decide (∀ s ∈ [a, b, c], fineS s) := ⟨_, rfl⟩
  rw [← hF] at HF
  cases F
  · have G0 := hide (fun o => (heap1 w o).2.2)
    clear hF
    go_enter Tryz.func9, Tryz.ntmps9
    go_wp2_with fail
    refine (HF.out _).mono ?_
    rintro e w1 ⟨rfl, hb1⟩
    have HB1 := hide ((G0.out _).trans (hb1.mono (G0.out _).size))
    clear hb1 HF G0
    go_wp2_with fail
    refine (HAW.out _ HB1.out).mono ?_
    rintro e w2 ⟨rfl, hb2⟩
    have HB2 := hide (HB1.out.trans (hb2.mono HB1.out.size))
    clear hb2 HAW HB1
    go_wp2_with fail
    go_ret
    exact ⟨rfl, HB2.out⟩
  · have hf := of_decide_eq_true hF.symm
    have fa := hf a (by simp)
    have fb := hf b (by simp)
    have fc := hf c (by simp)
    clear hF hf
    have va := fine_val fa
    have vb := fine_val fb
    have vc := fine_val fc
    have ea := (chk_ok fa.2).1
    have eb := (chk_ok fb.2).1
    have ec := (chk_ok fc.2).1
    have hab := fine_eq fa fb
    obtain ⟨x, hx⟩ : ∃ x, x = valI a.data.toList := ⟨_, rfl⟩
    obtain ⟨y, hy⟩ : ∃ y, y = valI b.data.toList := ⟨_, rfl⟩
    obtain ⟨z, hz⟩ : ∃ z, z = valI c.data.toList := ⟨_, rfl⟩
    rw [← hx] at va ea hab
    rw [← hy] at vb eb hab
    rw [← hz] at vc ec
    have hp : (10 : Nat) ^ 80 + 10 ^ 80 ≤ 10 ^ 90 := by
      have h1 : (10 : Nat) ^ 81 ≤ 10 ^ 90 := Nat.pow_le_pow_right (by omega) (by omega)
      have h2 : (10 : Nat) ^ 81 = 10 ^ 80 * 10 := Nat.pow_succ ..
      omega
    obtain ⟨p, hp2⟩ : ∃ p, p = (10 : Nat) ^ 80 := ⟨_, rfl⟩
    rw [← hp2] at hp va vb vc
    have fz : ∀ u : Int, u.natAbs < p + p → fits u := fun u hu => fits_small (n := 90) (by rw [most_eq]; omega) (by omega)
    have C1 := hide (fun w => Compare_good ea eb (fz x (by omega)) (fz y (by omega)) w)
    have C2 := hide (fun w => Compare_good eb ea (fz y (by omega)) (fz x (by omega)) w)
    have S1 := hide (fun B w => Sub_good ea eb (fz x (by omega)) (fz y (by omega)) (fz (x - y) (by omega)) B w)
    have C3 := hide (fun w => Compare_good (s := strB (Lib.itoa (x - y))) (t := ⟨#[48]⟩) (strB_list _) itoa_zero.symm (fz (x - y) (by omega)) (fz 0 (by omega)) w)
    have A1 := hide (fun B w => Add_good ea ec (fz x (by omega)) (fz z (by omega)) (fz (x + z) (by omega)) B w)
    have A2 := hide (fun B w => Add_good eb ec (fz y (by omega)) (fz z (by omega)) (fz (y + z) (by omega)) B w)
    have C4 := hide (fun w => Compare_good (s := strB (Lib.itoa (x + z))) (t := strB (Lib.itoa (y + z))) (strB_list _) (strB_list _) (fz (x + z) (by omega)) (fz (y + z) (by omega)) w)
    obtain ⟨k1, k2⟩ := cmp_bound x y
    have k3 := cmp_neg x y
    have k4 := cmp_same (x := x - y) (y := 0) (x2 := x) (y2 := y) (by omega)
    have k5 := cmp_same (x := x + z) (y := y + z) (x2 := x) (y2 := y) (by omega)
    have k6 := cmp_zero (x := x) (y := y)
    rw [k3] at C2
    rw [k4] at C3
    rw [k5] at C4
    obtain ⟨C, hC⟩ : ∃ C, C = Lib.compareInt x y := ⟨_, rfl⟩
    rw [← hC] at C1 C2 C3 C4 k1 k2 k6
    have hmx : ∀ w : World, (Builtin.max_ #[24, 24, 24, 24, 24, 24, 24] 24 #[.int .i64 0, .int .i64 0, .int .i64 0, .int .i64 0, .int .i64 0, .int .i64 0, .int .i64 0]).run Tryz.prog w = .ok (.int .i64 0) w := fun _ => by kernel_rfl
    obtain ⟨E, hE⟩ : ∃ E : Bool, (C == 0) = E ∧ (a.toList == b.toList) = E := by
      by_cases h : C = 0
      · exact ⟨true, by simpa using h, by rw [hab.2 (k6.1 h)]; exact beq_self_eq_true _⟩
      · refine ⟨false, by simpa using h, ?_⟩
        have : a.toList ≠ b.toList := fun e => h (k6.2 (hab.1 (bytes_eq (by rw [← ByteArray.toList_eq, ← ByteArray.toList_eq, e]))))
        exact beq_eq_false_iff_ne.2 this
    obtain ⟨t1, t2⟩ := hE
    have t3 : IntKind.i64.wrap (- -C) = C := by rw [Int.neg_neg]; exact IntWalk.i64_in _ (by omega)
    have G0 := hide (fun o => (heap1 w o).2.2)
    clear fa fb fc va vb vc ea eb ec hab hx hy hz hp hp2 fz k3 k4 k5 k6 hC
    go_enter Tryz.func9, Tryz.ntmps9
    go_wp2_with fail
    refine (HF.out _).mono ?_
    rintro e w1 ⟨rfl, hb1⟩
    have HB1 := hide ((G0.out _).trans (hb1.mono (G0.out _).size))
    clear hb1 HF G0
    go_wp2_with fail
    refine (C1.out _).mono ?_
    rintro e w2 ⟨rfl, hb2⟩
    have HB2 := hide (HB1.out.trans (hb2.mono HB1.out.size))
    clear hb2 C1 HB1
    go_wp2_with fail
    refine (C2.out _).mono ?_
    rintro e w3 ⟨rfl, hb3⟩
    have HB3 := hide (HB2.out.trans (hb3.mono HB2.out.size))
    clear hb3 C2 HB2
    go_wp2_with fail
    refine (S1.out B _ (Nat.le_trans hB HB3.out.size) (HT.out.on HB3.out hB)).mono ?_
    rintro e w4 ⟨rfl, hb4⟩
    have HB4 := hide (HB3.out.trans (hb4.mono HB3.out.size))
    clear hb4 S1 HB3
    go_wp2_with fail
    refine (C3.out _).mono ?_
    rintro e w5 ⟨rfl, hb5⟩
    have HB5 := hide (HB4.out.trans (hb5.mono HB4.out.size))
    clear hb5 C3 HB4
    go_wp2_with fail
    refine (A1.out B _ (Nat.le_trans hB HB5.out.size) (HT.out.on HB5.out hB)).mono ?_
    rintro e w6 ⟨rfl, hb6⟩
    have HB6 := hide (HB5.out.trans (hb6.mono HB5.out.size))
    clear hb6 A1 HB5
    go_wp2_with fail
    refine (A2.out B _ (Nat.le_trans hB HB6.out.size) (HT.out.on HB6.out hB)).mono ?_
    rintro e w7 ⟨rfl, hb7⟩
    have HB7 := hide (HB6.out.trans (hb7.mono HB6.out.size))
    clear hb7 A2 HB6
    go_wp2_with fail
    refine (C4.out _).mono ?_
    rintro e w8 ⟨rfl, hb8⟩
    have HB8 := hide (HB7.out.trans (hb8.mono HB7.out.size))
    clear hb8 C4 HB7
    go_wp2_with fail
    refine (HAW.out _ HB8.out).mono ?_
    rintro e w9 ⟨rfl, hb9⟩
    have HB9 := hide (HB8.out.trans (hb9.mono HB8.out.size))
    clear hb9 HAW HB8
    go_wp2_with fail
    go_ret
    exact ⟨rfl, HB9.out⟩
end Go.Proofs.YthkioajalhglfaaGreatDoor
