/-
  Integers: the law Division.
-/
import Derived.Test.YthkioajalhglfaaGreatDoorQf
namespace Go.Proofs.YthkioajalhglfaaGreatDoor
open Go.RowKit Go.KP Go.KI Go.Shelf
attribute [local go_sem] Oper.semAt_some

theorem heap_pair (w : World) (a b : ByteArray) (t : TypeId) (i : Nat) (s : ByteArray) (h : [a, b][i]? = some s) : (w.alloc (.cells #[.string a, .string b] t)).cell? ⟨w.heap.size, i, none⟩ = some (.string s) := by
  obtain ⟨g0, _, _⟩ := heap1 w (.cells #[.string a, .string b] t)
  rw [cell_blk g0 i]
  match i with
  | 0 => simpa using h
  | 1 => simpa using h
  | n + 2 => simp at h
theorem cmp_pos {x y : Int} (h : y < x) : Lib.compareInt x y = 1 := by
  unfold Lib.compareInt
  rw [if_neg (by omega)]
  first | rfl | (split <;> omega)
theorem cmp_less {x y : Int} (h : x < y) : Lib.compareInt x y = -1 := by
  unfold Lib.compareInt
  split <;> omega
/-- The signs of a division: the remainder's n, the divisor's m, the two compared d. -/
theorem div_signs (x : Int) {y : Int} (hy : y ≠ 0) : ∃ n m d : Int, Lib.compareInt (x.fmod y) 0 = n ∧ Lib.compareInt y 0 = m ∧ Lib.compareInt (x.fmod y) y = d ∧ (n = 0 ∨ n = m) ∧ d = -m ∧ (m = 1 ∨ m = -1) := by
  rcases Int.lt_or_gt_of_ne hy with hn | hp
  · have h := ((Int.fdiv_fmod_unique' (a := x) (r := x.fmod y) (q := x.fdiv y) hn).1 ⟨rfl, rfl⟩).2
    refine ⟨_, -1, 1, rfl, cmp_less hn, cmp_pos h.1, ?_, rfl, .inr rfl⟩
    by_cases h0 : x.fmod y = 0
    · rw [h0]; exact .inl (cmp_zero.2 rfl)
    · exact .inr (cmp_less (by omega))
  · have h := ((Int.fdiv_fmod_unique (a := x) (r := x.fmod y) (q := x.fdiv y) hp).1 ⟨rfl, rfl⟩).2
    refine ⟨_, 1, -1, rfl, cmp_pos hp, cmp_less h.2, ?_, rfl, .inl rfl⟩
    by_cases h0 : x.fmod y = 0
    · rw [h0]; exact .inl (cmp_zero.2 rfl)
    · exact .inr (cmp_pos (by omega))
theorem Compare_to {s t : ByteArray} {x y c : Int} (h1 : s.data.toList = Lib.itoa x) (h2 : t.data.toList = Lib.itoa y) (f1 : fits x) (f2 : fits y) (hc : Lib.compareInt x y = c) (w : World) :
    Calls Tryz.prog 30 #[.string s, .string t] w (Ret w (.tuple #[.int .i64 c, .int .i64 0])) := by
  rw [← hc]
  exact Compare_good h1 h2 f1 f2 w
set_option maxRecDepth 100000 in
set_option maxHeartbeats 4000000 in
theorem division_any (a b : ByteArray) (B : Nat) (w : World) (hB : B ≤ w.heap.size) (hT : P10 B w) :
    Calls Tryz.prog 10 #[.string a, .string b] w (Ret w (.bool true)) := by
  have HT := hide hT
  have HAW := hide (fun w2 (hb : Below w.heap.size w w2) => awake_any B w2 (Nat.le_trans hB hb.size) (hT.on hb hB))
  clear hT
  have HF := hide (fun t => fine_any w.heap.size [a, b] (w.alloc (.cells #[.string a, .string b] t)) (by simp) (heap_pair w a b t) (by simp))
  obtain ⟨F, hF⟩ : ∃ F, F = decide (∀ s ∈ [a, b], fineS s) := ⟨_, rfl⟩
  rw [← hF] at HF
  have G0 := hide (fun o => (heap1 w o).2.2)
  cases F
  · clear hF
    go_enter Tryz.func10, Tryz.ntmps10
    go_wp2_with fail
    refine (HF.out _).mono ?_
    rintro e w1 ⟨rfl, hb1⟩
    have HB1 := hide ((G0.out _).trans (hb1.mono (G0.out _).size))
    clear hb1 HF G0
    go_wp2_with fail
    refine (HAW.out _ HB1.out).mono ?_
    rintro e w2 ⟨rfl, hb2⟩
    have HB2 := hide (HB1.out.trans (hb2.mono HB1.out.size))
    clear hb2 HAW HB1
    go_wp2_with fail
    go_ret
    exact ⟨rfl, HB2.out⟩
  · have hf := of_decide_eq_true hF.symm
    have fa := hf a (by simp)
    have fb := hf b (by simp)
    clear hF hf
    by_cases hz : b.data.toList = [48]
    · have K1 := hide (fun w => Divide_zero fa.2 hz w)
      have hq : (b.toList == [48]) = true := by rw [ByteArray.toList_eq]; simpa using hz
      clear hz fa fb
      go_enter Tryz.func10, Tryz.ntmps10
      go_wp2_with fail
      refine (HF.out _).mono ?_
      rintro e w1 ⟨rfl, hb1⟩
      have HB1 := hide ((G0.out _).trans (hb1.mono (G0.out _).size))
      clear hb1 HF G0
      go_wp2_with fail
      refine (K1.out _).mono ?_
      rintro e w2 ⟨rfl, hb2⟩
      have HB2 := hide (HB1.out.trans (hb2.mono HB1.out.size))
      clear hb2 K1 HB1
      go_wp2_with fail
      refine (HAW.out _ HB2.out).mono ?_
      rintro e w3 ⟨rfl, hb3⟩
      have HB3 := hide (HB2.out.trans (hb3.mono HB2.out.size))
      clear hb3 HAW HB2
      go_wp2_with fail
      go_ret
      exact ⟨rfl, HB3.out⟩
    · have hq : (b.toList == [48]) = false := by rw [ByteArray.toList_eq]; simpa using hz
      have hy := chk_nz fb.2 hz
      have ea := (chk_ok fa.2).1
      have eb := (chk_ok fb.2).1
      have fx := (chk_ok fa.2).2
      have fy := (chk_ok fb.2).2
      obtain ⟨x, hx⟩ : ∃ x, x = valI a.data.toList := ⟨_, rfl⟩
      obtain ⟨y, hyy⟩ : ∃ y, y = valI b.data.toList := ⟨_, rfl⟩
      rw [← hx] at ea fx
      rw [← hyy] at eb fy hy
      have mk : ∀ u : Int, ∃ s : ByteArray, s.data.toList = Lib.itoa u := fun u => ⟨strB _, strB_list _⟩
      obtain ⟨q, e1⟩ := mk (x.fdiv y)
      obtain ⟨r, e2⟩ := mk (x.fmod y)
      obtain ⟨p, e3⟩ := mk (x.fdiv y * y)
      obtain ⟨n, m, d, k1, k2, k3, k4, k5, k6⟩ := div_signs x hy
      have hfm := Int.mul_fdiv_add_fmod x y
      have hmm : x.fdiv y * y + x.fmod y = x := by rw [Int.mul_comm]; exact hfm
      have fq : fits (x.fdiv y) := fits_of_le fx (fdiv_natAbs_le hy)
      have fr : fits (x.fmod y) := fits_of_le fy (Nat.le_of_lt (fmod_natAbs_lt hy))
      have va := fine_val fa
      have vb := fine_val fb
      rw [← hx] at va
      rw [← hyy] at vb
      have fp : fits (x.fdiv y * y) := by
        refine fits_small (n := 200) (by rw [most_eq]; omega) ?_
        have h1 := fmod_natAbs_lt (x := x) hy
        have h2 : (10 : Nat) ^ 80 + 10 ^ 80 ≤ 10 ^ 200 := by
          have h3 : (10 : Nat) ^ 81 ≤ 10 ^ 200 := Nat.pow_le_pow_right (by omega) (by omega)
          have h4 : (10 : Nat) ^ 81 = 10 ^ 80 * 10 := Nat.pow_succ ..
          omega
        have h5 : (x.fdiv y * y).natAbs ≤ x.natAbs + (x.fmod y).natAbs := by
          have : x.fdiv y * y = x - x.fmod y := by omega
          rw [this]
          omega
        omega
      have K1 := hide (fun B w => Divide_to ea eb e1 e2 fx fy hy B w)
      have K2 := hide (fun B w => Mul_to e1 eb e3 fq fy fp B w)
      have K3 := hide (fun B w => Add_to e3 e2 (r := a) (by rw [hmm]; exact ea) fp fr (by rw [hmm]; exact fx) B w)
      have K4 := hide (fun w => Compare_to (t := ⟨#[48]⟩) e2 itoa_zero.symm fr fits_zero k1 w)
      have K5 := hide (fun w => Compare_to (t := ⟨#[48]⟩) eb itoa_zero.symm fy fits_zero k2 w)
      have K6 := hide (fun w => Compare_to e2 eb fr fy k3 w)
      have hmx : ∀ w : World, (Builtin.max_ #[24, 24, 24, 24, 24, 24] 24 #[.int .i64 0, .int .i64 0, .int .i64 0, .int .i64 0, .int .i64 0, .int .i64 0]).run Tryz.prog w = .ok (.int .i64 0) w := fun _ => by kernel_rfl
      have ta : (a.toList == a.toList) = true := beq_self_eq_true _
      clear ea eb e1 e2 e3 k1 k2 k3 hfm hmm fq fr fp fx fy fa fb hz hy hx hyy mk va vb
      subst k5
      rcases k6 with rfl | rfl <;> rcases k4 with rfl | rfl
      all_goals
        go_enter Tryz.func10, Tryz.ntmps10
        go_wp2_with fail
        refine (HF.out _).mono ?_
        rintro e w1 ⟨rfl, hb1⟩
        have HB1 := hide ((G0.out _).trans (hb1.mono (G0.out _).size))
        clear hb1 HF G0
        go_wp2_with fail
        refine (K1.out B _ (Nat.le_trans hB HB1.out.size) (HT.out.on HB1.out hB)).mono ?_
        rintro e w2 ⟨rfl, hb2⟩
        have HB2 := hide (HB1.out.trans (hb2.mono HB1.out.size))
        clear hb2 K1 HB1
        go_wp2_with fail
        refine (K2.out B _ (Nat.le_trans hB HB2.out.size) (HT.out.on HB2.out hB)).mono ?_
        rintro e w3 ⟨rfl, hb3⟩
        have HB3 := hide (HB2.out.trans (hb3.mono HB2.out.size))
        clear hb3 K2 HB2
        go_wp2_with fail
        refine (K3.out B _ (Nat.le_trans hB HB3.out.size) (HT.out.on HB3.out hB)).mono ?_
        rintro e w4 ⟨rfl, hb4⟩
        have HB4 := hide (HB3.out.trans (hb4.mono HB3.out.size))
        clear hb4 K3 HB3
        go_wp2_with fail
        refine (K4.out _).mono ?_
        rintro e w5 ⟨rfl, hb5⟩
        have HB5 := hide (HB4.out.trans (hb5.mono HB4.out.size))
        clear hb5 K4 HB4
        go_wp2_with fail
        refine (K5.out _).mono ?_
        rintro e w6 ⟨rfl, hb6⟩
        have HB6 := hide (HB5.out.trans (hb6.mono HB5.out.size))
        clear hb6 K5 HB5
        go_wp2_with fail
        refine (K6.out _).mono ?_
        rintro e w7 ⟨rfl, hb7⟩
        have HB7 := hide (HB6.out.trans (hb7.mono HB6.out.size))
        clear hb7 K6 HB6
        go_wp2_with fail
        refine (HAW.out _ HB7.out).mono ?_
        rintro e w8 ⟨rfl, hb8⟩
        have HB8 := hide (HB7.out.trans (hb8.mono HB7.out.size))
        clear hb8 HAW HB7
        go_wp2_with fail
        go_ret
        exact ⟨rfl, HB8.out⟩
end Go.Proofs.YthkioajalhglfaaGreatDoor
