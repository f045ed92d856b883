/-
  Integers: Compare walked.
-/
import Derived.Test.YthkioajalhglfaaGreatDoorPn
namespace Go.Proofs.YthkioajalhglfaaGreatDoor
open Go.RowKit Go.KP Go.KI Go.Shelf
attribute [local go_sem] Oper.semAt_some

/-- What Compare answers. -/
def cmpV (a b : List UInt8) : Int := if bothI a b = 0 then Lib.compareInt (valI a) (valI b) else 0
set_option maxRecDepth 100000 in
set_option maxHeartbeats 2000000 in
theorem Compare_any (s t : ByteArray) (w : World) (hs : s.size ≤ 1000000) (ht : t.size ≤ 1000000) :
    Calls Tryz.prog 30 #[.string s, .string t] w (Ret w (.tuple #[.int .i64 (cmpV s.data.toList t.data.toList), .int .i64 (bothI s.data.toList t.data.toList)])) := by
  have H1 := hide (both_any s t hs ht w)
  by_cases hE : bothI s.data.toList t.data.toList = 0
  · have e1 : cmpV s.data.toList t.data.toList = Lib.compareInt (valI s.data.toList) (valI t.data.toList) := if_pos hE
    obtain ⟨c1, c2, _, _⟩ := op2_good (f := (· + ·)) hE
    rw [e1, hE]
    have C1 := hide c1; have C2 := hide c2
    rw [hE] at H1
    clear e1 hE hs ht
    by_cases hsm : s.size ≤ 18 ∧ t.size ≤ 18
    · have H2 := hide (fun w => small_yes s t c1 c2 hsm.1 hsm.2 w)
      obtain ⟨x, hx⟩ : ∃ x, x = valI s.data.toList := ⟨_, rfl⟩
      obtain ⟨y, hy⟩ : ∃ y, y = valI t.data.toList := ⟨_, rfl⟩
      rw [← hx, ← hy] at H2 ⊢
      clear c1 c2 hsm hx hy
      go_enter Tryz.func30, Tryz.ntmps30
      go_wp2_with fail
      refine H1.out.mono ?_
      rintro e w1 ⟨rfl, hb1⟩
      have HB1 := hide hb1
      clear hb1 H1
      go_wp2_with fail
      refine (H2.out _).mono ?_
      rintro e w2 ⟨rfl, hb2⟩
      have HB2 := hide (HB1.out.trans (hb2.mono HB1.out.size))
      clear hb2 H2 HB1
      go_wp2_with fail
      refine (Tryz.cmp_Compare_int x y w2).mono ?_
      rintro e w3 ⟨rfl, rfl⟩
      go_wp2_with fail
      refine bodyPost_ret (results_tmp2 rfl _ _ _) rfl ?_
      exact ⟨rfl, HB2.out⟩
    · have H2 := hide (fun w => small_no s t hsm w)
      have R1 := hide (fun w => read_good s c1 w)
      have R2 := hide (fun w => read_good t c2 w)
      clear c1 c2 hsm
      go_enter Tryz.func30, Tryz.ntmps30
      go_wp2_with fail
      refine H1.out.mono ?_
      rintro e w1 ⟨rfl, hb1⟩
      have HB1 := hide hb1
      clear hb1 H1
      go_wp2_with fail
      refine (H2.out _).mono ?_
      rintro e w1 ⟨rfl, hb2⟩
      have HB1' := hide (HB1.out.trans (hb2.mono HB1.out.size))
      clear hb2 H2 HB1
      go_wp2_with fail
      refine (R1.out _).mono ?_
      rintro e w2 ⟨m1, a1, l1, rfl, hb2, o1, n1, q1, k1⟩
      have HB2 := hide (HB1'.out.trans (hb2.mono HB1'.out.size))
      have O1 := hide o1; have N1 := hide n1; have Q1 := hide q1
      clear hb2 HB1' R1 o1 n1 q1
      go_wp2_with fail
      refine (R2.out _).mono ?_
      rintro e w3 ⟨m2, a2, l2, rfl, hb3, o2, n2, q2, k2⟩
      have HB3 := hide (HB2.out.trans (hb3.mono HB2.out.size))
      have O1' := hide (O1.out.keep hb3)
      have O2 := hide o2; have N2 := hide n2; have Q2 := hide q2
      clear hb3 HB2 R2 o2 n2 q2 O1
      obtain ⟨av1, cv1, hvf, _, _⟩ := O1'.out.form
      subst hvf
      obtain ⟨av2, cv2, hvf, _, _⟩ := O2.out.form
      subst hvf
      obtain ⟨g0, g1, gs0, gb0⟩ := heap2 w3 (.cells #[.bool m1, .slice av1 l1.length cv1] 48) (.cells #[.bool m2, .slice av2 l2.length cv2] 48)
      have c0 := cell_blk g0 0
      have c1 := cell_blk g0 1
      have c2 := cell_blk g1 0
      have c3 := cell_blk g1 1
      have f2 := froz_blk g1 0
      obtain ⟨h0, h1, hs0, hb0⟩ := heap2 w3 (.cells #[.bool m1, .slice av1 l1.length cv1] 48) (.cells #[.bool (!m2), .slice av2 l2.length cv2] 48)
      have H0 := hide h0; have H1 := hide h1; have HS0 := hide hs0; have HB0 := hide hb0
      clear g0 g1 gs0 gb0 h0 h1 hs0 hb0
      go_wp2_with fail
      clear c0 c1 c2 c3 f2
      obtain ⟨w4, hw4⟩ : ∃ w4, (w3.alloc (.cells #[.bool m1, .slice av1 l1.length cv1] 48)).alloc (.cells #[.bool (!m2), .slice av2 l2.length cv2] 48) = w4 := ⟨_, rfl⟩
      rw [hw4] at H0 H1 HS0 HB0 ⊢
      have O3 := OwnL.keep O1'.out HB0.out
      have O4 := OwnL.keep O2.out HB0.out
      have HB4 := hide (HB3.out.trans (HB0.out.mono HB3.out.size))
      refine (add_any m1 (!m2) _ _ l1 l2 w4.heap.size w4 (.of_own O3) (.of_own O4) (Nat.le_refl _) N1.out N2.out (by omega) (by omega)).mono ?_
      rintro e w5 ⟨_, rfl, hb5, m3, a3, l3, rfl, o3, n3, q3, k3⟩
      obtain ⟨av3, cv3, hvf, _, _⟩ := o3.form
      subst hvf
      have hz : valS m3 (lv 1000000000 l3) = valI s.data.toList - valI t.data.toList := by
        rw [q3, Q1.out, valS_not, Q2.out]
        omega
      have HZ := hide hz
      have HB5 := hide (HB4.out.trans (hb5.mono HB4.out.size))
      obtain ⟨g0, gs0, gb0⟩ := heap1 w5 (.cells #[.bool m3, .slice av3 l3.length cv3] 48)
      have c0 := cell_blk g0 0
      have c1 := cell_blk g0 1
      have HB6 := hide (HB5.out.trans (gb0.mono HB5.out.size))
      obtain ⟨n3l, hn3l⟩ : ∃ n, n = l3.length := ⟨_, rfl⟩
      have hnorm := n3.zero (by omega)
      rw [← hn3l] at c0 c1 g0 gb0 HB6 ⊢
      have h30 : n3l = 0 ↔ lv 1000000000 l3 = 0 := by
        rw [hnorm, hn3l]
        exact ⟨List.eq_nil_of_length_eq_zero, fun e => by rw [e]; rfl⟩
      clear g0 gs0 gb0 hb5 o3 n3 q3 O3 O4 hw4 H0 H1 HS0 HB0 O1' O2 hnorm hn3l HB3 HB4 HB5 hz
      by_cases hl : n3l = 0
      · have hq : ((n3l : Int) == 0) = true := by rw [hl]; rfl
        have hv : Lib.compareInt (valI s.data.toList) (valI t.data.toList) = 0 := by
          have h2 := HZ.out
          rw [h30.1 hl] at h2
          have h3 : valI s.data.toList = valI t.data.toList := by
            cases m3 <;> simp [valS] at h2 <;> omega
          unfold Lib.compareInt
          rw [if_neg (by omega), if_neg (by omega)]
        have HV := hide hv
        clear hv h30 hl
        go_wp2_with fail
        refine bodyPost_ret (results_tmp2 rfl _ _ _) rfl ?_
        exact ⟨by rw [HV.out]; rfl, HB6.out⟩
      · have hq : ((n3l : Int) == 0) = false := by simpa using hl
        have hp : 0 < lv 1000000000 l3 := Nat.pos_of_ne_zero (fun e => hl (h30.2 e))
        clear hl h30
        cases m3
        · have hv : Lib.compareInt (valI s.data.toList) (valI t.data.toList) = 1 := by
            have h2 := HZ.out
            simp only [valS, Bool.false_eq_true, if_false] at h2
            unfold Lib.compareInt
            rw [if_neg (by omega), if_pos (by omega)]
          have HV := hide hv
          clear hv
          go_wp2_with fail
          refine bodyPost_ret (results_tmp2 rfl _ _ _) rfl ?_
          exact ⟨by rw [HV.out]; rfl, HB6.out⟩
        · have hv : Lib.compareInt (valI s.data.toList) (valI t.data.toList) = -1 := by
            have h2 := HZ.out
            simp only [valS, if_true] at h2
            unfold Lib.compareInt
            rw [if_pos (by omega)]
          have HV := hide hv
          clear hv
          go_wp2_with fail
          refine bodyPost_ret (results_tmp2 rfl _ _ _) rfl ?_
          exact ⟨by rw [HV.out]; rfl, HB6.out⟩
  · have e1 : cmpV s.data.toList t.data.toList = 0 := if_neg hE
    rw [e1]
    have hne : (bothI s.data.toList t.data.toList != 0) = true := by simpa using hE
    obtain ⟨E, hEE⟩ : ∃ E, E = bothI s.data.toList t.data.toList := ⟨_, rfl⟩
    rw [← hEE] at H1 hne ⊢
    clear e1 hE hEE
    go_enter Tryz.func30, Tryz.ntmps30
    go_wp2_with fail
    refine H1.out.mono ?_
    rintro e w1 ⟨rfl, hb1⟩
    have HB1 := hide hb1
    clear hb1 H1
    go_wp2_with fail
    refine bodyPost_ret (results_tmp2 rfl _ _ _) rfl ?_
    exact ⟨rfl, HB1.out⟩
end Go.Proofs.YthkioajalhglfaaGreatDoor
