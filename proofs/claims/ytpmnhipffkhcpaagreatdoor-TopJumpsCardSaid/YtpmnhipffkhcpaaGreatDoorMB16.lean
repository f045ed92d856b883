/-
  Texts laid together.
-/
import Derived.Test.YtpmnhipffkhcpaaGreatDoorMB15
import Derived.Test.YtpmnhipffkhcpaaGreatDoorMB9
import Derived.Test.YtpmnhipffkhcpaaGreatDoorMB4
import Derived.Test.YtpmnhipffkhcpaaGreatDoorMB5
import Derived.Test.YtpmnhipffkhcpaaGreatDoorMB13
import Derived.Test.YtpmnhipffkhcpaaGreatDoorMB14
import Derived.Test.YtpmnhipffkhcpaaGreatDoorMB11
import Derived.Test.YtpmnhipffkhcpaaGreatDoorMB12
import Derived.Laws.AppendOwnNone
set_option maxRecDepth 100000
set_option maxHeartbeats 16000000
namespace Go.Proofs.YtpmnhipffkhcpaaGreatDoor
open Go.RowKit Go.KP Go.KI Go.Shelf
attribute [local go_sem] Oper.semAt_some

theorem rtop_nums {b1 b0 : Nat} (h1 : b1 < 1000000) (h0 : b0 < 1000000) : ∃ T : Nat, T = b1 * 1000000 + b0 ∧ IntKind.i64.wrap ((b1 : Int) * 1000000) = (b1 : Int) * 1000000 ∧ IntKind.i64.wrap ((b1 : Int) * 1000000 + (b0 : Int)) = (T : Int) ∧ T < 1000000000000 := by
  refine ⟨b1 * 1000000 + b0, rfl, IntWalk.i64_in _ (by omega), ?_, by omega⟩
  rw [IntWalk.i64_in _ (by omega)]
  omega
def TrimRes (base : Nat) (l : List Nat) (W : World) (e : Ending) (w2 : World) : Prop := W = w2 ∧ ∃ v, e = .returned v ∧ OwnL base W v (trimL l)
theorem rtrim_own (base : Nat) (v : Value) (l : List Nat) (W : World) (h : OwnL base W v l) (hl : l.length ≤ 1000000) :
    Calls Tryz.prog 376 #[v] W (TrimRes base l W) := by
  obtain ⟨a, c, rfl, hc, _⟩ := h.form
  refine (rtrim_any a c l W.heap.size W h.at_ hc hl).mono ?_
  rintro e w2 ⟨rfl, rfl⟩
  exact ⟨rfl, _, rfl, h.cut (trimTo_le _ _)⟩
theorem rdivide_any (va vb : Value) (x y : List Nat) (B : Nat) (w : World) (ha : LimbAt B w va x) (hb : LimbAt B w vb y) (hB : B ≤ w.heap.size) (hx : Lt 1000000 x) (hy : Norm 1000000 y) (hy0 : y ≠ []) (lx : x.length ≤ 1000) (ly : y.length ≤ 1000) :
    Calls Tryz.prog 346 #[va, vb] w (RDivRes x y w) := by
  obtain ⟨a0, c0, hva⟩ := ha.form
  obtain ⟨a1, c1, hvb⟩ := hb.form
  subst hva; subst hvb
  have HA := hide ha; have HBB := hide hb; have HX := hide hx; have HY := hide hy
  have hyp : 1 ≤ lv 1000000 y := by
    have h1 := hy.ge hy0
    have h2 : 0 < 1000000 ^ (y.length - 1) := Nat.pow_pos (by omega)
    omega
  have HYP := hide hyp
  have hpos : y.length ≠ 0 := fun h => hy0 (List.eq_nil_of_length_eq_zero h)
  obtain ⟨N, hN⟩ : ∃ N, N = x.length := ⟨_, rfl⟩
  have HN := hide hN
  rw [← hN] at lx HA ⊢
  obtain ⟨n, hn⟩ : ∃ n, n = y.length := ⟨_, rfl⟩
  have HNY := hide hn
  rw [← hn] at ly hpos ⊢
  rcases hb.cases with ⟨_, _, _, hnil⟩ | ⟨gb, ob, capb, hvb, hgb, hcb⟩
  · exact absurd hnil hy0
  rw [← hn] at hvb
  injection hvb with hv1 hv2 hv3
  subst hv1; subst hv3
  clear ha hb hx hy hy0 hN hv2 hyp
  by_cases h1 : n = 1
  · have hq : ((n : Int) == 1) = true := by rw [h1]; rfl
    have hcell := hcb 0 (by rw [← hn]; omega)
    obtain ⟨d, hd⟩ : ∃ d, d = lat y 0 := ⟨_, rfl⟩
    rw [← hd, Nat.add_zero] at hcell
    have hyd : y = [d] := by
      match y, hn with
      | [], hn => simp at hn; omega
      | [c], _ => rw [hd]; rfl
      | _ :: _ :: _, hn => simp at hn; omega
    have hd1 : 1 ≤ d := by have := HYP.out; rw [hyd] at this; simpa [lv] using this
    have hd2 : d < 1000000 := HY.out.lt d (by rw [hyd]; simp)
    have HS := hide (rshort_any (.slice a0 N c0) x d B w HA.out hB HX.out (by rw [← HN.out]; omega) hd1 hd2)
    rw [← hyd] at HS
    have hn0 : (0 : Int) < (n : Int) := by omega
    clear hcb hd hyd h1 hn hpos
    go_enter Tryz.func346, Tryz.ntmps346
    go_wp2_with fail
    refine HS.out.mono ?_
    rintro e w1 ⟨vq, vr, q, r, rfl, hb1, oq, or_, nq, nr, eq, er, lq⟩
    have HR := hide (show RDivRes x y w (.returned (.tuple #[vq, vr])) w1 from ⟨vq, vr, q, r, rfl, hb1, oq, or_, nq, nr, eq, er, lq⟩)
    clear hb1 oq or_ nq nr eq er lq HS
    go_wp2_with fail
    refine bodyPost_ret (results_tmp2 rfl _ _ _) rfl ?_
    exact HR.out
  · have hq : ((n : Int) == 1) = false := by
      simp only [beq_eq_false_iff_ne, ne_eq]
      omega
    obtain ⟨m, hm⟩ : ∃ m, n = m + 2 := ⟨n - 2, by omega⟩
    have hi1 : IntKind.i64.wrap ((n : Int) - 1) = ((m + 1 : Nat) : Int) := by rw [IntWalk.i64_in _ (by omega)]; omega
    have hi2 : IntKind.i64.wrap ((n : Int) - 2) = (m : Int) := by rw [IntWalk.i64_in _ (by omega)]; omega
    have hm1 : ((m + 1 : Nat) : Int) < (n : Int) := by omega
    have hm0 : (m : Int) < (n : Int) := by omega
    have hcell1 := hcb (m + 1) (by rw [← hn]; omega)
    have hcell0 := hcb m (by rw [← hn]; omega)
    have hb1l := lat_lt (by omega) HY.out.lt (m + 1)
    have hb0l := lat_lt (by omega) HY.out.lt m
    have HTOP := hide (up2 HY.out.lt (m := m) (by rw [← hn]; omega))
    obtain ⟨b1, hb1⟩ : ∃ b1, b1 = lat y (m + 1) := ⟨_, rfl⟩
    obtain ⟨b0, hb0⟩ : ∃ b0, b0 = lat y m := ⟨_, rfl⟩
    rw [← hb1] at hcell1 hb1l HTOP
    rw [← hb0] at hcell0 hb0l HTOP
    obtain ⟨T, hT, hw1, hw2, hTl⟩ := rtop_nums hb1l hb0l
    rw [← hT] at HTOP
    have hmk := make_ints N (by omega)
    have HM := hide hm
    clear hcb hn h1 hpos hb1 hb0 hT hm
    go_enter Tryz.func346, Tryz.ntmps346
    go_wp2_with fail
    go_quiet (fail)
    clear hw1 hw2 hi1 hi2 hcell1 hcell0 hm1 hm0 hb1l hb0l
    go_wp2_with fail
    have hw1s : ((w.drewN nq).alloc (rowO (zeros N))).heap.size = w.heap.size + 1 := by simp
    have HE0 := hide (show OwnL (w.heap.size + 1) (((w.drewN nq).alloc (rowO (zeros N))).alloc (.cells #[] 3)) (.slice (some ⟨w.heap.size + 1, 0, none⟩) 0 0) [] by
      have h := empty_own ((w.drewN nq).alloc (rowO (zeros N)))
      rw [hw1s] at h
      exact h)
    have HQ0 := hide (show (((w.drewN nq).alloc (rowO (zeros N))).alloc (.cells #[] 3)).heap[w.heap.size]? = some (rowO (zeros N)) from (Below.heap_alloc _ _ _ (by simp)).trans (heap_alloc_new (w.drewN nq) _))
    have HB0 := hide (show Below w.heap.size w (((w.drewN nq).alloc (rowO (zeros N))).alloc (.cells #[] 3)) from ((below_drewN (Below.refl w.heap.size w) nq).alloc (Nat.le_refl _) _).alloc (by simp) _)
    obtain ⟨w1, hw1⟩ : ∃ w1, ((w.drewN nq).alloc (rowO (zeros N))).alloc (.cells #[] 3) = w1 := ⟨_, rfl⟩
    rw [hw1] at HE0 HQ0 HB0 ⊢
    clear hmk hw1s hw1
    obtain ⟨Y, hY⟩ : ∃ Y, Y = lv 1000000 y := ⟨_, rfl⟩
    have HYV := hide hY
    clear hY
    obtain ⟨m1, hm1⟩ : ∃ m1, m1 = m + 1 := ⟨_, rfl⟩
    have HM1 := hide hm1
    have hj1 : (n : Int) - 1 = (m1 : Int) := by have := HM.out; omega
    have hj2 : (n : Int) - 2 = (m : Int) := by have := HM.out; omega
    have hmn : m ≤ 1000 := by have := HM.out; omega
    have hmn1 : m1 ≤ 1001 := by omega
    clear hm1
    go_loopw [9, 10] (fun v i wr => ∃ k : Nat, k ≤ N ∧ i = .int .i64 ((N : Int) - 1 - k) ∧ Hid (∃ Q R : List Nat, RDivAt x Y k Q (lv 1000000 R) ∧ OwnL (w.heap.size + 1) wr v R ∧ Norm 1000000 R ∧ wr.heap[w.heap.size]? = some (rowO Q) ∧ Below w.heap.size w wr)) (fun _ i _ => (intOf i + 1).toNat)
    case atStart => exact ⟨0, Nat.zero_le _, by simp, zeros N, [], by have := RDivAt.start x HYP.out; rw [← HN.out, ← HYV.out] at this; exact this, HE0.out, Norm.nil _, HQ0.out, HB0.out⟩
    case round =>
      obtain ⟨k, hk, rfl, hin⟩ := hrel
      obtain ⟨Q, R, hd, ho, hnr, hQ, hW⟩ := hin.out
      have hsz := lt_blk hQ
      by_cases hlt : k < N
      · obtain ⟨p, hp⟩ : ∃ p : Nat, (N : Int) - 1 - (k : Int) = p := ⟨N - 1 - k, by omega⟩
        rw [hp]
        have hpN : p < N := by omega
        have hpi : (p : Int) < (N : Int) := by omega
        rcases (HA.out.below hW hB).cases with ⟨_, _, _, hnil⟩ | ⟨g, o, cap, hv, hg, hc⟩
        · have := HN.out
          rw [hnil] at this
          simp at this
          omega
        injection hv with hv1 hv2 hv3
        subst hv1; subst hv3
        have q1 := hc p (by have := HN.out; omega)
        have hxp := lat_lt (by omega) HX.out p
        obtain ⟨X, hX⟩ : ∃ X, X = lat x p := ⟨_, rfl⟩
        rw [← hX] at q1 hxp
        have HXE := hide hX
        have HD := hide hd; have HNR := hide hnr; have HQ := hide hQ; have HW := hide hW; have HP := hide hp; have HO := hide ho
        have HRL := hide (show R.length ≤ n by
          have h1 := hd.rest
          rw [HYV.out] at h1
          rw [HNY.out]
          exact norm_le_b (by omega) hnr HY.out.lt (by omega))
        have HALL := hide (fun (o : Obj) => (Below.refl wr.heap.size wr).alloc (Nat.le_refl _) o)
        have HNEW := hide (show (wr.alloc (.cells #[.int .i64 X] 3)).ownsRow wr.heap.size 3 1 (.slice (some ⟨wr.heap.size, 0, none⟩) 1 1) 1 (icells [X]) from row_owns (heap_alloc_new wr (rowO [X])) (Nat.le_refl _) (by simp [maxLen]))
        obtain ⟨i0, hi0, hz0, hz1, hz2⟩ := info_parts info3
        have hrl := HRL.out
        clear hd hnr hQ hW hp hX hc hv2 hg hin hlt
        rcases ho.2 with ⟨hv, hr0⟩ | ⟨gr, capr, curr, hv, hgr, hhr, hrr⟩
        case' inl =>
          subst hv
          have hR0 : R = [] := List.eq_nil_of_length_eq_zero hr0
          clear hr0 ho
          go_wp2_with (at_builtin; go_must (refine wpList_append_own_none rfl (.tmp 51) (.tmp 52) 261 rfl wr.heap.size 3 i0 1 Tryz.underlying261 hi0 (.slice (some ⟨wr.heap.size, 0, none⟩) 1 1) 1 (icells [X]) rfl HNEW.out rfl ?_))
          have HO5 := hide (show OwnL wr.heap.size (wr.alloc (.cells #[.int .i64 X] 3)) (.slice (some ⟨wr.heap.size, 0, none⟩) 1 1) (X :: R) by
            rw [hR0]
            exact HNEW.out)
          have HB5 := hide (HALL.out (.cells #[.int .i64 X] 3))
          refine (rtrim_own wr.heap.size _ (X :: R) _ HO5.out (by simp; omega)).mono ?_
          rintro e w6 ⟨rfl, v6, rfl, h6⟩
          obtain ⟨W5, hW5⟩ : ∃ W5, wr.alloc (.cells #[.int .i64 X] 3) = W5 := ⟨_, rfl⟩
          rw [hW5] at HB5 h6 ⊢
          clear hR0 HO5 hW5
        case' inr =>
          subst hv
          have hcs := ho.cells (g := gr) rfl
          have HNS := hide (fun j u (hu : (icells R)[j]? = some u) => ((show (wr.alloc (.cells #[.int .i64 X] 3)).cell? ((⟨gr, 0, none⟩ : Addr).add j) = wr.cell? ((⟨gr, 0, none⟩ : Addr).add j) by
            rw [Addr.add_lit]
            exact cell_alloc (lt_blk hhr)).trans (hcs j u hu)))
          clear hhr hrr hcs ho
          go_wp2_with (at_builtin; go_must (refine wpList_append_own _ rfl (.tmp 51) (.tmp 52) 261 rfl wr.heap.size 3 i0 _ 1 8 Tryz.underlying261 hi0 hz0 hz1 hz2 rfl (by decide) (.slice (some ⟨wr.heap.size, 0, none⟩) 1 1) 1 (icells [X]) rfl HNEW.out ⟨gr, 0, none⟩ R.length capr (icells R) rfl (by simp [icells]) HNS.out (by simp [icells, Value.oneCell']) (by simp only [maxLen]; omega) (by omega) (by simp) ?_); intro v5 w5 hown hg1 hiff; clear hiff; have HO5 := hide (show OwnL wr.heap.size w5 v5 (X :: R) by
            unfold OwnL
            rw [show (X :: R).length = 1 + R.length by simp; omega]
            exact hown); have HB5 := hide ((HALL.out (.cells #[.int .i64 X] 3)).grown hg1 (by simp) (owns_ge HNEW.out (Nat.le_refl _))); clear hown hg1)
          refine (rtrim_own wr.heap.size v5 (X :: R) w5 HO5.out (by simp; omega)).mono ?_
          rintro e w6 ⟨rfl, v6, rfl, h6⟩
          obtain ⟨W5, hW5⟩ : ∃ W5, W5 = w5 := ⟨_, rfl⟩
          rw [← hW5] at HB5 h6 ⊢
          clear HNS HO5 hW5
        all_goals
          obtain ⟨a6, c6, hvf, _, _⟩ := h6.form
          subst hvf
          have HN6 := hide (show Norm 1000000 (trimL (X :: R)) from trimL_norm (fun z hz => by
            rcases List.mem_cons.1 hz with h | h
            · rw [h]; exact hxp
            · exact HNR.out.lt z h))
          have HL6 := hide (show lv 1000000 (trimL (X :: R)) = X + 1000000 * lv 1000000 R by rw [trimL_lv]; rfl)
          have HC6 := hide (show (trimL (X :: R)).length ≤ m + 3 by
            rw [trimL_len]
            have := trimTo_le (X :: R) (X :: R).length
            have h2 : (X :: R).length = R.length + 1 := rfl
            have := HM.out
            omega)
          obtain ⟨R1, hR1⟩ : ∃ R1, R1 = trimL (X :: R) := ⟨_, rfl⟩
          rw [← hR1] at HN6 HL6 HC6 h6 ⊢
          have H6 := hide h6
          clear h6 hR1 HNEW HALL hi0 hz0 hz1 hz2
          have hr6 := HC6.out
          go_wp2_with fail
          have hA := hide (rlimb_any (.slice a6 R1.length c6) R1 n W5.heap.size W5 H6.out.at_ (by omega))
          have hB' := hide (rlimb_any (.slice a6 R1.length c6) R1 m1 W5.heap.size W5 H6.out.at_ (by omega))
          have hC := hide (rlimb_any (.slice a6 R1.length c6) R1 m W5.heap.size W5 H6.out.at_ (by omega))
          have l2 := lat_lt (by omega) HN6.out.lt n
          have l1 := lat_lt (by omega) HN6.out.lt m1
          have l0 := lat_lt (by omega) HN6.out.lt m
          have HUP := hide (up3 HN6.out.lt hr6)
          rw [← HM.out, ← HM1.out] at HUP
          obtain ⟨L2, hL2⟩ : ∃ L2, L2 = lat R1 n := ⟨_, rfl⟩
          obtain ⟨L1, hL1⟩ : ∃ L1, L1 = lat R1 m1 := ⟨_, rfl⟩
          obtain ⟨L0, hL0⟩ : ∃ L0, L0 = lat R1 m := ⟨_, rfl⟩
          rw [← hL2] at hA l2 HUP
          rw [← hL1] at hB' l1 HUP
          rw [← hL0] at hC l0 HUP
          obtain ⟨G, hGi, hG⟩ := rdiv_nums L2 L1 L0 T
          rw [HUP.out, HTOP.out] at hG
          have hGS := guess_le (Nat.pow_pos (by omega)) hG
          obtain ⟨S, hS⟩ : ∃ S, S = lv 1000000 R1 := ⟨_, rfl⟩
          rw [← HYV.out, ← hS] at hGS
          have hSY : S < 1000000 * Y := by
            rw [hS, HL6.out]
            have := HD.out.rest
            omega
          have hGl := guess_lt hGS hSY
          have HGS := hide hGS; have HSY := hide hSY; have HS := hide hS
          have hT0 : ((T : Int) + 1 == 0) = false := by
            simp only [beq_eq_false_iff_ne, ne_eq]
            omega
          clear hL2 hL1 hL0 hG hGS hSY hS
          refine hA.out.mono ?_
          rintro e w7 ⟨rfl, he⟩
          obtain rfl := he.symm
          go_wp2_with fail
          refine hB'.out.mono ?_
          rintro e w7 ⟨rfl, he⟩
          obtain rfl := he.symm
          go_wp2_with fail
          refine hC.out.mono ?_
          rintro e w7 ⟨rfl, he⟩
          obtain rfl := he.symm
          clear hA hB' hC
          go_wp2_with fail
          rw [hGi]
          have HGI := hide hGi
          clear hGi hT0 l2 l1 l0
          have HB6 := hide (HB5.out.alloc (Nat.le_trans (Nat.le_refl _) HB5.out.size) (.cells #[.int .i64 G] 3))
          have HB7 := hide (HW.out.trans (HB6.out.mono HW.out.size))
          have HG6 := hide (show LimbAt (W5.alloc (.cells #[.int .i64 G] 3)).heap.size (W5.alloc (.cells #[.int .i64 G] 3)) (.slice (some ⟨W5.heap.size, 0, none⟩) 1 1) [G] from row_limbs (heap_alloc_new W5 (rowO [G])) (by simp [maxLen]))
          have HR6 := hide (show OwnL wr.heap.size (W5.alloc (.cells #[.int .i64 G] 3)) (.slice a6 R1.length c6) R1 from H6.out.keep ((Below.refl _ _).alloc (Nat.le_refl _) _))
          have HY6 := hide ((HBB.out.below HB7.out hB).mono (Nat.le_trans hB HB7.out.size))
          obtain ⟨W6, hW6⟩ : ∃ W6, W5.alloc (.cells #[.int .i64 G] 3) = W6 := ⟨_, rfl⟩
          rw [hW6] at HB6 HB7 HG6 HR6 HY6 ⊢
          rw [← HNY.out] at HY6
          clear hW6 H6 HB5
          have hnl : n ≤ 1000 := ly
          refine (rtimes_any _ _ y [G] W6.heap.size W6 HY6.out HG6.out (Nat.le_refl _) HY.out.lt (fun z hz => by simp only [List.mem_singleton] at hz; rw [hz]; exact hGl) (by rw [← HNY.out]; omega) (by simp)).mono ?_
          rintro e w7 ⟨l7, ⟨v7, rfl, hb7, o7⟩, n7, q7, k7⟩
          obtain ⟨a7, c7, hvf, _, _⟩ := o7.form
          subst hvf
          have HB8 := hide (HB7.out.trans (hb7.mono HB7.out.size))
          have HR7 := hide (HR6.out.keep hb7)
          have O7 := hide o7; have N7 := hide n7
          have Q7 := hide (show lv 1000000 l7 = G * Y by rw [q7, ← HYV.out, Nat.mul_comm]; simp [lv])
          have HBB7 := hide (show Below wr.heap.size wr w7 from HB6.out.trans (hb7.mono HB6.out.size))
          clear hb7 o7 n7 q7 k7 HG6 HY6 HR6 HB6 HB7
          go_wp2_with fail
          refine (rminus_any _ _ R1 l7 w7.heap.size w7 (.of_own HR7.out) (.of_own O7.out) (Nat.le_refl _) HN6.out.lt N7.out (by omega) (by rw [Q7.out, ← HS.out]; exact HGS.out)).mono ?_
          rintro e w8 ⟨l8, ⟨v8, rfl, hb8, o8⟩, n8, q8, k8⟩
          have HB9 := hide (HB8.out.trans (hb8.mono HB8.out.size))
          have hsw : w.heap.size + 1 ≤ w7.heap.size := by have := HBB7.out.size; omega
          have O8 := hide (o8.mono hsw); have N8 := hide n8
          have Q8 := hide (show G * Y + lv 1000000 l8 = S by rw [q8, Q7.out, ← HS.out]; have := HGS.out; omega)
          have HQ8 := hide (below_blk (HBB7.out.trans (hb8.mono HBB7.out.size)) HQ.out hsz)
          clear hb8 o8 n8 q8 k8 HR7 O7 N7 Q7 HBB7 HB8 hsw
          obtain ⟨wo, hwo⟩ : ∃ wo, wo = w8 := ⟨_, rfl⟩
          rw [← hwo] at HB9 O8 HQ8 ⊢
          clear hwo
          go_wp2_with fail
          go_loopw [9, 11] (fun v g wr2 => ∃ G2 : Nat, g = .int .i64 G2 ∧ G2 ≤ 1000000 ∧ Hid (∃ R2 : List Nat, OwnL (w.heap.size + 1) wr2 v R2 ∧ Norm 1000000 R2 ∧ G2 * Y + lv 1000000 R2 = S ∧ wr2.heap[w.heap.size]? = some (rowO Q) ∧ Below w.heap.size w wr2)) (fun _ g _ => 1000000 - (intOf g).toNat)
          case atStart => exact ⟨G, rfl, by omega, l8, O8.out, N8.out, Q8.out, HQ8.out, HB9.out⟩
          case round =>
            obtain ⟨G2, rfl, hG2, hin⟩ := hrel
            obtain ⟨R2, ho2, hn2, hv2, hq2, hw2⟩ := hin.out
            obtain ⟨ar, cr, hvf, _, _⟩ := ho2.form
            subst hvf
            have hlen2 : R2.length ≤ m + 3 := Nat.le_trans (norm_le_b (by omega) hn2 HN6.out.lt (by rw [← HS.out]; omega)) hr6
            have hBw : B ≤ wr.heap.size := Nat.le_trans hB hw2.size
            have hyw := (HBB.out.below hw2 hB).mono hBw
            rw [← HNY.out] at hyw
            have HO2 := hide ho2; have HN2 := hide hn2; have HV2 := hide hv2; have HQ2 := hide hq2; have HW2 := hide hw2; have HYW := hide hyw
            have hsz2 := lt_blk hq2
            have HSZ := hide (rsize_any (.slice ar R2.length cr) _ R2 y wr.heap.size wr ho2.at_ hyw (Nat.le_refl _) hn2 HY.out (by omega))
            clear ho2 hn2 hv2 hq2 hw2 hyw hin
            go_wp2_with fail
            refine HSZ.out.mono ?_
            rintro e w9 ⟨r, rfl, hr, hb9⟩
            have hb9s := hb9.size
            have HW3 := hide (HW2.out.trans (hb9.mono HW2.out.size)); have HO3 := hide (HO2.out.keep hb9); have HQ3 := hide (below_blk hb9 HQ2.out hsz2); have HYW3 := hide ((HYW.out.below hb9 (Nat.le_refl _)).mono hb9s)
            clear hb9 HSZ HW2 HO2 HQ2 HYW
            by_cases hge : 0 ≤ r
            · have hle : Y ≤ lv 1000000 R2 := by
                rw [HYV.out]
                have h1 := hr.1
                have h2 : ¬ lv 1000000 R2 < lv 1000000 y := fun h => by have := h1.2 h; omega
                omega
              have hG3 : G2 + 1 ≤ 1000000 := by
                have h1 := HSY.out
                have h2 := HV2.out
                have h3 : (G2 + 1) * Y ≤ S := by rw [Nat.add_mul]; omega
                exact Nat.le_of_lt (guess_lt h3 h1)
              have HLE := hide hle
              clear hr hle
              go_wp2_with fail
              refine (rminus_any _ _ R2 y w9.heap.size w9 HO3.out.at_ HYW3.out (Nat.le_refl _) HN2.out.lt HY.out (by omega) (by rw [← HYV.out]; exact HLE.out)).mono ?_
              rintro e w10 ⟨l10, ⟨v10, rfl, hb10, o10⟩, n10, q10, k10⟩
              have HW4 := hide (HW3.out.trans (hb10.mono HW3.out.size))
              have HO4 := hide (o10.mono (show w.heap.size + 1 ≤ w9.heap.size by omega))
              have HQ4 := hide (below_blk hb10 HQ3.out (by omega))
              have HN4 := hide n10
              have HV4 := hide (show (G2 + 1) * Y + lv 1000000 l10 = S by
                have h1 := HV2.out
                have h2 := HLE.out
                rw [q10, ← HYV.out, Nat.add_mul]
                omega)
              clear hb10 o10 n10 q10 k10
              go_wp2_with fail
              go_roundw
              case rel => exact ⟨G2 + 1, by go_num, hG3, l10, HO4.out, HN4.out, HV4.out, HQ4.out, HW4.out⟩
              case measure => simp [intOf]; omega
            · have hlt2 : lv 1000000 R2 < Y := by
                rw [HYV.out]
                exact hr.1.1 (by omega)
              have hge' : (0 ≤ r) = False := eq_false hge
              have hG3 : G2 < 1000000 := guess_lt (y := Y) (r := S) (by have := HV2.out; omega) HSY.out
              have hpQ : p < Q.length := by rw [HD.out.len, ← HN.out]; exact hpN
              have c3 := row_cell HQ3.out hpQ
              have f3 := row_froz HQ3.out p
              have hsz3 : w.heap.size < w9.heap.size := by omega
              have HRS := hide hlt2
              clear hr hge hlt2
              go_wp2_with fail
              go_roundw
              case rel =>
                refine ⟨k + 1, by have := HP.out; omega, by have := HP.out; congr 1; omega, Q.set p G2, R2, ?_, HO3.out.other (p := ⟨w.heap.size, p, none⟩) (by simp) _, HN2.out, row_set HQ3.out p G2, HW3.out.setCell (p := ⟨w.heap.size, p, none⟩) (Nat.le_refl _) _⟩
                refine HD.out.step (by have := HN.out; have := HP.out; omega) (i := p) (by have := HN.out; have := HP.out; omega) hG3 HRS.out ?_
                rw [← HXE.out]
                have h1 := HV2.out
                rw [HS.out, HL6.out] at h1
                omega
              case measure => simp [intOf]
      · obtain rfl : k = N := by omega
        have hm : (k : Int) - 1 - (k : Int) = -1 := by omega
        rw [hm]
        have hQn : Q.length = k := hd.len.trans HN.out.symm
        have HTq := hide (rtrim_own w.heap.size (.slice (some ⟨w.heap.size, 0, none⟩) k k) Q wr (by
          have := row_owns (base := w.heap.size) hQ (Nat.le_refl _) (by unfold maxLen; omega)
          rw [hQn] at this
          exact this) (by omega))
        have HD := hide hd; have HO := hide ho; have HNR := hide hnr; have HW := hide hW; have HQN := hide hQn
        clear hd ho hnr hQ hW hQn hin hlt hm hj1 hj2
        go_wp2_with fail
        refine HTq.out.mono ?_
        rintro e w5 ⟨rfl, vq, rfl, hoq⟩
        have HOQ := hide hoq
        clear hoq HTq
        go_wp2_with fail
        refine bodyPost_ret (results_tmp2 rfl _ _ _) rfl ?_
        obtain ⟨e1, e2⟩ := (show RDivAt x Y x.length Q (lv 1000000 R) by have := HD.out; rw [HN.out] at this; exact this).done
        refine ⟨_, _, trimL Q, R, rfl, HW.out, HOQ.out, HO.out.mono (by omega), trimL_norm HD.out.lt, HNR.out, by rw [trimL_lv, e1, HYV.out], by rw [e2, HYV.out], ?_⟩
        rw [trimL_len]
        have := trimTo_le Q Q.length
        have := HQN.out
        have := HN.out
        omega
open Go.RowKit Go.KP Go.KI Go.Shelf
attribute [local go_sem] Oper.semAt_some

structure RDivSt (nb b : Nat) (mq mr my : Bool) (vq vr vy : Value) (W : World) : Prop where
  q : W.heap[b]? = some (bigO mq vq)
  r : W.heap[b + 1]? = some (bigO mr vr)
  y : W.heap[nb + 1]? = some (bigO my vy)
  lt : nb + 1 < b
theorem RDivSt.on {nb b : Nat} {mq mr my : Bool} {vq vr vy : Value} {W W2 : World} (h : RDivSt nb b mq mr my vq vr vy W) (hb : Below W.heap.size W W2) : RDivSt nb b mq mr my vq vr vy W2 :=
  ⟨below_blk hb h.q (lt_blk h.q), below_blk hb h.r (lt_blk h.r), below_blk hb h.y (lt_blk h.y), h.lt⟩
theorem RDivSt.cells {nb b : Nat} {mq mr my : Bool} {vq vr vy : Value} {W : World} (h : RDivSt nb b mq mr my vq vr vy W) :
    (W.cell? ⟨b, 0, none⟩ = some (.bool mq) ∧ W.cell? ⟨b, 1, none⟩ = some vq) ∧ (W.cell? ⟨b + 1, 0, none⟩ = some (.bool mr) ∧ W.cell? ⟨b + 1, 1, none⟩ = some vr) ∧ (W.cell? ⟨nb + 1, 0, none⟩ = some (.bool my) ∧ W.cell? ⟨nb + 1, 1, none⟩ = some vy) ∧
    (W.frozen? ⟨b, 0, none⟩ = false ∧ W.frozen? ⟨b, 1, none⟩ = false) ∧ (W.frozen? ⟨b + 1, 0, none⟩ = false ∧ W.frozen? ⟨b + 1, 1, none⟩ = false) ∧ b < W.heap.size ∧ b + 1 < W.heap.size ∧ nb + 1 < W.heap.size :=
  ⟨⟨cell_blk h.q 0, cell_blk h.q 1⟩, ⟨cell_blk h.r 0, cell_blk h.r 1⟩, ⟨cell_blk h.y 0, cell_blk h.y 1⟩, ⟨froz_blk h.q 0, froz_blk h.q 1⟩, ⟨froz_blk h.r 0, froz_blk h.r 1⟩, lt_blk h.q, lt_blk h.r, lt_blk h.y⟩
open Go.RowKit Go.KP Go.KI Go.Shelf
attribute [local go_sem] Oper.semAt_some

theorem rfield_limbs (m : Bool) (v : Value) (w : World) : (Instr.field 308 (numV m v) 1).run Tryz.prog w = .ok v w := by kernel_rfl
theorem rGcd_small (s t : ByteArray) (B : Nat) (w : World) (c1 : chkI s.data.toList = 0) (c2 : chkI t.data.toList = 0) (hs : s.size ≤ 17) (ht : t.size ≤ 17) (hB : B ≤ w.heap.size) (hT : P10 B w) :
    Calls Tryz.prog 339 #[.string s, .string t] w (Ret w (pairV (Lib.itoa ((Nat.gcd (valI s.data.toList).natAbs (valI t.data.toList).natAbs : Nat) : Int)) 0)) := by
  have H1 := hide (rboth_any s t (by omega) (by omega) w)
  have hb0 : bothI s.data.toList t.data.toList = 0 := by unfold bothI; rw [if_pos c1, c2]
  rw [hb0] at H1
  have HT := hide hT
  have H2 := hide (fun w => rtwo_yes s t c1 c2 hs ht w)
  have v1 := short_val (n := 17) c1 (by rw [bytes_len]; exact hs) (by omega)
  have v2 := short_val (n := 17) c2 (by rw [bytes_len]; exact ht) (by omega)
  rw [pow17] at v1 v2
  obtain ⟨x, hx⟩ : ∃ x, x = valI s.data.toList := ⟨_, rfl⟩
  obtain ⟨y, hy⟩ : ∃ y, y = valI t.data.toList := ⟨_, rfl⟩
  rw [← hx, ← hy] at H2 ⊢
  rw [← hx] at v1
  rw [← hy] at v2
  obtain ⟨G, hG⟩ : ∃ G, G = Nat.gcd x.natAbs y.natAbs := ⟨_, rfl⟩
  rw [← hG]
  have HG := hide hG
  have V1 := hide v1; have V2 := hide v2
  clear c1 c2 hs ht hT hx hy hb0 hG v1 v2
  go_enter Tryz.func339, Tryz.ntmps339
  go_wp2_with fail
  refine H1.out.mono ?_
  rintro e w1 ⟨rfl, hb1⟩
  have HB1 := hide hb1
  clear hb1 H1
  go_wp2_with fail
  refine (H2.out _).mono ?_
  rintro e w2 ⟨rfl, hb2⟩
  have HB2 := hide (HB1.out.trans (hb2.mono HB1.out.size))
  clear hb2 H2 HB1
  go_wp2_with fail
  go_loopw [7, 8] (fun a b wr => ∃ p q : Int, a = .int .i64 p ∧ b = .int .i64 q ∧ p.natAbs < 100000000000000000 ∧ q.natAbs < 100000000000000000 ∧ Hid (Nat.gcd p.natAbs q.natAbs = G ∧ Below w.heap.size w wr)) (fun _ b _ => (intOf b).natAbs)
  case atStart => exact ⟨x, y, rfl, rfl, V1.out, V2.out, HG.out.symm, HB2.out⟩
  case round =>
    obtain ⟨p, q, rfl, rfl, hp, hq, hin⟩ := hrel
    have IN := hide hin.out
    clear hin
    by_cases hq0 : q = 0
    · subst hq0
      have hqq : ((0 : Int) != 0) = false := rfl
      have hG : (p.natAbs : Nat) = G := by have := IN.out.1; simpa using this
      have GG := hide hG
      clear hq hG
      go_wp2_with fail
      have hmx : max p (-p) = (G : Int) := by have := GG.out; omega
      rw [hmx]
      have hG1 : (G : Int) ≤ 9223372036854775807 := by have := GG.out; omega
      clear hmx hqq
      refine (itoa_any G (by omega) hG1 B _ (HT.out.on IN.out.2 hB)).mono ?_
      rintro e w3 ⟨rfl, hb3⟩
      have HB3 := hide (IN.out.2.trans (hb3.mono IN.out.2.size))
      clear hb3
      go_wp2_with fail
      refine bodyPost_ret (results_tmp2 rfl _ _ _) rfl ?_
      exact ⟨rfl, HB3.out⟩
    · have hqq : (q != 0) = true := by simpa using hq0
      have hyq : (q == 0) = false := by simpa using hq0
      have hr := natAbs_tmod_lt p hq0
      have hgc : Nat.gcd q.natAbs (p.tmod q).natAbs = G := by
        rw [Int.natAbs_tmod, ← IN.out.1, Nat.gcd_comm q.natAbs, ← Nat.gcd_rec, Nat.gcd_comm]
      have GG := hide hgc
      clear hq0 hgc
      go_wp2_with fail
      go_quiet (fail)
      clear hyq hqq
      go_wp2_with fail
      go_roundw
      case rel => exact ⟨q, p.tmod q, rfl, rfl, hq, by omega, GG.out, ⟨IN.out.2.os, IN.out.2.tape, IN.out.2.output, IN.out.2.size, IN.out.2.block⟩⟩
      case measure => simpa [intOf] using hr
theorem rGcd_long (s t : ByteArray) (w : World) (c1 : chkI s.data.toList = 0) (c2 : chkI t.data.toList = 0) (hl : ¬ (s.size ≤ 17 ∧ t.size ≤ 17)) :
    Calls Tryz.prog 339 #[.string s, .string t] w (Ret w (pairV (Lib.itoa ((Nat.gcd (valI s.data.toList).natAbs (valI t.data.toList).natAbs : Nat) : Int)) 0)) := by
  have l1' := (chk_digs c1).2
  have l2' := (chk_digs c2).2
  rw [bytes_len] at l1' l2'
  have H1 := hide (rboth_any s t (by omega) (by omega) w)
  have hb0 : bothI s.data.toList t.data.toList = 0 := by unfold bothI; rw [if_pos c1, c2]
  rw [hb0] at H1
  have H2 := hide (fun w => rtwo_no s t c1 hl w)
  have R1 := hide (fun w => rread_good s c1 w)
  have R2 := hide (fun w => rread_good t c2 w)
  obtain ⟨G, hG⟩ : ∃ G, G = Nat.gcd (valI s.data.toList).natAbs (valI t.data.toList).natAbs := ⟨_, rfl⟩
  rw [← hG]
  have HG := hide hG
  clear c1 c2 hl hb0 l1' l2' hG
  go_enter Tryz.func339, Tryz.ntmps339
  go_wp2_with fail
  refine H1.out.mono ?_
  rintro e w1 ⟨rfl, hb1⟩
  have HB1 := hide hb1
  clear hb1 H1
  go_wp2_with fail
  refine (H2.out _).mono ?_
  rintro e w2 ⟨x0, y0, rfl, hb2⟩
  have HB2 := hide (HB1.out.trans (hb2.mono HB1.out.size))
  clear hb2 H2 HB1
  go_wp2_with fail
  refine (R1.out _).mono ?_
  rintro e w3 ⟨m1, a1, l1, rfl, hb3, o1, n1, q1, k1⟩
  have HB3 := hide (HB2.out.trans (hb3.mono HB2.out.size))
  have O1 := hide o1; have N1 := hide n1; have Q1 := hide q1
  obtain ⟨av1, cv1, hvf, _, _⟩ := o1.form
  subst hvf
  clear hb3 HB2 R1 o1 n1 q1
  have hf1 := fun w => rfield_limbs m1 (.slice av1 l1.length cv1) w
  go_wp2_with fail
  clear hf1
  refine (R2.out _).mono ?_
  rintro e w4 ⟨m2, a2, l2, rfl, hb4, o2, n2, q2, k2⟩
  have HB4 := hide (HB3.out.trans (hb4.mono HB3.out.size))
  have O1' := hide (O1.out.keep hb4)
  have O2 := hide o2; have N2 := hide n2; have Q2 := hide q2
  obtain ⟨av2, cv2, hvf, _, _⟩ := o2.form
  subst hvf
  clear hb4 HB3 R2 o2 n2 q2 O1
  have hf2 := fun w => rfield_limbs m2 (.slice av2 l2.length cv2) w
  have HG2 := hide (show Nat.gcd (lv 1000000 l1) (lv 1000000 l2) = G by
    rw [HG.out, ← Q1.out, ← Q2.out, valS_abs, valS_abs])
  go_wp2_with fail
  clear hf2
  go_loopw [10, 11] (fun p q wr => ∃ (ap : Option Addr) (cp : Nat) (aq : Option Addr) (cq : Nat) (x y : List Nat), p = .slice ap x.length cp ∧ q = .slice aq y.length cq ∧ x.length ≤ 60 ∧ y.length ≤ 60 ∧ Hid (LimbAt wr.heap.size wr (.slice ap x.length cp) x ∧ LimbAt wr.heap.size wr (.slice aq y.length cq) y ∧ Norm 1000000 x ∧ Norm 1000000 y ∧ Nat.gcd (lv 1000000 x) (lv 1000000 y) = G ∧ Below w.heap.size w wr)) (fun _ q wr => lv 1000000 (limbsAt wr q))
  case atStart => exact ⟨av1, cv1, av2, cv2, l1, l2, rfl, rfl, k1, k2, LimbAt.of_own O1'.out, LimbAt.of_own O2.out, N1.out, N2.out, HG2.out, HB4.out⟩
  case round =>
    clear k1 k2
    obtain ⟨ap, cp, aq, cq, x, y, rfl, rfl, hx, hy, hin⟩ := hrel
    have I1 := hide hin.out.1; have I2 := hide hin.out.2.1; have N3 := hide hin.out.2.2.1; have N4 := hide hin.out.2.2.2.1; have GG := hide hin.out.2.2.2.2.1; have HBW := hide hin.out.2.2.2.2.2
    clear hin
    by_cases hy0 : y = []
    · subst hy0
      have hz : valS false (lv 1000000 x) = (G : Int) := by
        have := GG.out
        rw [lv_nil, Nat.gcd_zero_right] at this
        rw [this]
        rfl
      have HR := hide (rwrite_any false (.slice ap x.length cp) x wr.heap.size wr I1.out (Nat.le_refl _) N3.out (by omega))
      rw [hz] at HR
      clear hz
      go_wp2_with fail
      refine HR.out.mono ?_
      rintro e w5 ⟨rfl, hb5⟩
      have HB5 := hide (HBW.out.trans (hb5.mono HBW.out.size))
      clear hb5 HR
      go_wp2_with fail
      refine bodyPost_ret (results_tmp2 rfl _ _ _) rfl ?_
      exact ⟨rfl, HB5.out⟩
    · have hyl : 0 < (y.length : Int) := by
        have := List.length_pos_iff.2 hy0
        omega
      have HD := hide (rdivide_any (.slice ap x.length cp) (.slice aq y.length cq) x y wr.heap.size wr I1.out I2.out (Nat.le_refl _) N3.out.lt N4.out hy0 (by omega) (by omega))
      have hyp : 0 < lv 1000000 y := by
        rcases Nat.eq_zero_or_pos (lv 1000000 y) with h | h
        · exact absurd ((N4.out.zero (by omega)).1 h) hy0
        · exact h
      have HYP := hide hyp
      clear hy0 hyp
      go_wp2_with fail
      refine HD.out.mono ?_
      rintro e w5 ⟨vq, vr, q, r, rfl, hb5, oq, or_, nq, nr, eq, er, lq⟩
      obtain ⟨ar, cr, hvf, _, _⟩ := or_.form
      subst hvf
      have hrlt : lv 1000000 r < lv 1000000 y := by rw [er]; exact Nat.mod_lt _ HYP.out
      have hrl : r.length ≤ 60 := by
        have := norm_le_b (by omega) nr N4.out.lt (Nat.le_of_lt hrlt)
        omega
      have HB5 := hide (HBW.out.trans (hb5.mono HBW.out.size))
      have J2 := hide ((I2.out.below hb5 (Nat.le_refl _)).mono hb5.size)
      have HE := hide (show Nat.gcd (lv 1000000 y) (lv 1000000 r) = G by rw [er, ← GG.out, Nat.gcd_comm (lv 1000000 y), ← Nat.gcd_rec, Nat.gcd_comm])
      have OR := hide (LimbAt.of_own or_); have NR := hide nr; have HLT := hide hrlt
      clear hb5 oq or_ nq nr eq er lq HD hrlt
      go_wp2_with fail
      go_roundw
      case rel => exact ⟨aq, cq, ar, cr, y, r, rfl, rfl, hy, hrl, J2.out, OR.out, N4.out, NR.out, HE.out, HB5.out⟩
      case measure =>
        rw [limbsAt_eq OR.out, limbsAt_eq I2.out]
        exact HLT.out
end Go.Proofs.YtpmnhipffkhcpaaGreatDoor
namespace Go.KI
open Go
theorem cut2 (l : List UInt8) : digs (numT l) = ahead 47 (digs l) ∧ (47 ∈ l ↔ 47 ∈ digs l) ∧ denT l = behind 47 (digs l) ∧ ((numT l).head? = some 45 ↔ isNeg l = true) := by
  cases l with
  | nil => exact ⟨rfl, Iff.rfl, rfl, by decide⟩
  | cons c r =>
    by_cases h : c = 45
    · subst h
      have e1 : digs (45 :: r) = r := rfl
      have e2 : numT (45 :: r) = 45 :: numT r := rfl
      have e3 : denT (45 :: r) = denT r := rfl
      rw [e1, e2, e3]
      exact ⟨rfl, by simp, rfl, by simp [isNeg]⟩
    · have e1 : digs (c :: r) = c :: r := by simp [digs, h]
      rw [e1]
      by_cases h47 : c = 47
      · subst h47
        exact ⟨rfl, Iff.rfl, rfl, by simp [isNeg, numT]⟩
      · have e2 : numT (c :: r) = c :: numT r := by
          unfold numT
          rw [List.takeWhile_cons, if_pos (by simpa using h47)]
        refine ⟨?_, Iff.rfl, rfl, ?_⟩
        · rw [e2]
          show (if c = 45 then _ else _) = _
          rw [if_neg h, ← e2]
          rfl
        · rw [e2]
          simp [isNeg]
theorem valI_abs (l : List UInt8) : (valI l).natAbs = dv (digs l) := by
  unfold valI
  split <;> simp
theorem chkQ_cut (l nn dd : List UInt8) (h1 : nn = ahead 47 (digs l)) (h2 : dd = if 47 ∈ digs l then behind 47 (digs l) else []) :
    chkQ l = if ¬ numeral nn ∨ (47 ∈ digs l ∧ (¬ numeral dd ∨ dd = [48] ∨ dd = [49])) ∨ (isNeg l = true ∧ nn = [48]) then 11 else if 300 < nn.length ∨ 300 < dd.length then 4 else if 47 ∈ digs l ∧ Nat.gcd (dv nn) (dv dd) ≠ 1 then 11 else 0 := by
  obtain ⟨c1, c2, c3, c4⟩ := cut2 l
  have hcut : cutOK l ↔ ¬ (¬ numeral nn ∨ (47 ∈ digs l ∧ (¬ numeral dd ∨ dd = [48] ∨ dd = [49])) ∨ (isNeg l = true ∧ nn = [48])) := by
    unfold cutOK
    rw [chkI_11, c1, c2, c3, c4, ← h1]
    by_cases hs : 47 ∈ digs l
    · rw [if_pos hs] at h2
      rw [← h2]
      constructor
      · rintro a (b | b | b)
        · exact a (.inl (.inl b))
        · exact a (.inr b)
        · exact a (.inl (.inr b))
      · rintro a ((b | b) | b)
        · exact a (.inl b)
        · exact a (.inr (.inr b))
        · exact a (.inr (.inl b))
    · constructor
      · rintro a (b | b | b)
        · exact a (.inl (.inl b))
        · exact absurd b.1 hs
        · exact a (.inl (.inr b))
      · rintro a ((b | b) | b)
        · exact a (.inl b)
        · exact a (.inr (.inr b))
        · exact absurd b.1 hs
  by_cases hc : cutOK l
  · rw [if_neg (hcut.1 hc), chkQ_form hc, c1, ← h1, valI_abs, c1, ← h1]
    unfold denS
    by_cases hs : 47 ∈ digs l
    · have hs2 := c2.2 hs
      rw [if_pos hs] at h2
      simp only [hs, hs2, if_true, true_and, c3, ← h2]
    · have hs2 : ¬ 47 ∈ l := fun e => hs (c2.1 e)
      rw [if_neg hs] at h2
      simp [hs, hs2, h2]
  · rw [if_pos (Decidable.not_not.1 fun e => hc (hcut.2 e))]
    unfold chkQ
    rw [if_pos (Decidable.not_not.1 hc)]
theorem numeral_ok {l : List UInt8} (h : numeral l) (hl : l.length ≤ 300) : chkI l = 0 ∧ valI l = ((dv l : Nat) : Int) := by
  have e := numeral_dec h
  obtain ⟨u, hu⟩ : ∃ u, u = dv l := ⟨_, rfl⟩
  rw [← hu] at e ⊢
  rw [e] at hl ⊢
  rw [← Lib.itoa_nonneg]
  exact ⟨chk_fits (fits_nat.2 hl), val_itoa _⟩
end Go.KI
namespace Go.Proofs.YtpmnhipffkhcpaaGreatDoor
open Go.RowKit Go.KP Go.KI Go.Shelf
attribute [local go_sem] Oper.semAt_some

theorem rGcd_num (s t : ByteArray) (h1 : numeral s.data.toList) (h2 : numeral t.data.toList) (l1 : s.size ≤ 300) (l2 : t.size ≤ 300) (B : Nat) (w : World) (hB : B ≤ w.heap.size) (hT : P10 B w) :
    Calls Tryz.prog 339 #[.string s, .string t] w (Ret w (.tuple #[.string (strB (Lib.decDigits (Nat.gcd (dv s.data.toList) (dv t.data.toList)))), .int .i64 0])) := by
  obtain ⟨c1, v1⟩ := numeral_ok h1 (by rw [bytes_len]; exact l1)
  obtain ⟨c2, v2⟩ := numeral_ok h2 (by rw [bytes_len]; exact l2)
  have e : pairV (Lib.itoa ((Nat.gcd (valI s.data.toList).natAbs (valI t.data.toList).natAbs : Nat) : Int)) 0 = .tuple #[.string (strB (Lib.decDigits (Nat.gcd (dv s.data.toList) (dv t.data.toList)))), .int .i64 0] := by
    rw [v1, v2, Int.natAbs_natCast, Int.natAbs_natCast, Lib.itoa_nonneg]
  rw [← e]
  by_cases hl : s.size ≤ 17 ∧ t.size ≤ 17
  · exact rGcd_small s t B w c1 c2 hl.1 hl.2 hB hT
  · exact rGcd_long s t w c1 c2 hl
theorem list_test {s : ByteArray} {l m : List UInt8} (h : s.data.toList = l) : (s.toList == m) = decide (l = m) := by
  by_cases e : l = m
  · rw [(lit_eq h).1 e, decide_eq_true e]
  · rw [(lit_eq h).2 e, decide_eq_false e]
theorem r2Check_big (s : ByteArray) (hs : s.size ≤ 9223372036854775807) (B : Nat) (w : World) (hB : B ≤ w.heap.size) (hT : PQ B w) :
    Calls Tryz.prog 239 #[.string s] w (Ret w (.int .i64 (chkQ s.data.toList))) := by
  have HT := hide hT
  clear hT
  obtain ⟨V, hV⟩ : ∃ V, V = chkQ s.data.toList := ⟨_, rfl⟩
  rw [← hV]
  have HS := hide (fun w => r2split_any s hs w)
  obtain ⟨nn, hnn⟩ : ∃ x, x = KI.ahead 47 (digs s.data.toList) := ⟨_, rfl⟩
  obtain ⟨dd, hdd⟩ : ∃ x, x = (if 47 ∈ digs s.data.toList then KI.behind 47 (digs s.data.toList) else []) := ⟨_, rfl⟩
  rw [chkQ_cut _ nn dd hnn hdd] at hV
  have hld : (digs s.data.toList).length ≤ s.size := by
    rw [digs_drop, List.length_drop, bytes_len]
    omega
  have hln : nn.length ≤ 9223372036854775807 := by
    have : nn.length ≤ (digs s.data.toList).length := by
      rw [hnn]
      exact List.Sublist.length_le (List.takeWhile_sublist _)
    omega
  have hlm : dd.length ≤ 9223372036854775807 := by
    have : dd.length ≤ (digs s.data.toList).length := by
      rw [hdd]
      split
      · exact List.Sublist.length_le ((List.drop_sublist _ _).trans (List.dropWhile_sublist _))
      · exact Nat.zero_le _
    omega
  have hd0 : decide (47 ∈ digs s.data.toList) = false → dd = [] := by
    intro h
    rw [hdd, if_neg (by simpa using h)]
  obtain ⟨neg, hneg⟩ : ∃ x, x = isNeg s.data.toList := ⟨_, rfl⟩
  obtain ⟨sl, hsl⟩ : ∃ x, x = decide (47 ∈ digs s.data.toList) := ⟨_, rfl⟩
  unfold splitR at HS
  rw [← hnn, ← hdd, ← hneg, ← hsl] at HS
  rw [← hsl] at hd0
  have hsl2 : 47 ∈ digs s.data.toList ↔ sl = true := by rw [hsl, decide_eq_true_iff]
  simp only [hsl2, ← hneg] at hV
  clear hsl hsl2 hneg hdd hnn hld hs
  obtain ⟨NN, hNN⟩ : ∃ x, x = strB nn := ⟨_, rfl⟩
  obtain ⟨DD, hDD⟩ : ∃ x, x = strB dd := ⟨_, rfl⟩
  have e1 : NN.data.toList = nn := by rw [hNN, strB_list]
  have e2 : DD.data.toList = dd := by rw [hDD, strB_list]
  rw [← hNN, ← hDD] at HS
  have hNs : NN.size = nn.length := by rw [← e1, bytes_len]
  have hDs : DD.size = dd.length := by rw [← e2, bytes_len]
  clear hNN hDD
  rw [← e1] at hV
  rw [← e2] at hV hd0
  rw [bytes_len, bytes_len] at hV
  have hDz : sl = false → DD.size = 0 := by
    intro h
    have := hd0 h
    rw [← bytes_len, this]
    rfl
  have HD1 := hide (fun b hb w => r2digits_any NN (by omega) b hb w)
  have HD2 := hide (fun b hb w => r2digits_any DD (by omega) b hb w)
  have tn := list_test (s := NN) (m := [48]) rfl
  have td := list_test (s := DD) (m := [48]) rfl
  have tu := list_test (s := DD) (m := [49]) rfl
  clear hNs hDs hln hlm e1 e2 hd0
  by_cases n1 : numeral NN.data.toList
  rotate_left
  · rw [if_pos (.inl n1)] at hV
    subst hV
    have HE1 := hide (HD1.out false (by simpa using n1))
    clear n1 hDz tn td tu HD1 HD2
    go_enter Tryz.func239, Tryz.ntmps239
    go_wp2_with fail
    refine (HS.out _).mono ?_
    rintro e w1 ⟨rfl, hb1⟩
    have HB1 := hide hb1
    clear hb1
    go_wp2_with fail
    refine (HE1.out _).mono ?_
    rintro e w2 ⟨rfl, hb2⟩
    have HB2 := hide (HB1.out.trans (hb2.mono HB1.out.size))
    clear hb2
    go_wp2_with fail
    go_ret
    exact ⟨rfl, HB2.out⟩
  have HE1 := hide (HD1.out true (by simpa using n1))
  clear HD1
  cases sl
  · have hz := hDz rfl
    have z1 : (300 < DD.size) = False := eq_false (by omega)
    have z1i : ((300 : Int) < (DD.size : Int)) = False := eq_false (by omega)
    by_cases hz : neg = true ∧ NN.data.toList = [48]
    · rw [if_pos (.inr (.inr hz))] at hV
      subst hV
      obtain ⟨rfl, h48⟩ := hz
      rw [decide_eq_true h48] at tn
      clear n1 hDz td tu HD2 h48 hz
      go_enter Tryz.func239, Tryz.ntmps239
      go_wp2_with fail
      refine (HS.out _).mono ?_
      rintro e w1 ⟨rfl, hb1⟩
      have HB1 := hide hb1
      clear hb1
      go_wp2_with fail
      refine (HE1.out _).mono ?_
      rintro e w2 ⟨rfl, hb2⟩
      have HB2 := hide (HB1.out.trans (hb2.mono HB1.out.size))
      clear hb2
      go_wp2_with fail
      go_ret
      exact ⟨rfl, HB2.out⟩
    rw [if_neg (by rintro (a | a | a); · exact a n1
                   · exact Bool.noConfusion a.1
                   · exact hz a)] at hV
    have hneg : neg = false ∨ (neg = true ∧ (NN.toList == [48]) = false) := by
      cases neg
      · exact .inl rfl
      · refine .inr ⟨rfl, ?_⟩
        rw [tn, decide_eq_false_iff_not]
        exact fun e => hz ⟨rfl, e⟩
    clear tn
    by_cases g1 : 300 < NN.size
    · rw [if_pos (.inl g1)] at hV
      subst hV
      have g1i : (300 : Int) < (NN.size : Int) := by omega
      clear n1 hDz td tu HD2 hz z1 z1i
      rcases hneg with rfl | ⟨rfl, tn⟩
      all_goals
        go_enter Tryz.func239, Tryz.ntmps239
        go_wp2_with fail
        refine (HS.out _).mono ?_
        rintro e w1 ⟨rfl, hb1⟩
        have HB1 := hide hb1
        clear hb1
        go_wp2_with fail
        refine (HE1.out _).mono ?_
        rintro e w2 ⟨rfl, hb2⟩
        have HB2 := hide (HB1.out.trans (hb2.mono HB1.out.size))
        clear hb2
        go_wp2_with fail
        go_ret
        exact ⟨rfl, HB2.out⟩
    · rw [if_neg (by omega), if_neg (by rintro ⟨a, _⟩; cases a)] at hV
      subst hV
      have g1i : ((300 : Int) < (NN.size : Int)) = False := eq_false (by omega)
      have g1n : (300 < NN.size) = False := eq_false g1
      clear n1 hDz td tu HD2 hz g1
      rcases hneg with rfl | ⟨rfl, tn⟩
      all_goals
        go_enter Tryz.func239, Tryz.ntmps239
        go_wp2_with fail
        refine (HS.out _).mono ?_
        rintro e w1 ⟨rfl, hb1⟩
        have HB1 := hide hb1
        clear hb1
        go_wp2_with fail
        refine (HE1.out _).mono ?_
        rintro e w2 ⟨rfl, hb2⟩
        have HB2 := hide (HB1.out.trans (hb2.mono HB1.out.size))
        clear hb2
        go_wp2_with fail
        go_ret
        exact ⟨rfl, HB2.out⟩
  clear hDz
  by_cases n2 : numeral DD.data.toList
  rotate_left
  · rw [if_pos (.inr (.inl ⟨rfl, .inl n2⟩))] at hV
    subst hV
    have HE2 := hide (HD2.out false (by simpa using n2))
    clear n1 n2 tn td tu HD2
    go_enter Tryz.func239, Tryz.ntmps239
    go_wp2_with fail
    refine (HS.out _).mono ?_
    rintro e w1 ⟨rfl, hb1⟩
    have HB1 := hide hb1
    clear hb1
    go_wp2_with fail
    refine (HE1.out _).mono ?_
    rintro e w2 ⟨rfl, hb2⟩
    have HB2 := hide (HB1.out.trans (hb2.mono HB1.out.size))
    clear hb2
    go_wp2_with fail
    refine (HE2.out _).mono ?_
    rintro e w3 ⟨rfl, hb3⟩
    have HB3 := hide (HB2.out.trans (hb3.mono HB2.out.size))
    clear hb3
    go_wp2_with fail
    go_ret
    exact ⟨rfl, HB3.out⟩
  have HE2 := hide (HD2.out true (by simpa using n2))
  clear HD2
  by_cases d0 : DD.data.toList = [48]
  · rw [if_pos (.inr (.inl ⟨rfl, .inr (.inl d0)⟩))] at hV
    subst hV
    rw [decide_eq_true d0] at td
    clear n1 n2 tn tu d0
    go_enter Tryz.func239, Tryz.ntmps239
    go_wp2_with fail
    refine (HS.out _).mono ?_
    rintro e w1 ⟨rfl, hb1⟩
    have HB1 := hide hb1
    clear hb1
    go_wp2_with fail
    refine (HE1.out _).mono ?_
    rintro e w2 ⟨rfl, hb2⟩
    have HB2 := hide (HB1.out.trans (hb2.mono HB1.out.size))
    clear hb2
    go_wp2_with fail
    refine (HE2.out _).mono ?_
    rintro e w3 ⟨rfl, hb3⟩
    have HB3 := hide (HB2.out.trans (hb3.mono HB2.out.size))
    clear hb3
    go_wp2_with fail
    go_ret
    exact ⟨rfl, HB3.out⟩
  rw [decide_eq_false d0] at td
  by_cases d1 : DD.data.toList = [49]
  · rw [if_pos (.inr (.inl ⟨rfl, .inr (.inr d1)⟩))] at hV
    subst hV
    rw [decide_eq_true d1] at tu
    clear n1 n2 tn d0 d1
    go_enter Tryz.func239, Tryz.ntmps239
    go_wp2_with fail
    refine (HS.out _).mono ?_
    rintro e w1 ⟨rfl, hb1⟩
    have HB1 := hide hb1
    clear hb1
    go_wp2_with fail
    refine (HE1.out _).mono ?_
    rintro e w2 ⟨rfl, hb2⟩
    have HB2 := hide (HB1.out.trans (hb2.mono HB1.out.size))
    clear hb2
    go_wp2_with fail
    refine (HE2.out _).mono ?_
    rintro e w3 ⟨rfl, hb3⟩
    have HB3 := hide (HB2.out.trans (hb3.mono HB2.out.size))
    clear hb3
    go_wp2_with fail
    go_ret
    exact ⟨rfl, HB3.out⟩
  rw [decide_eq_false d1] at tu
  by_cases hz : neg = true ∧ NN.data.toList = [48]
  · rw [if_pos (.inr (.inr hz))] at hV
    subst hV
    obtain ⟨rfl, h48⟩ := hz
    rw [decide_eq_true h48] at tn
    clear n1 n2 h48 d0 d1
    go_enter Tryz.func239, Tryz.ntmps239
    go_wp2_with fail
    refine (HS.out _).mono ?_
    rintro e w1 ⟨rfl, hb1⟩
    have HB1 := hide hb1
    clear hb1
    go_wp2_with fail
    refine (HE1.out _).mono ?_
    rintro e w2 ⟨rfl, hb2⟩
    have HB2 := hide (HB1.out.trans (hb2.mono HB1.out.size))
    clear hb2
    go_wp2_with fail
    refine (HE2.out _).mono ?_
    rintro e w3 ⟨rfl, hb3⟩
    have HB3 := hide (HB2.out.trans (hb3.mono HB2.out.size))
    clear hb3
    go_wp2_with fail
    go_ret
    exact ⟨rfl, HB3.out⟩
  rw [if_neg (by rintro (a | a | a); · exact a n1
                 · rcases a.2 with b | b | b
                   · exact b n2
                   · exact d0 b
                   · exact d1 b
                 · exact hz a)] at hV
  have hneg : neg = false ∨ (neg = true ∧ (NN.toList == [48]) = false) := by
    cases neg
    · exact .inl rfl
    · refine .inr ⟨rfl, ?_⟩
      rw [tn, decide_eq_false_iff_not]
      exact fun e => hz ⟨rfl, e⟩
  clear tn hz d0 d1
  by_cases g1 : 300 < NN.size
  · rw [if_pos (.inl g1)] at hV
    subst hV
    have g1i : (300 : Int) < (NN.size : Int) := by omega
    clear n1 n2
    rcases hneg with rfl | ⟨rfl, tn⟩
    all_goals
      go_enter Tryz.func239, Tryz.ntmps239
      go_wp2_with fail
      refine (HS.out _).mono ?_
      rintro e w1 ⟨rfl, hb1⟩
      have HB1 := hide hb1
      clear hb1
      go_wp2_with fail
      refine (HE1.out _).mono ?_
      rintro e w2 ⟨rfl, hb2⟩
      have HB2 := hide (HB1.out.trans (hb2.mono HB1.out.size))
      clear hb2
      go_wp2_with fail
      refine (HE2.out _).mono ?_
      rintro e w3 ⟨rfl, hb3⟩
      have HB3 := hide (HB2.out.trans (hb3.mono HB2.out.size))
      clear hb3
      go_wp2_with fail
      go_ret
      exact ⟨rfl, HB3.out⟩
  have g1i : ((300 : Int) < (NN.size : Int)) = False := eq_false (by omega)
  have g1n : (300 < NN.size) = False := eq_false g1
  by_cases g2 : 300 < DD.size
  · rw [if_pos (.inr g2)] at hV
    subst hV
    have g2i : (300 : Int) < (DD.size : Int) := by omega
    clear n1 n2 g1
    rcases hneg with rfl | ⟨rfl, tn⟩
    all_goals
      go_enter Tryz.func239, Tryz.ntmps239
      go_wp2_with fail
      refine (HS.out _).mono ?_
      rintro e w1 ⟨rfl, hb1⟩
      have HB1 := hide hb1
      clear hb1
      go_wp2_with fail
      refine (HE1.out _).mono ?_
      rintro e w2 ⟨rfl, hb2⟩
      have HB2 := hide (HB1.out.trans (hb2.mono HB1.out.size))
      clear hb2
      go_wp2_with fail
      refine (HE2.out _).mono ?_
      rintro e w3 ⟨rfl, hb3⟩
      have HB3 := hide (HB2.out.trans (hb3.mono HB2.out.size))
      clear hb3
      go_wp2_with fail
      go_ret
      exact ⟨rfl, HB3.out⟩
  have g2i : ((300 : Int) < (DD.size : Int)) = False := eq_false (by omega)
  have g2n : (300 < DD.size) = False := eq_false g2
  rw [if_neg (by omega)] at hV
  by_cases k9 : NN.size ≤ 9 ∧ DD.size ≤ 9
  · obtain ⟨k1, k2⟩ := k9
    have k1i : (NN.size : Int) ≤ 9 := by omega
    have k2i : (DD.size : Int) ≤ 9 := by omega
    have a1 : ∀ c ∈ NN.data.toList, isDg c = true := List.all_eq_true.1 n1.2.1
    have a2 : ∀ c ∈ DD.data.toList, isDg c = true := List.all_eq_true.1 n2.2.1
    have HM1 := hide (fun w => r2small_any NN a1 (by omega) w)
    have HM2 := hide (fun w => r2small_any DD a2 (by omega) w)
    have l1 : dv NN.data.toList < 10 ^ 9 := Nat.lt_of_lt_of_le (dv_lt _ a1) (Nat.pow_le_pow_right (by omega) (by rw [bytes_len]; omega))
    have l2 : dv DD.data.toList < 10 ^ 9 := Nat.lt_of_lt_of_le (dv_lt _ a2) (Nat.pow_le_pow_right (by omega) (by rw [bytes_len]; omega))
    have HG := hide (fun w => r2gcd_any (dv NN.data.toList) (dv DD.data.toList) (by omega) (by omega) w)
    obtain ⟨x, hx⟩ : ∃ x, x = dv NN.data.toList := ⟨_, rfl⟩
    obtain ⟨y, hy⟩ : ∃ x, x = dv DD.data.toList := ⟨_, rfl⟩
    obtain ⟨g, hg⟩ : ∃ g, g = Nat.gcd x y := ⟨_, rfl⟩
    rw [← hx] at HM1 HG hV
    rw [← hy] at HM2 HG hV
    rw [← hg] at HG
    simp only [← hg] at hV
    have hw : (g = 1 ∧ V = 0) ∨ (((g : Int) == 1) = false ∧ V = 11) := by
      by_cases h : g = 1
      · exact .inl ⟨h, by rw [hV, if_neg]; exact fun e => e.2 h⟩
      · refine .inr ⟨?_, by rw [hV, if_pos ⟨trivial, h⟩]⟩
        simp only [beq_eq_false_iff_ne, ne_eq]
        omega
    clear hV hg hx hy l1 l2 a1 a2 n1 n2 g1 g2 k1 k2
    rcases hw with ⟨rfl, rfl⟩ | ⟨hg1, rfl⟩ <;> rcases hneg with rfl | ⟨rfl, tn⟩
    all_goals
      go_enter Tryz.func239, Tryz.ntmps239
      go_wp2_with fail
      refine (HS.out _).mono ?_
      rintro e w1 ⟨rfl, hb1⟩
      have HB1 := hide hb1
      clear hb1
      go_wp2_with fail
      refine (HE1.out _).mono ?_
      rintro e w2 ⟨rfl, hb2⟩
      have HB2 := hide (HB1.out.trans (hb2.mono HB1.out.size))
      clear hb2
      go_wp2_with fail
      refine (HE2.out _).mono ?_
      rintro e w3 ⟨rfl, hb3⟩
      have HB3 := hide (HB2.out.trans (hb3.mono HB2.out.size))
      clear hb3
      go_wp2_with fail
      refine (HM1.out _).mono ?_
      rintro e w4 ⟨rfl, hb4⟩
      have HB4 := hide (HB3.out.trans (hb4.mono HB3.out.size))
      clear hb4
      go_wp2_with fail
      refine (HM2.out _).mono ?_
      rintro e w5 ⟨rfl, hb5⟩
      have HB5 := hide (HB4.out.trans (hb5.mono HB4.out.size))
      clear hb5
      go_wp2_with fail
      refine (HG.out _).mono ?_
      rintro e w6 ⟨rfl, hb6⟩
      have HB6 := hide (HB5.out.trans (hb6.mono HB5.out.size))
      clear hb6
      go_wp2_with fail
      go_ret
      exact ⟨rfl, HB6.out⟩
  · have HG := hide (fun w hB hT => rGcd_num NN DD n1 n2 (by omega) (by omega) B w hB hT)
    obtain ⟨x, hx⟩ : ∃ x, x = dv NN.data.toList := ⟨_, rfl⟩
    obtain ⟨y, hy⟩ : ∃ x, x = dv DD.data.toList := ⟨_, rfl⟩
    obtain ⟨g, hg⟩ : ∃ g, g = Nat.gcd x y := ⟨_, rfl⟩
    rw [← hx, ← hy] at HG hV
    rw [← hg] at HG
    simp only [← hg] at hV
    have hko : ((NN.size : Int) ≤ 9) = False ∨ ((NN.size : Int) ≤ 9 ∧ ((DD.size : Int) ≤ 9) = False) := by
      by_cases a : NN.size ≤ 9
      · exact .inr ⟨by omega, eq_false (by omega)⟩
      · exact .inl (eq_false (by omega))
    obtain ⟨G, hG⟩ : ∃ G, G = strB (Lib.decDigits g) := ⟨_, rfl⟩
    have hGl : G.data.toList = Lib.decDigits g := by rw [hG, strB_list]
    have hw : ((G.toList == [49]) = true ∧ V = 0) ∨ ((G.toList == [49]) = false ∧ V = 11) := by
      rw [list_test hGl]
      by_cases h : g = 1
      · exact .inl ⟨by rw [h, one_dec]; rfl, by rw [hV, if_neg]; exact fun e => e.2 h⟩
      · refine .inr ⟨?_, by rw [hV, if_pos ⟨trivial, h⟩]⟩
        rw [decide_eq_false_iff_not]
        intro e
        rw [← one_dec] at e
        exact h (dec_inj e)
    rw [← hG] at HG
    clear hV hg hx hy hG hGl n1 n2 g1 g2 k9
    rcases hko with k1i | ⟨k1i, k2i⟩ <;> rcases hw with ⟨hg1, rfl⟩ | ⟨hg1, rfl⟩ <;> rcases hneg with rfl | ⟨rfl, tn⟩
    all_goals
      go_enter Tryz.func239, Tryz.ntmps239
      go_wp2_with fail
      refine (HS.out _).mono ?_
      rintro e w1 ⟨rfl, hb1⟩
      have HB1 := hide hb1
      clear hb1
      go_wp2_with fail
      refine (HE1.out _).mono ?_
      rintro e w2 ⟨rfl, hb2⟩
      have HB2 := hide (HB1.out.trans (hb2.mono HB1.out.size))
      clear hb2
      go_wp2_with fail
      refine (HE2.out _).mono ?_
      rintro e w3 ⟨rfl, hb3⟩
      have HB3 := hide (HB2.out.trans (hb3.mono HB2.out.size))
      clear hb3
      go_wp2_with fail
      refine (HG.out _ (Nat.le_trans hB HB3.out.size) (HT.out.p10.on HB3.out hB)).mono ?_
      rintro e w4 ⟨rfl, hb4⟩
      have HB4 := hide (HB3.out.trans (hb4.mono HB3.out.size))
      clear hb4
      go_wp2_with fail
      go_ret
      exact ⟨rfl, HB4.out⟩
theorem r2Check_any (s : ByteArray) (hs : s.size ≤ 1000000) (B : Nat) (w : World) (hB : B ≤ w.heap.size) (hT : PQ B w) :
    Calls Tryz.prog 239 #[.string s] w (Ret w (.int .i64 (chkQ s.data.toList))) := r2Check_big s (by omega) B w hB hT
open Go.RowKit Go.KP Go.KI Go.Shelf
attribute [local go_sem] Oper.semAt_some

def intsV (l : List UInt8) : Value :=
  if 9 < (KI.ahead 47 (digs l)).length ∨ 9 < (if 47 ∈ digs l then KI.behind 47 (digs l) else []).length then .tuple #[.int .i64 0, .int .i64 0, .bool false]
  else .tuple #[.int .i64 (if isNeg l then -(dv (KI.ahead 47 (digs l)) : Int) else (dv (KI.ahead 47 (digs l)) : Int)), .int .i64 (if 47 ∈ digs l then (dv (KI.behind 47 (digs l)) : Int) else 1), .bool true]

theorem ret3v {f : Func} {R : Ending → World → Prop} {a : Act} {W : World} {t0 t1 t2 : Tmp} {v0 v1 v2 : Value} (hf : f.results = #[.tmp t0, .tmp t1, .tmp t2]) (h0 : a.tmps[t0]? = some v0) (h1 : a.tmps[t1]? = some v1) (h2 : a.tmps[t2]? = some v2) (hd : a.defers = []) (hR : R (.returned (.tuple #[v0, v1, v2])) W) :
    bodyPost Tryz.prog f R .ret a W := by
  refine bodyPost_ret ?_ hd hR
  simp [results, hf, go_sem, h0, h1, h2]

theorem r2ints_any (s : ByteArray) (hs : s.size ≤ 1000000) (hn : ∀ c ∈ KI.ahead 47 (digs s.data.toList), isDg c = true) (hd : 47 ∈ digs s.data.toList → ∀ c ∈ KI.behind 47 (digs s.data.toList), isDg c = true) (w : World) :
    Calls Tryz.prog 245 #[.string s] w (Ret w (intsV s.data.toList)) := by
  obtain ⟨V, hV⟩ : ∃ V, V = intsV s.data.toList := ⟨_, rfl⟩
  rw [← hV]
  have HS := hide (fun w => r2split_any s (by omega) w)
  obtain ⟨nn, hnn⟩ : ∃ x, x = KI.ahead 47 (digs s.data.toList) := ⟨_, rfl⟩
  obtain ⟨dd, hdd⟩ : ∃ x, x = (if 47 ∈ digs s.data.toList then KI.behind 47 (digs s.data.toList) else []) := ⟨_, rfl⟩
  obtain ⟨neg, hneg⟩ : ∃ x, x = isNeg s.data.toList := ⟨_, rfl⟩
  obtain ⟨sl, hsl⟩ : ∃ x, x = decide (47 ∈ digs s.data.toList) := ⟨_, rfl⟩
  have hd2 : ∀ c ∈ dd, isDg c = true := by
    rw [hdd]
    intro c hc
    split at hc
    · next h => exact hd h c hc
    · cases hc
  have hV2 : V = if 9 < nn.length ∨ 9 < dd.length then .tuple #[.int .i64 0, .int .i64 0, .bool false]
      else .tuple #[.int .i64 (if neg then -(dv nn : Int) else (dv nn : Int)), .int .i64 (if sl then (dv dd : Int) else 1), .bool true] := by
    rw [hV, intsV, ← hnn, ← hdd, ← hneg]
    split
    · rfl
    · by_cases h : 47 ∈ digs s.data.toList
      · rw [hsl, hdd]
        simp [h]
      · rw [hsl, hdd]
        simp [h]
  unfold splitR at HS
  rw [← hnn, ← hdd, ← hneg, ← hsl] at HS
  rw [← hnn] at hn
  clear hsl hneg hdd hnn hd hV hs
  obtain ⟨NN, hNN⟩ : ∃ x, x = strB nn := ⟨_, rfl⟩
  obtain ⟨DD, hDD⟩ : ∃ x, x = strB dd := ⟨_, rfl⟩
  have hNs : NN.size = nn.length := by rw [hNN, strB_size]
  have hDs : DD.size = dd.length := by rw [hDD, strB_size]
  have HM := hide (fun (h : NN.size ≤ 18) (w : World) => r2small_any NN (by rw [hNN, strB_list]; exact hn) h w)
  have HM2 := hide (fun (h : DD.size ≤ 18) (w : World) => r2small_any DD (by rw [hDD, strB_list]; exact hd2) h w)
  have e1 : NN.data.toList = nn := by rw [hNN, strB_list]
  have e2 : DD.data.toList = dd := by rw [hDD, strB_list]
  rw [e1] at HM
  rw [e2] at HM2
  rw [← hNN, ← hDD] at HS
  rw [← hNs, ← hDs] at hV2
  have hm1 : NN.size ≤ 9 → dv nn < 10 ^ 9 := by
    intro h
    exact Nat.lt_of_lt_of_le (dv_lt _ hn) (Nat.pow_le_pow_right (by omega) (by omega))
  have hm2 : DD.size ≤ 9 → dv dd < 10 ^ 9 := by
    intro h
    exact Nat.lt_of_lt_of_le (dv_lt _ hd2) (Nat.pow_le_pow_right (by omega) (by omega))
  clear hNN hDD hNs hDs e1 e2 hn hd2
  obtain ⟨x, hx⟩ : ∃ x, x = dv nn := ⟨_, rfl⟩
  obtain ⟨y, hy⟩ : ∃ x, x = dv dd := ⟨_, rfl⟩
  rw [← hx] at hm1 hV2 HM
  rw [← hy] at hm2 hV2 HM2
  clear hx hy
  by_cases g1 : 9 < NN.size
  · rw [if_pos (.inl g1)] at hV2
    have HV := hide hV2
    have g1i : (9 : Int) < (NN.size : Int) := by omega
    clear hV2 hm1 hm2 HM HM2 g1
    go_enter Tryz.func245, Tryz.ntmps245
    go_wp2_with fail
    refine (HS.out _).mono ?_
    rintro e w1 ⟨rfl, hb1⟩
    have HB1 := hide hb1
    clear hb1
    go_wp2_with fail
    refine ret3v rfl rfl rfl rfl rfl ?_
    exact ⟨by rw [HV.out]; rfl, HB1.out⟩
  have g1i : (NN.size : Int) ≤ 9 := by omega
  by_cases g2 : 9 < DD.size
  · rw [if_pos (.inr g2)] at hV2
    have HV := hide hV2
    have g2i : (9 : Int) < (DD.size : Int) := by omega
    clear hV2 hm1 hm2 HM HM2 g1 g2
    go_enter Tryz.func245, Tryz.ntmps245
    go_wp2_with fail
    refine (HS.out _).mono ?_
    rintro e w1 ⟨rfl, hb1⟩
    have HB1 := hide hb1
    clear hb1
    go_wp2_with fail
    refine ret3v rfl rfl rfl rfl rfl ?_
    exact ⟨by rw [HV.out]; rfl, HB1.out⟩
  have g2i : (DD.size : Int) ≤ 9 := by omega
  rw [if_neg (by omega)] at hV2
  have HM3 := hide (HM.out (by omega))
  have HM4 := hide (HM2.out (by omega))
  have hx1 : (x : Int) < 1000000000 := by have := hm1 (by omega); omega
  have hy1 : (y : Int) < 1000000000 := by have := hm2 (by omega); omega
  have hx0 : (0 : Int) ≤ (x : Int) := by omega
  have HV := hide hV2
  clear hV2 hm1 hm2 HM HM2
  have f1 : ((9 : Int) < (NN.size : Int)) = False := eq_false (by omega)
  have f2 : ((9 : Int) < (DD.size : Int)) = False := eq_false (by omega)
  have f3 : (9 < NN.size) = False := eq_false g1
  have f4 : (9 < DD.size) = False := eq_false g2
  clear g1 g2 g1i g2i
  cases sl <;> cases neg
  · go_enter Tryz.func245, Tryz.ntmps245
    go_wp2_with fail
    refine (HS.out _).mono ?_
    rintro e w1 ⟨rfl, hb1⟩
    have HB1 := hide hb1
    clear hb1
    go_wp2_with fail
    refine (HM3.out _).mono ?_
    rintro e w2 ⟨rfl, hb2⟩
    have HB2 := hide (HB1.out.trans (hb2.mono HB1.out.size))
    clear hb2
    go_wp2_with fail
    refine ret3v rfl rfl rfl rfl rfl ?_
    exact ⟨by rw [HV.out]; rfl, HB2.out⟩
  · go_enter Tryz.func245, Tryz.ntmps245
    go_wp2_with fail
    refine (HS.out _).mono ?_
    rintro e w1 ⟨rfl, hb1⟩
    have HB1 := hide hb1
    clear hb1
    go_wp2_with fail
    refine (HM3.out _).mono ?_
    rintro e w2 ⟨rfl, hb2⟩
    have HB2 := hide (HB1.out.trans (hb2.mono HB1.out.size))
    clear hb2
    go_wp2_with fail
    refine ret3v rfl rfl rfl rfl rfl ?_
    exact ⟨by rw [HV.out]; rfl, HB2.out⟩
  all_goals
    go_enter Tryz.func245, Tryz.ntmps245
    go_wp2_with fail
    refine (HS.out _).mono ?_
    rintro e w1 ⟨rfl, hb1⟩
    have HB1 := hide hb1
    clear hb1
    go_wp2_with fail
    refine (HM3.out _).mono ?_
    rintro e w2 ⟨rfl, hb2⟩
    have HB2 := hide (HB1.out.trans (hb2.mono HB1.out.size))
    clear hb2
    go_wp2_with fail
    refine (HM4.out _).mono ?_
    rintro e w3 ⟨rfl, hb3⟩
    have HB3 := hide (HB2.out.trans (hb3.mono HB2.out.size))
    clear hb3
    go_wp2_with fail
    refine ret3v rfl rfl rfl rfl rfl ?_
    exact ⟨by rw [HV.out]; rfl, HB3.out⟩
open Go.RowKit Go.KP Go.KI Go.Shelf
attribute [local go_sem] Oper.semAt_some

theorem cmp_cases (x y : Int) : (x < y ∧ Lib.compareInt x y = -1) ∨ (y < x ∧ Lib.compareInt x y = 1) ∨ (x = y ∧ Lib.compareInt x y = 0) := by
  have h1 := cmp_bound x y
  have h2 := cmp_zero (x := x) (y := y)
  unfold Lib.compareInt at *
  rcases Int.lt_trichotomy x y with h | h | h
  · exact .inl ⟨h, by simp [h]⟩
  · exact .inr (.inr ⟨h, by simp [h]⟩)
  · exact .inr (.inl ⟨h, by simp [h, show ¬ x < y by omega]⟩)
theorem rCompare_any (s t : ByteArray) (w : World) (hs : s.size ≤ 1000000) (ht : t.size ≤ 1000000) :
    Calls Tryz.prog 294 #[.string s, .string t] w (Ret w (.tuple #[.int .i64 (cmpV s.data.toList t.data.toList), .int .i64 (bothI s.data.toList t.data.toList)])) := by
  have H1 := hide (rboth_any s t hs ht w)
  by_cases hE : bothI s.data.toList t.data.toList = 0
  · have e1 : cmpV s.data.toList t.data.toList = Lib.compareInt (valI s.data.toList) (valI t.data.toList) := if_pos hE
    obtain ⟨c1, c2, _, _⟩ := op2_good (f := (· + ·)) hE
    rw [e1, hE]
    rw [hE] at H1
    clear e1 hE hs ht
    obtain ⟨V, hV⟩ : ∃ V, V = Lib.compareInt (valI s.data.toList) (valI t.data.toList) := ⟨_, rfl⟩
    rw [← hV]
    have hcmp := cmp_cases (valI s.data.toList) (valI t.data.toList)
    rw [← hV] at hcmp
    by_cases hsm : s.size ≤ 17 ∧ t.size ≤ 17
    · have H2 := hide (fun w => rtwo_yes s t c1 c2 hsm.1 hsm.2 w)
      obtain ⟨x, hx⟩ : ∃ x, x = valI s.data.toList := ⟨_, rfl⟩
      obtain ⟨y, hy⟩ : ∃ y, y = valI t.data.toList := ⟨_, rfl⟩
      rw [← hx, ← hy] at H2 hcmp
      clear c1 c2 hsm hx hy hV
      rcases hcmp with ⟨h, rfl⟩ | ⟨h, rfl⟩ | ⟨h, rfl⟩
      case' inl => have t1 : x < y := h
      case' inr.inl =>
        have t1 : (x < y) = False := eq_false (by omega)
        have t2 : y < x := h
      case' inr.inr =>
        have t1 : (x < y) = False := eq_false (by omega)
        have t2 : (y < x) = False := eq_false (by omega)
      all_goals
        clear h
        go_enter Tryz.func294, Tryz.ntmps294
        go_wp2_with fail
        refine H1.out.mono ?_
        rintro e w1 ⟨rfl, hb1⟩
        have HB1 := hide hb1
        clear hb1 H1
        go_wp2_with fail
        refine (H2.out _).mono ?_
        rintro e w2 ⟨rfl, hb2⟩
        have HB2 := hide (HB1.out.trans (hb2.mono HB1.out.size))
        clear hb2 H2 HB1
        go_wp2_with fail
        refine bodyPost_ret (results_tmp2 rfl _ _ _) rfl ?_
        exact ⟨rfl, HB2.out⟩
    · have H2 := hide (fun w => rtwo_no s t c1 hsm w)
      have R1 := hide (fun w => rread_good s c1 w)
      have R2 := hide (fun w => rread_good t c2 w)
      clear c1 c2 hsm hV
      have HCMP := hide hcmp
      clear hcmp
      go_enter Tryz.func294, Tryz.ntmps294
      go_wp2_with fail
      refine H1.out.mono ?_
      rintro e w1 ⟨rfl, hb1⟩
      have HB1 := hide hb1
      clear hb1 H1
      go_wp2_with fail
      refine (H2.out _).mono ?_
      rintro e w2 ⟨x0, y0, rfl, hb2⟩
      have HB2 := hide (HB1.out.trans (hb2.mono HB1.out.size))
      clear hb2 H2 HB1
      go_wp2_with fail
      refine (R1.out _).mono ?_
      rintro e w3 ⟨m1, v1, l1, rfl, hb3, o1, n1, q1, k1⟩
      obtain ⟨a1, g1, hvf, _, _⟩ := o1.form
      subst hvf
      have HB3 := hide (HB2.out.trans (hb3.mono HB2.out.size))
      have O1 := hide o1; have N1 := hide n1; have Q1 := hide q1
      clear hb3 HB2 R1 o1 n1 q1
      go_wp2_with fail
      refine (R2.out _).mono ?_
      rintro e w4 ⟨m2, v2, l2, rfl, hb4, o2, n2, q2, k2⟩
      obtain ⟨a2, g2, hvf, _, _⟩ := o2.form
      subst hvf
      have HB4 := hide (HB3.out.trans (hb4.mono HB3.out.size))
      have O1' := hide (O1.out.keep hb4)
      have O2 := hide o2; have N2 := hide n2; have Q2 := hide q2
      clear hb4 HB3 R2 o2 n2 q2 O1
      go_wp2_with fail
      refine (rnegative_any m2 a2 g2 l2 w4).mono ?_
      rintro e w41 ⟨m21, rfl, hb41, q21⟩
      have HB41 := hide (HB4.out.trans (hb41.mono HB4.out.size))
      have O11 := hide (O1'.out.keep hb41)
      have O21 := hide (O2.out.keep hb41)
      have Q21 := hide q21
      clear hb41 q21 O1' O2 HB4
      go_wp2_with fail
      refine (radd_any m1 m21 a1 a2 g1 g2 l1 l2 w41 (.of_own O11.out) (.of_own O21.out) N1.out N2.out (by omega) (by omega)).mono ?_
      rintro e w5 ⟨m3, v3, l3, rfl, hb5, o3, n3, q3, k3⟩
      obtain ⟨a3, g3, hvf, _, _⟩ := o3.form
      subst hvf
      have HB5 := hide (HB41.out.trans (hb5.mono HB41.out.size))
      have hq3 : valS m3 (lv 1000000 l3) = valI s.data.toList - valI t.data.toList := by
        rw [q3, Q1.out, Q21.out, Q2.out]
        omega
      have hcmp := HCMP.out
      have hpos : l3 ≠ [] → 1 ≤ lv 1000000 l3 := fun h => by
        rcases Nat.eq_zero_or_pos (lv 1000000 l3) with h1 | h1
        · exact absurd ((n3.zero (by omega)).1 h1) h
        · exact h1
      have hres : (l3 = [] ∧ V = 0) ∨ (l3 ≠ [] ∧ m3 = true ∧ V = -1) ∨ (l3 ≠ [] ∧ m3 = false ∧ V = 1) := by
        by_cases h : l3 = []
        · refine .inl ⟨h, ?_⟩
          have h0 : valS m3 (lv 1000000 l3) = 0 := by rw [h]; cases m3 <;> rfl
          omega
        · have h1 := hpos h
          cases m3
          · exact .inr (.inr ⟨h, rfl, by simp [valS] at hq3; omega⟩)
          · exact .inr (.inl ⟨h, rfl, by simp [valS] at hq3; omega⟩)
      have F0 := hide (heap1 w5 (bigO m3 (.slice a3 l3.length g3)))
      clear hb5 q3 hq3 hpos HCMP hcmp HB41 O11 O21 N1 N2 Q1 Q2 Q21 o3 n3
      rcases hres with ⟨h, rfl⟩ | ⟨h, rfl, rfl⟩ | ⟨h, rfl, rfl⟩
      case' inl => have hl0 : ((l3.length : Int) == 0) = true := by rw [h]; rfl
      case' inr.inl =>
        have hl0 : ((l3.length : Int) == 0) = false := by
          have : l3.length ≠ 0 := fun h2 => h (List.eq_nil_of_length_eq_zero h2)
          simp only [beq_eq_false_iff_ne, ne_eq]
          omega
      case' inr.inr =>
        have hl0 : ((l3.length : Int) == 0) = false := by
          have : l3.length ≠ 0 := fun h2 => h (List.eq_nil_of_length_eq_zero h2)
          simp only [beq_eq_false_iff_ne, ne_eq]
          omega
      all_goals
        clear h
        obtain ⟨b0, bs0, bb0⟩ := F0.out
        have z0 := cell_blk b0 0
        have z1 := cell_blk b0 1
        have f0 := froz_blk b0 0
        have f1 := froz_blk b0 1
        have HB6 := hide (HB5.out.trans (bb0.mono HB5.out.size))
        clear b0 bs0 bb0
        go_wp2_with fail
        refine bodyPost_ret (results_tmp2 rfl _ _ _) rfl ?_
        exact ⟨rfl, HB6.out⟩
  · have e1 : cmpV s.data.toList t.data.toList = 0 := if_neg hE
    rw [e1]
    have hne : (bothI s.data.toList t.data.toList != 0) = true := by simpa using hE
    obtain ⟨E, hEE⟩ : ∃ E, E = bothI s.data.toList t.data.toList := ⟨_, rfl⟩
    rw [← hEE] at H1 hne ⊢
    clear e1 hE hEE
    go_enter Tryz.func294, Tryz.ntmps294
    go_wp2_with fail
    refine H1.out.mono ?_
    rintro e w1 ⟨rfl, hb1⟩
    have HB1 := hide hb1
    clear hb1 H1
    go_wp2_with fail
    refine bodyPost_ret (results_tmp2 rfl _ _ _) rfl ?_
    exact ⟨rfl, HB1.out⟩
end Go.Proofs.YtpmnhipffkhcpaaGreatDoor
namespace Go.KI
open Go
theorem isNeg_ratS (q : Rat) : isNeg (ratS q) = decide (q.num < 0) := by
  unfold isNeg
  exact decide_eq_decide.2 ratS_head
theorem cutD_ratS (q : Rat) : ahead 47 (digs (ratS q)) = Lib.decDigits q.num.natAbs ∧ (47 ∈ digs (ratS q) ↔ q.den ≠ 1) ∧ (q.den ≠ 1 → behind 47 (digs (ratS q)) = Lib.decDigits q.den) := by
  have hn : ∀ c ∈ Lib.decDigits q.num.natAbs, c ≠ 47 := fun c hc => by have := dec_no47 _ c hc; simpa using this
  rw [(digs_ratS q).1]
  by_cases h : q.den = 1
  · rw [if_pos h, List.append_nil]
    have h47 : ¬ 47 ∈ Lib.decDigits q.num.natAbs := fun e => hn 47 e rfl
    exact ⟨cut_not h47, ⟨fun e => absurd e h47, fun e => absurd h e⟩, fun e => absurd h e⟩
  · rw [if_neg h]
    obtain ⟨a, b, c⟩ := cut_at (c := 47) (a := Lib.decDigits q.num.natAbs) (b := Lib.decDigits q.den) hn
    exact ⟨a, ⟨fun _ => h, fun _ => c⟩, fun _ => b⟩
theorem dec1_len : (Lib.decDigits 1).length = 1 := by rw [one_dec]; rfl
def shortQ (q : Rat) : Prop := (Lib.decDigits q.num.natAbs).length ≤ 9 ∧ (Lib.decDigits q.den).length ≤ 9
instance (q : Rat) : Decidable (shortQ q) := inferInstanceAs (Decidable (_ ∧ _))
theorem shortQ_lt {q : Rat} (h : shortQ q) : q.num.natAbs < 1000000000 ∧ q.den < 1000000000 := ⟨(dec_len_le (n := 9) (by omega)).1 h.1, (dec_len_le (n := 9) (by omega)).1 h.2⟩
end Go.KI
namespace Go.Proofs.YtpmnhipffkhcpaaGreatDoor
open Go.RowKit Go.KP Go.KI Go.Shelf
attribute [local go_sem] Oper.semAt_some

theorem rMul_I {x y : Int} (f1 : fits x) (f2 : fits y) (B : Nat) (w : World) (hB : B ≤ w.heap.size) (hT : P10 B w) :
    Calls Tryz.prog 388 #[.string (iB x), .string (iB y)] w (Ret w (pairV (resS (x * y)) (resE (x * y)))) := by
  obtain ⟨_, _, b, l1, l2, v1, v2⟩ := iB_both f1 f2
  obtain ⟨_, _, e1, e2⟩ := op2_good (f := (· * ·)) b
  have := rMul_any _ _ B w l1 l2 hB hT
  rw [e1, e2, v1, v2] at this
  exact this
theorem rCompare_I {x y : Int} (f1 : fits x) (f2 : fits y) (w : World) :
    Calls Tryz.prog 294 #[.string (iB x), .string (iB y)] w (Ret w (.tuple #[.int .i64 (Lib.compareInt x y), .int .i64 0])) := by
  obtain ⟨_, _, b, l1, l2, v1, v2⟩ := iB_both f1 f2
  have := rCompare_any _ _ w l1 l2
  rw [b] at this
  unfold cmpV at this
  rw [if_pos b, v1, v2] at this
  exact this
theorem signed_abs (z : Int) : (if decide (z < 0) = true then -((z.natAbs : Nat) : Int) else ((z.natAbs : Nat) : Int)) = z := by
  by_cases h : z < 0
  · rw [decide_eq_true h, if_pos rfl]; omega
  · rw [decide_eq_false h, if_neg (by simp)]; omega
def intsQ (q : Rat) : Value := if shortQ q then .tuple #[.int .i64 q.num, .int .i64 (q.den : Int), .bool true] else .tuple #[.int .i64 0, .int .i64 0, .bool false]
theorem r2ints_T {q : Rat} (fq : fitsQ q) (w : World) : Calls Tryz.prog 245 #[.string (T q)] w (Ret w (intsQ q)) := by
  obtain ⟨h1, h2, h3⟩ := cutD_ratS q
  have h := r2ints_any (T q) (T_good fq).1 (by rw [T_list, h1]; exact decDigits_dg _) (by
    rw [T_list]
    intro h47
    rw [h3 (h2.1 h47)]
    exact decDigits_dg _) w
  have e : intsV (T q).data.toList = intsQ q := by
    unfold intsV intsQ
    rw [T_list, h1, isNeg_ratS]
    by_cases hd : q.den = 1
    · have hn : ¬ 47 ∈ digs (ratS q) := fun e => h2.1 e hd
      rw [if_neg hn]
      have hs : shortQ q ↔ ¬ (9 < (Lib.decDigits q.num.natAbs).length ∨ 9 < ([] : List UInt8).length) := by
        unfold shortQ
        rw [hd, dec1_len, List.length_nil]
        omega
      by_cases hh : shortQ q
      · rw [if_pos hh, if_neg (hs.1 hh), if_neg hn, hd, dv_decDigits]
        rw [signed_abs]
        rfl
      · rw [if_neg hh, if_pos (Decidable.not_not.1 fun e => hh (hs.2 e))]
    · have hn : 47 ∈ digs (ratS q) := h2.2 hd
      rw [if_pos hn, h3 hd]
      have hs : shortQ q ↔ ¬ (9 < (Lib.decDigits q.num.natAbs).length ∨ 9 < (Lib.decDigits q.den).length) := by
        unfold shortQ
        omega
      by_cases hh : shortQ q
      · rw [if_pos hh, if_neg (hs.1 hh), if_pos hn, dv_decDigits, dv_decDigits]
        rw [signed_abs]
      · rw [if_neg hh, if_pos (Decidable.not_not.1 fun e => hh (hs.2 e))]
  rw [e] at h
  exact h
theorem r2parts_T {q : Rat} (fq : fitsQ q) (w : World) : Calls Tryz.prog 247 #[.string (T q)] w (Ret w (.tuple #[.string (iB q.num), .string (iB (q.den : Int))])) := by
  obtain ⟨h1, h2, h3⟩ := cutD_ratS q
  have h := r2parts_any (T q) (T_good fq).1 w
  have e : partsR2 (T q).data.toList = .tuple #[.string (iB q.num), .string (iB (q.den : Int))] := by
    unfold partsR2
    rw [T_list, h1, isNeg_ratS]
    have e1 : (if decide (q.num < 0) = true then [45] else []) ++ Lib.decDigits q.num.natAbs = Lib.itoa q.num := by
      rcases itoa_cases q.num with ⟨a, b⟩ | ⟨a, b⟩
      · rw [b, decide_eq_true a]; rfl
      · rw [b, decide_eq_false (by omega)]; rfl
    have e2 : (if 47 ∈ digs (ratS q) then KI.behind 47 (digs (ratS q)) else [49]) = Lib.itoa (q.den : Int) := by
      rw [Lib.itoa_nonneg]
      by_cases hd : q.den = 1
      · rw [if_neg (fun e => h2.1 e hd), hd, one_dec]
      · rw [if_pos (h2.2 hd), h3 hd]
    rw [e1, e2]
    rfl
  rw [e] at h
  exact h
theorem r2Check_T {q : Rat} (fq : fitsQ q) (B : Nat) (w : World) (hB : B ≤ w.heap.size) (hT : PQ B w) : Calls Tryz.prog 239 #[.string (T q)] w (Ret w (.int .i64 0)) := by
  have h := r2Check_any (T q) (T_good fq).1 B w hB hT
  rw [(T_good fq).2.1] at h
  exact h
open Go.RowKit Go.KP Go.KI Go.Shelf
attribute [local go_sem] Oper.semAt_some

structure MakeOk (n d : Int) : Prop where
  pos : 0 < d
  fn : fits n
  fd : fits d
end Go.Proofs.YtpmnhipffkhcpaaGreatDoor
namespace Go.KI
open Go
theorem prod9 {a b : Int} (ha : a.natAbs < 1000000000) (hb : b.natAbs < 1000000000) : (a * b).natAbs < 1000000000000000000 := by
  rw [Int.natAbs_mul]
  exact Nat.lt_of_lt_of_le (Nat.mul_lt_mul'' ha hb) (by decide)
theorem short_sz {q : Rat} (h : shortQ q) : sz 9 q := ⟨(shortQ_lt h).1, (shortQ_lt h).2⟩
end Go.KI
namespace Go.Proofs.YtpmnhipffkhcpaaGreatDoor
open Go.RowKit Go.KP Go.KI Go.Shelf
attribute [local go_sem] Oper.semAt_some

abbrev noB : ByteArray := ⟨#[]⟩
theorem r2products_no {a b c d : Int} (fa : fits a) (fb : fits b) (fc : fits c) (fd : fits d) (h : ¬ (fits (a * b) ∧ fits (c * d))) (B : Nat) (w : World) (hB : B ≤ w.heap.size) (hT : P10 B w) :
    ∃ x y : ByteArray, Calls Tryz.prog 351 #[.string (iB a), .string (iB b), .string (iB c), .string (iB d)] w (Ret w (.tuple #[.string x, .string y, .int .i64 4])) := by
  have HT := hide hT
  have H1 := hide (fun w hB hT => rMul_I fa fb B w hB hT)
  have H2 := hide (fun w hB hT => rMul_I fc fd B w hB hT)
  obtain ⟨A, hA⟩ : ∃ x, x = iB a := ⟨_, rfl⟩
  obtain ⟨B', hB'⟩ : ∃ x, x = iB b := ⟨_, rfl⟩
  obtain ⟨C, hC⟩ : ∃ x, x = iB c := ⟨_, rfl⟩
  obtain ⟨D, hD⟩ : ∃ x, x = iB d := ⟨_, rfl⟩
  simp only [← hA, ← hB', ← hC, ← hD] at *
  clear hA hB' hC hD
  by_cases h1 : fits (a * b)
  · have h2 : ¬ fits (c * d) := fun e => h ⟨h1, e⟩
    rw [resI_yes h1] at H1
    rw [resI_no h2] at H2
    obtain ⟨X, hX⟩ : ∃ x, x = iB (a * b) := ⟨_, rfl⟩
    rw [← hX] at H1
    refine ⟨X, noB, ?_⟩
    clear hX h h1 h2 fa fb fc fd hT
    go_enter Tryz.func351, Tryz.ntmps351
    go_wp2_with fail
    refine (H1.out _ hB HT.out).mono ?_
    rintro e w1 ⟨rfl, hb1⟩
    have HB1 := hide hb1
    clear hb1
    go_wp2_with fail
    refine (H2.out _ (Nat.le_trans hB HB1.out.size) (HT.out.on HB1.out hB)).mono ?_
    rintro e w2 ⟨rfl, hb2⟩
    have HB2 := hide (HB1.out.trans (hb2.mono HB1.out.size))
    clear hb2
    go_wp2_with fail
    refine ret3v rfl rfl rfl rfl rfl ?_
    exact ⟨rfl, HB2.out⟩
  · rw [resI_no h1] at H1
    refine ⟨noB, noB, ?_⟩
    clear h h1 fa fb fc fd hT H2
    go_enter Tryz.func351, Tryz.ntmps351
    go_wp2_with fail
    refine (H1.out _ hB HT.out).mono ?_
    rintro e w1 ⟨rfl, hb1⟩
    have HB1 := hide hb1
    clear hb1
    go_wp2_with fail
    refine ret3v rfl rfl rfl rfl rfl ?_
    exact ⟨rfl, HB1.out⟩
theorem r2products_yes {a b c d : Int} (fa : fits a) (fb : fits b) (fc : fits c) (fd : fits d) (h1 : fits (a * b)) (h2 : fits (c * d)) (B : Nat) (w : World) (hB : B ≤ w.heap.size) (hT : P10 B w) :
    Calls Tryz.prog 351 #[.string (iB a), .string (iB b), .string (iB c), .string (iB d)] w (Ret w (.tuple #[.string (iB (a * b)), .string (iB (c * d)), .int .i64 0])) := by
  have HT := hide hT
  have H1 := hide (fun w hB hT => rMul_I fa fb B w hB hT)
  have H2 := hide (fun w hB hT => rMul_I fc fd B w hB hT)
  rw [resI_yes h1] at H1
  rw [resI_yes h2] at H2
  obtain ⟨A, hA⟩ : ∃ x, x = iB a := ⟨_, rfl⟩
  obtain ⟨B', hB'⟩ : ∃ x, x = iB b := ⟨_, rfl⟩
  obtain ⟨C, hC⟩ : ∃ x, x = iB c := ⟨_, rfl⟩
  obtain ⟨D, hD⟩ : ∃ x, x = iB d := ⟨_, rfl⟩
  obtain ⟨X, hX⟩ : ∃ x, x = iB (a * b) := ⟨_, rfl⟩
  obtain ⟨Y, hY⟩ : ∃ x, x = iB (c * d) := ⟨_, rfl⟩
  simp only [← hA, ← hB', ← hC, ← hD, ← hX, ← hY] at *
  clear hA hB' hC hD hX hY h1 h2 fa fb fc fd hT
  go_enter Tryz.func351, Tryz.ntmps351
  go_wp2_with fail
  refine (H1.out _ hB HT.out).mono ?_
  rintro e w1 ⟨rfl, hb1⟩
  have HB1 := hide hb1
  clear hb1
  go_wp2_with fail
  refine (H2.out _ (Nat.le_trans hB HB1.out.size) (HT.out.on HB1.out hB)).mono ?_
  rintro e w2 ⟨rfl, hb2⟩
  have HB2 := hide (HB1.out.trans (hb2.mono HB1.out.size))
  clear hb2
  go_wp2_with fail
  refine ret3v rfl rfl rfl rfl rfl ?_
  exact ⟨rfl, HB2.out⟩
end Go.Proofs.YtpmnhipffkhcpaaGreatDoor
namespace Go.KI
open Go
theorem cmpR_int (x y : Rat) : Lib.compareInt (x.num * y.den) (y.num * x.den) = cmpR x y := cmpQ x y
end Go.KI
namespace Go.Proofs.YtpmnhipffkhcpaaGreatDoor
open Go.RowKit Go.KP Go.KI Go.Shelf
attribute [local go_sem] Oper.semAt_some

theorem r2check_any (s t : ByteArray) (hs : s.size ≤ 1000000) (ht : t.size ≤ 1000000) (B : Nat) (w : World) (hB : B ≤ w.heap.size) (hT : PQ B w) :
    Calls Tryz.prog 253 #[.string s, .string t] w (Ret w (.int .i64 (bothQ s.data.toList t.data.toList))) := by
  have HT := hide hT
  have H1 := hide (fun w hB hT => r2Check_any s hs B w hB hT)
  have H2 := hide (fun w hB hT => r2Check_any t ht B w hB hT)
  unfold bothQ
  obtain ⟨x, hx⟩ : ∃ x, x = chkQ s.data.toList := ⟨_, rfl⟩
  obtain ⟨y, hy⟩ : ∃ x, x = chkQ t.data.toList := ⟨_, rfl⟩
  rw [← hx] at H1 ⊢
  rw [← hy] at H2 ⊢
  clear hx hy hT
  by_cases h : x = 0
  · subst h
    rw [if_pos rfl]
    go_enter Tryz.func253, Tryz.ntmps253
    go_wp2_with fail
    refine (H1.out _ hB HT.out).mono ?_
    rintro e w1 ⟨rfl, hb1⟩
    have HB1 := hide hb1
    clear hb1
    go_wp2_with fail
    refine (H2.out _ (Nat.le_trans hB HB1.out.size) (HT.out.on HB1.out hB)).mono ?_
    rintro e w2 ⟨rfl, hb2⟩
    have HB2 := hide (HB1.out.trans (hb2.mono HB1.out.size))
    clear hb2
    go_wp2_with fail
    go_ret
    exact ⟨rfl, HB2.out⟩
  · rw [if_neg h]
    have hne : (x != 0) = true := by simpa using h
    clear h
    go_enter Tryz.func253, Tryz.ntmps253
    go_wp2_with fail
    refine (H1.out _ hB HT.out).mono ?_
    rintro e w1 ⟨rfl, hb1⟩
    have HB1 := hide hb1
    clear hb1
    go_wp2_with fail
    go_ret
    exact ⟨rfl, HB1.out⟩
theorem r2check_T {x y : Rat} (fx : fitsQ x) (fy : fitsQ y) (B : Nat) (w : World) (hB : B ≤ w.heap.size) (hT : PQ B w) :
    Calls Tryz.prog 253 #[.string (T x), .string (T y)] w (Ret w (.int .i64 0)) := by
  have h := r2check_any (T x) (T y) (T_good fx).1 (T_good fy).1 B w hB hT
  rw [zero_bothQ (T_good fx).2.1 (T_good fy).2.1] at h
  exact h
theorem ints_long {x y : Rat} (fx : fitsQ x) (fy : fitsQ y) (hs : ¬ (shortQ x ∧ shortQ y)) : ∃ v1 v2 : Int, ∃ b1 b2 : Bool, ∃ v3 v4 : Int, Hid (∀ w, Calls Tryz.prog 245 #[.string (T x)] w (Ret w (.tuple #[.int .i64 v1, .int .i64 v2, .bool b1]))) ∧ Hid (∀ w, Calls Tryz.prog 245 #[.string (T y)] w (Ret w (.tuple #[.int .i64 v3, .int .i64 v4, .bool b2]))) ∧ (b1 = false ∨ (b1 = true ∧ b2 = false)) := by
  have HI1 := fun w => r2ints_T fx w
  have HI2 := fun w => r2ints_T fy w
  unfold intsQ at HI1 HI2
  by_cases h1 : shortQ x
  · have h2 : ¬ shortQ y := fun e => hs ⟨h1, e⟩
    rw [if_pos h1] at HI1
    rw [if_neg h2] at HI2
    exact ⟨_, _, _, _, _, _, hide HI1, hide HI2, .inr ⟨rfl, rfl⟩⟩
  · rw [if_neg h1] at HI1
    by_cases h2 : shortQ y
    · rw [if_pos h2] at HI2
      exact ⟨_, _, _, _, _, _, hide HI1, hide HI2, .inl rfl⟩
    · rw [if_neg h2] at HI2
      exact ⟨_, _, _, _, _, _, hide HI1, hide HI2, .inl rfl⟩
theorem ints_short {x : Rat} (fx : fitsQ x) (h : shortQ x) (w : World) : Calls Tryz.prog 245 #[.string (T x)] w (Ret w (.tuple #[.int .i64 x.num, .int .i64 (x.den : Int), .bool true])) := by
  have H := r2ints_T fx w
  unfold intsQ at H
  rw [if_pos h] at H
  exact H
def cmpOV (x y : Rat) : Value := if cmpC x y then .tuple #[.int .i64 (cmpR x y), .int .i64 0] else .tuple #[.int .i64 0, .int .i64 4]
open Go.RowKit Go.KP Go.KI Go.Shelf
attribute [local go_sem] Oper.semAt_some

theorem r2Parts_T {q : Rat} (fq : fitsQ q) (B : Nat) (w : World) (hB : B ≤ w.heap.size) (hT : PQ B w) :
    Calls Tryz.prog 170 #[.string (T q)] w (Ret w (.tuple #[.string (iB q.num), .string (iB (q.den : Int)), .int .i64 0])) := by
  have HT := hide hT
  have H1 := hide (fun w hB hT => r2Check_T fq B w hB hT)
  have H2 := hide (fun w => r2parts_T fq w)
  generalize iB q.num = N at H2 ⊢
  generalize iB (q.den : Int) = D at H2 ⊢
  generalize T q = X at *
  clear fq hT
  go_enter Tryz.func170, Tryz.ntmps170
  go_wp2_with fail
  refine (H1.out _ hB HT.out).mono ?_
  rintro e w1 ⟨rfl, hb1⟩
  have HB1 := hide hb1
  clear hb1
  go_wp2_with fail
  refine (H2.out _).mono ?_
  rintro e w2 ⟨rfl, hb2⟩
  have HB2 := hide (HB1.out.trans (hb2.mono HB1.out.size))
  clear hb2
  go_wp2_with fail
  refine bodyPost_ret (results_tmp3 rfl _ _ _) rfl ?_
  exact ⟨rfl, HB2.out⟩
theorem iB_size_abs (z : Int) : (iB z).size = if z < 0 then (Lib.decDigits z.natAbs).length + 1 else (Lib.decDigits z.natAbs).length := by
  rw [← bytes_len, iB_list]
  rcases itoa_cases z with ⟨h1, h⟩ | ⟨h1, h⟩ <;> rw [h]
  · rw [if_pos h1, List.length_cons]
  · rw [if_neg (by omega)]
end Go.Proofs.YtpmnhipffkhcpaaGreatDoor
