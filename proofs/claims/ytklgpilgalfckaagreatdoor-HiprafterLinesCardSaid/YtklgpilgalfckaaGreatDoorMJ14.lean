/-
  Texts laid together.
-/
import Derived.Test.YtklgpilgalfckaaGreatDoorMJ13
import Derived.Test.YtklgpilgalfckaaGreatDoorMJ9
import Derived.Test.YtklgpilgalfckaaGreatDoorMJ5
import Derived.Test.YtklgpilgalfckaaGreatDoorMJ12
import Derived.Test.YtklgpilgalfckaaGreatDoorMJ3
import Derived.Laws.AppendOwnNone
set_option maxRecDepth 100000
set_option maxHeartbeats 16000000
namespace Go.Proofs.YtklgpilgalfckaaGreatDoor
open Go.RowKit Go.KP Go.KI Go.Shelf
attribute [local go_sem] Oper.semAt_some

theorem rtop_nums {b1 b0 : Nat} (h1 : b1 < 1000000) (h0 : b0 < 1000000) : ∃ T : Nat, T = b1 * 1000000 + b0 ∧ IntKind.i64.wrap ((b1 : Int) * 1000000) = (b1 : Int) * 1000000 ∧ IntKind.i64.wrap ((b1 : Int) * 1000000 + (b0 : Int)) = (T : Int) ∧ T < 1000000000000 := by
  refine ⟨b1 * 1000000 + b0, rfl, IntWalk.i64_in _ (by omega), ?_, by omega⟩
  rw [IntWalk.i64_in _ (by omega)]
  omega
def TrimRes (base : Nat) (l : List Nat) (W : World) (e : Ending) (w2 : World) : Prop := W = w2 ∧ ∃ v, e = .returned v ∧ OwnL base W v (trimL l)
theorem rtrim_own (base : Nat) (v : Value) (l : List Nat) (W : World) (h : OwnL base W v l) (hl : l.length ≤ 1000000) :
    Calls Tryz.prog 224 #[v] W (TrimRes base l W) := by
  obtain ⟨a, c, rfl, hc, _⟩ := h.form
  refine (rtrim_any a c l W.heap.size W h.at_ hc hl).mono ?_
  rintro e w2 ⟨rfl, rfl⟩
  exact ⟨rfl, _, rfl, h.cut (trimTo_le _ _)⟩
theorem rdivide_any (va vb : Value) (x y : List Nat) (B : Nat) (w : World) (ha : LimbAt B w va x) (hb : LimbAt B w vb y) (hB : B ≤ w.heap.size) (hx : Lt 1000000 x) (hy : Norm 1000000 y) (hy0 : y ≠ []) (lx : x.length ≤ 1000) (ly : y.length ≤ 1000) :
    Calls Tryz.prog 205 #[va, vb] w (RDivRes x y w) := by
  obtain ⟨a0, c0, hva⟩ := ha.form
  obtain ⟨a1, c1, hvb⟩ := hb.form
  subst hva; subst hvb
  have HA := hide ha; have HBB := hide hb; have HX := hide hx; have HY := hide hy
  have hyp : 1 ≤ lv 1000000 y := by
    have h1 := hy.ge hy0
    have h2 : 0 < 1000000 ^ (y.length - 1) := Nat.pow_pos (by omega)
    omega
  have HYP := hide hyp
  have hpos : y.length ≠ 0 := fun h => hy0 (List.eq_nil_of_length_eq_zero h)
  obtain ⟨N, hN⟩ : ∃ N, N = x.length := ⟨_, rfl⟩
  have HN := hide hN
  rw [← hN] at lx HA ⊢
  obtain ⟨n, hn⟩ : ∃ n, n = y.length := ⟨_, rfl⟩
  have HNY := hide hn
  rw [← hn] at ly hpos ⊢
  rcases hb.cases with ⟨_, _, _, hnil⟩ | ⟨gb, ob, capb, hvb, hgb, hcb⟩
  · exact absurd hnil hy0
  rw [← hn] at hvb
  injection hvb with hv1 hv2 hv3
  subst hv1; subst hv3
  clear ha hb hx hy hy0 hN hv2 hyp
  by_cases h1 : n = 1
  · have hq : ((n : Int) == 1) = true := by rw [h1]; rfl
    have hcell := hcb 0 (by rw [← hn]; omega)
    obtain ⟨d, hd⟩ : ∃ d, d = lat y 0 := ⟨_, rfl⟩
    rw [← hd, Nat.add_zero] at hcell
    have hyd : y = [d] := by
      match y, hn with
      | [], hn => simp at hn; omega
      | [c], _ => rw [hd]; rfl
      | _ :: _ :: _, hn => simp at hn; omega
    have hd1 : 1 ≤ d := by have := HYP.out; rw [hyd] at this; simpa [lv] using this
    have hd2 : d < 1000000 := HY.out.lt d (by rw [hyd]; simp)
    have HS := hide (rshort_any (.slice a0 N c0) x d B w HA.out hB HX.out (by rw [← HN.out]; omega) hd1 hd2)
    rw [← hyd] at HS
    have hn0 : (0 : Int) < (n : Int) := by omega
    clear hcb hd hyd h1 hn hpos
    go_enter Tryz.func205, Tryz.ntmps205
    go_wp2_with fail
    refine HS.out.mono ?_
    rintro e w1 ⟨vq, vr, q, r, rfl, hb1, oq, or_, nq, nr, eq, er, lq⟩
    have HR := hide (show RDivRes x y w (.returned (.tuple #[vq, vr])) w1 from ⟨vq, vr, q, r, rfl, hb1, oq, or_, nq, nr, eq, er, lq⟩)
    clear hb1 oq or_ nq nr eq er lq HS
    go_wp2_with fail
    refine bodyPost_ret (results_tmp2 rfl _ _ _) rfl ?_
    exact HR.out
  · have hq : ((n : Int) == 1) = false := by
      simp only [beq_eq_false_iff_ne, ne_eq]
      omega
    obtain ⟨m, hm⟩ : ∃ m, n = m + 2 := ⟨n - 2, by omega⟩
    have hi1 : IntKind.i64.wrap ((n : Int) - 1) = ((m + 1 : Nat) : Int) := by rw [IntWalk.i64_in _ (by omega)]; omega
    have hi2 : IntKind.i64.wrap ((n : Int) - 2) = (m : Int) := by rw [IntWalk.i64_in _ (by omega)]; omega
    have hm1 : ((m + 1 : Nat) : Int) < (n : Int) := by omega
    have hm0 : (m : Int) < (n : Int) := by omega
    have hcell1 := hcb (m + 1) (by rw [← hn]; omega)
    have hcell0 := hcb m (by rw [← hn]; omega)
    have hb1l := lat_lt (by omega) HY.out.lt (m + 1)
    have hb0l := lat_lt (by omega) HY.out.lt m
    have HTOP := hide (up2 HY.out.lt (m := m) (by rw [← hn]; omega))
    obtain ⟨b1, hb1⟩ : ∃ b1, b1 = lat y (m + 1) := ⟨_, rfl⟩
    obtain ⟨b0, hb0⟩ : ∃ b0, b0 = lat y m := ⟨_, rfl⟩
    rw [← hb1] at hcell1 hb1l HTOP
    rw [← hb0] at hcell0 hb0l HTOP
    obtain ⟨T, hT, hw1, hw2, hTl⟩ := rtop_nums hb1l hb0l
    rw [← hT] at HTOP
    have hmk := make_ints N (by omega)
    have HM := hide hm
    clear hcb hn h1 hpos hb1 hb0 hT hm
    go_enter Tryz.func205, Tryz.ntmps205
    go_wp2_with fail
    go_quiet (fail)
    clear hw1 hw2 hi1 hi2 hcell1 hcell0 hm1 hm0 hb1l hb0l
    go_wp2_with fail
    have hw1s : ((w.drewN nq).alloc (rowO (zeros N))).heap.size = w.heap.size + 1 := by simp
    have HE0 := hide (show OwnL (w.heap.size + 1) (((w.drewN nq).alloc (rowO (zeros N))).alloc (.cells #[] 3)) (.slice (some ⟨w.heap.size + 1, 0, none⟩) 0 0) [] by
      have h := empty_own ((w.drewN nq).alloc (rowO (zeros N)))
      rw [hw1s] at h
      exact h)
    have HQ0 := hide (show (((w.drewN nq).alloc (rowO (zeros N))).alloc (.cells #[] 3)).heap[w.heap.size]? = some (rowO (zeros N)) from (Below.heap_alloc _ _ _ (by simp)).trans (heap_alloc_new (w.drewN nq) _))
    have HB0 := hide (show Below w.heap.size w (((w.drewN nq).alloc (rowO (zeros N))).alloc (.cells #[] 3)) from ((below_drewN (Below.refl w.heap.size w) nq).alloc (Nat.le_refl _) _).alloc (by simp) _)
    obtain ⟨w1, hw1⟩ : ∃ w1, ((w.drewN nq).alloc (rowO (zeros N))).alloc (.cells #[] 3) = w1 := ⟨_, rfl⟩
    rw [hw1] at HE0 HQ0 HB0 ⊢
    clear hmk hw1s hw1
    obtain ⟨Y, hY⟩ : ∃ Y, Y = lv 1000000 y := ⟨_, rfl⟩
    have HYV := hide hY
    clear hY
    obtain ⟨m1, hm1⟩ : ∃ m1, m1 = m + 1 := ⟨_, rfl⟩
    have HM1 := hide hm1
    have hj1 : (n : Int) - 1 = (m1 : Int) := by have := HM.out; omega
    have hj2 : (n : Int) - 2 = (m : Int) := by have := HM.out; omega
    have hmn : m ≤ 1000 := by have := HM.out; omega
    have hmn1 : m1 ≤ 1001 := by omega
    clear hm1
    go_loopw [9, 10] (fun v i wr => ∃ k : Nat, k ≤ N ∧ i = .int .i64 ((N : Int) - 1 - k) ∧ Hid (∃ Q R : List Nat, RDivAt x Y k Q (lv 1000000 R) ∧ OwnL (w.heap.size + 1) wr v R ∧ Norm 1000000 R ∧ wr.heap[w.heap.size]? = some (rowO Q) ∧ Below w.heap.size w wr)) (fun _ i _ => (intOf i + 1).toNat)
    case atStart => exact ⟨0, Nat.zero_le _, by simp, zeros N, [], by have := RDivAt.start x HYP.out; rw [← HN.out, ← HYV.out] at this; exact this, HE0.out, Norm.nil _, HQ0.out, HB0.out⟩
    case round =>
      obtain ⟨k, hk, rfl, hin⟩ := hrel
      obtain ⟨Q, R, hd, ho, hnr, hQ, hW⟩ := hin.out
      have hsz := lt_blk hQ
      by_cases hlt : k < N
      · obtain ⟨p, hp⟩ : ∃ p : Nat, (N : Int) - 1 - (k : Int) = p := ⟨N - 1 - k, by omega⟩
        rw [hp]
        have hpN : p < N := by omega
        have hpi : (p : Int) < (N : Int) := by omega
        rcases (HA.out.below hW hB).cases with ⟨_, _, _, hnil⟩ | ⟨g, o, cap, hv, hg, hc⟩
        · have := HN.out
          rw [hnil] at this
          simp at this
          omega
        injection hv with hv1 hv2 hv3
        subst hv1; subst hv3
        have q1 := hc p (by have := HN.out; omega)
        have hxp := lat_lt (by omega) HX.out p
        obtain ⟨X, hX⟩ : ∃ X, X = lat x p := ⟨_, rfl⟩
        rw [← hX] at q1 hxp
        have HXE := hide hX
        have HD := hide hd; have HNR := hide hnr; have HQ := hide hQ; have HW := hide hW; have HP := hide hp; have HO := hide ho
        have HRL := hide (show R.length ≤ n by
          have h1 := hd.rest
          rw [HYV.out] at h1
          rw [HNY.out]
          exact norm_le_b (by omega) hnr HY.out.lt (by omega))
        have HALL := hide (fun (o : Obj) => (Below.refl wr.heap.size wr).alloc (Nat.le_refl _) o)
        have HNEW := hide (show (wr.alloc (.cells #[.int .i64 X] 3)).ownsRow wr.heap.size 3 1 (.slice (some ⟨wr.heap.size, 0, none⟩) 1 1) 1 (icells [X]) from row_owns (heap_alloc_new wr (rowO [X])) (Nat.le_refl _) (by simp [maxLen]))
        obtain ⟨i0, hi0, hz0, hz1, hz2⟩ := info_parts info3
        have hrl := HRL.out
        clear hd hnr hQ hW hp hX hc hv2 hg hin hlt
        rcases ho.2 with ⟨hv, hr0⟩ | ⟨gr, capr, curr, hv, hgr, hhr, hrr⟩
        case' inl =>
          subst hv
          have hR0 : R = [] := List.eq_nil_of_length_eq_zero hr0
          clear hr0 ho
          go_wp2_with (at_builtin; go_must (refine wpList_append_own_none rfl (.tmp 51) (.tmp 52) 199 rfl wr.heap.size 3 i0 1 Tryz.underlying199 hi0 (.slice (some ⟨wr.heap.size, 0, none⟩) 1 1) 1 (icells [X]) rfl HNEW.out rfl ?_))
          have HO5 := hide (show OwnL wr.heap.size (wr.alloc (.cells #[.int .i64 X] 3)) (.slice (some ⟨wr.heap.size, 0, none⟩) 1 1) (X :: R) by
            rw [hR0]
            exact HNEW.out)
          have HB5 := hide (HALL.out (.cells #[.int .i64 X] 3))
          refine (rtrim_own wr.heap.size _ (X :: R) _ HO5.out (by simp; omega)).mono ?_
          rintro e w6 ⟨rfl, v6, rfl, h6⟩
          obtain ⟨W5, hW5⟩ : ∃ W5, wr.alloc (.cells #[.int .i64 X] 3) = W5 := ⟨_, rfl⟩
          rw [hW5] at HB5 h6 ⊢
          clear hR0 HO5 hW5
        case' inr =>
          subst hv
          have hcs := ho.cells (g := gr) rfl
          have HNS := hide (fun j u (hu : (icells R)[j]? = some u) => ((show (wr.alloc (.cells #[.int .i64 X] 3)).cell? ((⟨gr, 0, none⟩ : Addr).add j) = wr.cell? ((⟨gr, 0, none⟩ : Addr).add j) by
            rw [Addr.add_lit]
            exact cell_alloc (lt_blk hhr)).trans (hcs j u hu)))
          clear hhr hrr hcs ho
          go_wp2_with (at_builtin; go_must (refine wpList_append_own _ rfl (.tmp 51) (.tmp 52) 199 rfl wr.heap.size 3 i0 _ 1 8 Tryz.underlying199 hi0 hz0 hz1 hz2 rfl (by decide) (.slice (some ⟨wr.heap.size, 0, none⟩) 1 1) 1 (icells [X]) rfl HNEW.out ⟨gr, 0, none⟩ R.length capr (icells R) rfl (by simp [icells]) HNS.out (by simp [icells, Value.oneCell']) (by simp only [maxLen]; omega) (by omega) (by simp) ?_); intro v5 w5 hown hg1 hiff; clear hiff; have HO5 := hide (show OwnL wr.heap.size w5 v5 (X :: R) by
            unfold OwnL
            rw [show (X :: R).length = 1 + R.length by simp; omega]
            exact hown); have HB5 := hide ((HALL.out (.cells #[.int .i64 X] 3)).grown hg1 (by simp) (owns_ge HNEW.out (Nat.le_refl _))); clear hown hg1)
          refine (rtrim_own wr.heap.size v5 (X :: R) w5 HO5.out (by simp; omega)).mono ?_
          rintro e w6 ⟨rfl, v6, rfl, h6⟩
          obtain ⟨W5, hW5⟩ : ∃ W5, W5 = w5 := ⟨_, rfl⟩
          rw [← hW5] at HB5 h6 ⊢
          clear HNS HO5 hW5
        all_goals
          obtain ⟨a6, c6, hvf, _, _⟩ := h6.form
          subst hvf
          have HN6 := hide (show Norm 1000000 (trimL (X :: R)) from trimL_norm (fun z hz => by
            rcases List.mem_cons.1 hz with h | h
            · rw [h]; exact hxp
            · exact HNR.out.lt z h))
          have HL6 := hide (show lv 1000000 (trimL (X :: R)) = X + 1000000 * lv 1000000 R by rw [trimL_lv]; rfl)
          have HC6 := hide (show (trimL (X :: R)).length ≤ m + 3 by
            rw [trimL_len]
            have := trimTo_le (X :: R) (X :: R).length
            have h2 : (X :: R).length = R.length + 1 := rfl
            have := HM.out
            omega)
          obtain ⟨R1, hR1⟩ : ∃ R1, R1 = trimL (X :: R) := ⟨_, rfl⟩
          rw [← hR1] at HN6 HL6 HC6 h6 ⊢
          have H6 := hide h6
          clear h6 hR1 HNEW HALL hi0 hz0 hz1 hz2
          have hr6 := HC6.out
          go_wp2_with fail
          have hA := hide (rlimb_any (.slice a6 R1.length c6) R1 n W5.heap.size W5 H6.out.at_ (by omega))
          have hB' := hide (rlimb_any (.slice a6 R1.length c6) R1 m1 W5.heap.size W5 H6.out.at_ (by omega))
          have hC := hide (rlimb_any (.slice a6 R1.length c6) R1 m W5.heap.size W5 H6.out.at_ (by omega))
          have l2 := lat_lt (by omega) HN6.out.lt n
          have l1 := lat_lt (by omega) HN6.out.lt m1
          have l0 := lat_lt (by omega) HN6.out.lt m
          have HUP := hide (up3 HN6.out.lt hr6)
          rw [← HM.out, ← HM1.out] at HUP
          obtain ⟨L2, hL2⟩ : ∃ L2, L2 = lat R1 n := ⟨_, rfl⟩
          obtain ⟨L1, hL1⟩ : ∃ L1, L1 = lat R1 m1 := ⟨_, rfl⟩
          obtain ⟨L0, hL0⟩ : ∃ L0, L0 = lat R1 m := ⟨_, rfl⟩
          rw [← hL2] at hA l2 HUP
          rw [← hL1] at hB' l1 HUP
          rw [← hL0] at hC l0 HUP
          obtain ⟨G, hGi, hG⟩ := rdiv_nums L2 L1 L0 T
          rw [HUP.out, HTOP.out] at hG
          have hGS := guess_le (Nat.pow_pos (by omega)) hG
          obtain ⟨S, hS⟩ : ∃ S, S = lv 1000000 R1 := ⟨_, rfl⟩
          rw [← HYV.out, ← hS] at hGS
          have hSY : S < 1000000 * Y := by
            rw [hS, HL6.out]
            have := HD.out.rest
            omega
          have hGl := guess_lt hGS hSY
          have HGS := hide hGS; have HSY := hide hSY; have HS := hide hS
          have hT0 : ((T : Int) + 1 == 0) = false := by
            simp only [beq_eq_false_iff_ne, ne_eq]
            omega
          clear hL2 hL1 hL0 hG hGS hSY hS
          refine hA.out.mono ?_
          rintro e w7 ⟨rfl, he⟩
          obtain rfl := he.symm
          go_wp2_with fail
          refine hB'.out.mono ?_
          rintro e w7 ⟨rfl, he⟩
          obtain rfl := he.symm
          go_wp2_with fail
          refine hC.out.mono ?_
          rintro e w7 ⟨rfl, he⟩
          obtain rfl := he.symm
          clear hA hB' hC
          go_wp2_with fail
          rw [hGi]
          have HGI := hide hGi
          clear hGi hT0 l2 l1 l0
          have HB6 := hide (HB5.out.alloc (Nat.le_trans (Nat.le_refl _) HB5.out.size) (.cells #[.int .i64 G] 3))
          have HB7 := hide (HW.out.trans (HB6.out.mono HW.out.size))
          have HG6 := hide (show LimbAt (W5.alloc (.cells #[.int .i64 G] 3)).heap.size (W5.alloc (.cells #[.int .i64 G] 3)) (.slice (some ⟨W5.heap.size, 0, none⟩) 1 1) [G] from row_limbs (heap_alloc_new W5 (rowO [G])) (by simp [maxLen]))
          have HR6 := hide (show OwnL wr.heap.size (W5.alloc (.cells #[.int .i64 G] 3)) (.slice a6 R1.length c6) R1 from H6.out.keep ((Below.refl _ _).alloc (Nat.le_refl _) _))
          have HY6 := hide ((HBB.out.below HB7.out hB).mono (Nat.le_trans hB HB7.out.size))
          obtain ⟨W6, hW6⟩ : ∃ W6, W5.alloc (.cells #[.int .i64 G] 3) = W6 := ⟨_, rfl⟩
          rw [hW6] at HB6 HB7 HG6 HR6 HY6 ⊢
          rw [← HNY.out] at HY6
          clear hW6 H6 HB5
          have hnl : n ≤ 1000 := ly
          refine (rtimes_any _ _ y [G] W6.heap.size W6 HY6.out HG6.out (Nat.le_refl _) HY.out.lt (fun z hz => by simp only [List.mem_singleton] at hz; rw [hz]; exact hGl) (by rw [← HNY.out]; omega) (by simp)).mono ?_
          rintro e w7 ⟨l7, ⟨v7, rfl, hb7, o7⟩, n7, q7, k7⟩
          obtain ⟨a7, c7, hvf, _, _⟩ := o7.form
          subst hvf
          have HB8 := hide (HB7.out.trans (hb7.mono HB7.out.size))
          have HR7 := hide (HR6.out.keep hb7)
          have O7 := hide o7; have N7 := hide n7
          have Q7 := hide (show lv 1000000 l7 = G * Y by rw [q7, ← HYV.out, Nat.mul_comm]; simp [lv])
          have HBB7 := hide (show Below wr.heap.size wr w7 from HB6.out.trans (hb7.mono HB6.out.size))
          clear hb7 o7 n7 q7 k7 HG6 HY6 HR6 HB6 HB7
          go_wp2_with fail
          refine (rminus_any _ _ R1 l7 w7.heap.size w7 (.of_own HR7.out) (.of_own O7.out) (Nat.le_refl _) HN6.out.lt N7.out (by omega) (by rw [Q7.out, ← HS.out]; exact HGS.out)).mono ?_
          rintro e w8 ⟨l8, ⟨v8, rfl, hb8, o8⟩, n8, q8, k8⟩
          have HB9 := hide (HB8.out.trans (hb8.mono HB8.out.size))
          have hsw : w.heap.size + 1 ≤ w7.heap.size := by have := HBB7.out.size; omega
          have O8 := hide (o8.mono hsw); have N8 := hide n8
          have Q8 := hide (show G * Y + lv 1000000 l8 = S by rw [q8, Q7.out, ← HS.out]; have := HGS.out; omega)
          have HQ8 := hide (below_blk (HBB7.out.trans (hb8.mono HBB7.out.size)) HQ.out hsz)
          clear hb8 o8 n8 q8 k8 HR7 O7 N7 Q7 HBB7 HB8 hsw
          obtain ⟨wo, hwo⟩ : ∃ wo, wo = w8 := ⟨_, rfl⟩
          rw [← hwo] at HB9 O8 HQ8 ⊢
          clear hwo
          go_wp2_with fail
          go_loopw [9, 11] (fun v g wr2 => ∃ G2 : Nat, g = .int .i64 G2 ∧ G2 ≤ 1000000 ∧ Hid (∃ R2 : List Nat, OwnL (w.heap.size + 1) wr2 v R2 ∧ Norm 1000000 R2 ∧ G2 * Y + lv 1000000 R2 = S ∧ wr2.heap[w.heap.size]? = some (rowO Q) ∧ Below w.heap.size w wr2)) (fun _ g _ => 1000000 - (intOf g).toNat)
          case atStart => exact ⟨G, rfl, by omega, l8, O8.out, N8.out, Q8.out, HQ8.out, HB9.out⟩
          case round =>
            obtain ⟨G2, rfl, hG2, hin⟩ := hrel
            obtain ⟨R2, ho2, hn2, hv2, hq2, hw2⟩ := hin.out
            obtain ⟨ar, cr, hvf, _, _⟩ := ho2.form
            subst hvf
            have hlen2 : R2.length ≤ m + 3 := Nat.le_trans (norm_le_b (by omega) hn2 HN6.out.lt (by rw [← HS.out]; omega)) hr6
            have hBw : B ≤ wr.heap.size := Nat.le_trans hB hw2.size
            have hyw := (HBB.out.below hw2 hB).mono hBw
            rw [← HNY.out] at hyw
            have HO2 := hide ho2; have HN2 := hide hn2; have HV2 := hide hv2; have HQ2 := hide hq2; have HW2 := hide hw2; have HYW := hide hyw
            have hsz2 := lt_blk hq2
            have HSZ := hide (rsize_any (.slice ar R2.length cr) _ R2 y wr.heap.size wr ho2.at_ hyw (Nat.le_refl _) hn2 HY.out (by omega))
            clear ho2 hn2 hv2 hq2 hw2 hyw hin
            go_wp2_with fail
            refine HSZ.out.mono ?_
            rintro e w9 ⟨r, rfl, hr, hb9⟩
            have hb9s := hb9.size
            have HW3 := hide (HW2.out.trans (hb9.mono HW2.out.size)); have HO3 := hide (HO2.out.keep hb9); have HQ3 := hide (below_blk hb9 HQ2.out hsz2); have HYW3 := hide ((HYW.out.below hb9 (Nat.le_refl _)).mono hb9s)
            clear hb9 HSZ HW2 HO2 HQ2 HYW
            by_cases hge : 0 ≤ r
            · have hle : Y ≤ lv 1000000 R2 := by
                rw [HYV.out]
                have h1 := hr.1
                have h2 : ¬ lv 1000000 R2 < lv 1000000 y := fun h => by have := h1.2 h; omega
                omega
              have hG3 : G2 + 1 ≤ 1000000 := by
                have h1 := HSY.out
                have h2 := HV2.out
                have h3 : (G2 + 1) * Y ≤ S := by rw [Nat.add_mul]; omega
                exact Nat.le_of_lt (guess_lt h3 h1)
              have HLE := hide hle
              clear hr hle
              go_wp2_with fail
              refine (rminus_any _ _ R2 y w9.heap.size w9 HO3.out.at_ HYW3.out (Nat.le_refl _) HN2.out.lt HY.out (by omega) (by rw [← HYV.out]; exact HLE.out)).mono ?_
              rintro e w10 ⟨l10, ⟨v10, rfl, hb10, o10⟩, n10, q10, k10⟩
              have HW4 := hide (HW3.out.trans (hb10.mono HW3.out.size))
              have HO4 := hide (o10.mono (show w.heap.size + 1 ≤ w9.heap.size by omega))
              have HQ4 := hide (below_blk hb10 HQ3.out (by omega))
              have HN4 := hide n10
              have HV4 := hide (show (G2 + 1) * Y + lv 1000000 l10 = S by
                have h1 := HV2.out
                have h2 := HLE.out
                rw [q10, ← HYV.out, Nat.add_mul]
                omega)
              clear hb10 o10 n10 q10 k10
              go_wp2_with fail
              go_roundw
              case rel => exact ⟨G2 + 1, by go_num, hG3, l10, HO4.out, HN4.out, HV4.out, HQ4.out, HW4.out⟩
              case measure => simp [intOf]; omega
            · have hlt2 : lv 1000000 R2 < Y := by
                rw [HYV.out]
                exact hr.1.1 (by omega)
              have hge' : (0 ≤ r) = False := eq_false hge
              have hG3 : G2 < 1000000 := guess_lt (y := Y) (r := S) (by have := HV2.out; omega) HSY.out
              have hpQ : p < Q.length := by rw [HD.out.len, ← HN.out]; exact hpN
              have c3 := row_cell HQ3.out hpQ
              have f3 := row_froz HQ3.out p
              have hsz3 : w.heap.size < w9.heap.size := by omega
              have HRS := hide hlt2
              clear hr hge hlt2
              go_wp2_with fail
              go_roundw
              case rel =>
                refine ⟨k + 1, by have := HP.out; omega, by have := HP.out; congr 1; omega, Q.set p G2, R2, ?_, HO3.out.other (p := ⟨w.heap.size, p, none⟩) (by simp) _, HN2.out, row_set HQ3.out p G2, HW3.out.setCell (p := ⟨w.heap.size, p, none⟩) (Nat.le_refl _) _⟩
                refine HD.out.step (by have := HN.out; have := HP.out; omega) (i := p) (by have := HN.out; have := HP.out; omega) hG3 HRS.out ?_
                rw [← HXE.out]
                have h1 := HV2.out
                rw [HS.out, HL6.out] at h1
                omega
              case measure => simp [intOf]
      · obtain rfl : k = N := by omega
        have hm : (k : Int) - 1 - (k : Int) = -1 := by omega
        rw [hm]
        have hQn : Q.length = k := hd.len.trans HN.out.symm
        have HTq := hide (rtrim_own w.heap.size (.slice (some ⟨w.heap.size, 0, none⟩) k k) Q wr (by
          have := row_owns (base := w.heap.size) hQ (Nat.le_refl _) (by unfold maxLen; omega)
          rw [hQn] at this
          exact this) (by omega))
        have HD := hide hd; have HO := hide ho; have HNR := hide hnr; have HW := hide hW; have HQN := hide hQn
        clear hd ho hnr hQ hW hQn hin hlt hm hj1 hj2
        go_wp2_with fail
        refine HTq.out.mono ?_
        rintro e w5 ⟨rfl, vq, rfl, hoq⟩
        have HOQ := hide hoq
        clear hoq HTq
        go_wp2_with fail
        refine bodyPost_ret (results_tmp2 rfl _ _ _) rfl ?_
        obtain ⟨e1, e2⟩ := (show RDivAt x Y x.length Q (lv 1000000 R) by have := HD.out; rw [HN.out] at this; exact this).done
        refine ⟨_, _, trimL Q, R, rfl, HW.out, HOQ.out, HO.out.mono (by omega), trimL_norm HD.out.lt, HNR.out, by rw [trimL_lv, e1, HYV.out], by rw [e2, HYV.out], ?_⟩
        rw [trimL_len]
        have := trimTo_le Q Q.length
        have := HQN.out
        have := HN.out
        omega
open Go.RowKit Go.KP Go.KI Go.Shelf
attribute [local go_sem] Oper.semAt_some

structure RDivSt (nb b : Nat) (mq mr my : Bool) (vq vr vy : Value) (W : World) : Prop where
  q : W.heap[b]? = some (bigO mq vq)
  r : W.heap[b + 1]? = some (bigO mr vr)
  y : W.heap[nb + 1]? = some (bigO my vy)
  lt : nb + 1 < b
theorem RDivSt.on {nb b : Nat} {mq mr my : Bool} {vq vr vy : Value} {W W2 : World} (h : RDivSt nb b mq mr my vq vr vy W) (hb : Below W.heap.size W W2) : RDivSt nb b mq mr my vq vr vy W2 :=
  ⟨below_blk hb h.q (lt_blk h.q), below_blk hb h.r (lt_blk h.r), below_blk hb h.y (lt_blk h.y), h.lt⟩
theorem RDivSt.cells {nb b : Nat} {mq mr my : Bool} {vq vr vy : Value} {W : World} (h : RDivSt nb b mq mr my vq vr vy W) :
    (W.cell? ⟨b, 0, none⟩ = some (.bool mq) ∧ W.cell? ⟨b, 1, none⟩ = some vq) ∧ (W.cell? ⟨b + 1, 0, none⟩ = some (.bool mr) ∧ W.cell? ⟨b + 1, 1, none⟩ = some vr) ∧ (W.cell? ⟨nb + 1, 0, none⟩ = some (.bool my) ∧ W.cell? ⟨nb + 1, 1, none⟩ = some vy) ∧
    (W.frozen? ⟨b, 0, none⟩ = false ∧ W.frozen? ⟨b, 1, none⟩ = false) ∧ (W.frozen? ⟨b + 1, 0, none⟩ = false ∧ W.frozen? ⟨b + 1, 1, none⟩ = false) ∧ b < W.heap.size ∧ b + 1 < W.heap.size ∧ nb + 1 < W.heap.size :=
  ⟨⟨cell_blk h.q 0, cell_blk h.q 1⟩, ⟨cell_blk h.r 0, cell_blk h.r 1⟩, ⟨cell_blk h.y 0, cell_blk h.y 1⟩, ⟨froz_blk h.q 0, froz_blk h.q 1⟩, ⟨froz_blk h.r 0, froz_blk h.r 1⟩, lt_blk h.q, lt_blk h.r, lt_blk h.y⟩
open Go.RowKit Go.KP Go.KI Go.Shelf
attribute [local go_sem] Oper.semAt_some

theorem rfield_limbs (m : Bool) (v : Value) (w : World) : (Instr.field 222 (numV m v) 1).run Tryz.prog w = .ok v w := by kernel_rfl
theorem rGcd_small (s t : ByteArray) (B : Nat) (w : World) (c1 : chkI s.data.toList = 0) (c2 : chkI t.data.toList = 0) (hs : s.size ≤ 17) (ht : t.size ≤ 17) (hB : B ≤ w.heap.size) (hT : P10 B w) :
    Calls Tryz.prog 175 #[.string s, .string t] w (Ret w (pairV (Lib.itoa ((Nat.gcd (valI s.data.toList).natAbs (valI t.data.toList).natAbs : Nat) : Int)) 0)) := by
  have H1 := hide (rboth_any s t (by omega) (by omega) w)
  have hb0 : bothI s.data.toList t.data.toList = 0 := by unfold bothI; rw [if_pos c1, c2]
  rw [hb0] at H1
  have HT := hide hT
  have H2 := hide (fun w => rtwo_yes s t c1 c2 hs ht w)
  have v1 := short_val (n := 17) c1 (by rw [bytes_len]; exact hs) (by omega)
  have v2 := short_val (n := 17) c2 (by rw [bytes_len]; exact ht) (by omega)
  rw [pow17] at v1 v2
  obtain ⟨x, hx⟩ : ∃ x, x = valI s.data.toList := ⟨_, rfl⟩
  obtain ⟨y, hy⟩ : ∃ y, y = valI t.data.toList := ⟨_, rfl⟩
  rw [← hx, ← hy] at H2 ⊢
  rw [← hx] at v1
  rw [← hy] at v2
  obtain ⟨G, hG⟩ : ∃ G, G = Nat.gcd x.natAbs y.natAbs := ⟨_, rfl⟩
  rw [← hG]
  have HG := hide hG
  have V1 := hide v1; have V2 := hide v2
  clear c1 c2 hs ht hT hx hy hb0 hG v1 v2
  go_enter Tryz.func175, Tryz.ntmps175
  go_wp2_with fail
  refine H1.out.mono ?_
  rintro e w1 ⟨rfl, hb1⟩
  have HB1 := hide hb1
  clear hb1 H1
  go_wp2_with fail
  refine (H2.out _).mono ?_
  rintro e w2 ⟨rfl, hb2⟩
  have HB2 := hide (HB1.out.trans (hb2.mono HB1.out.size))
  clear hb2 H2 HB1
  go_wp2_with fail
  go_loopw [7, 8] (fun a b wr => ∃ p q : Int, a = .int .i64 p ∧ b = .int .i64 q ∧ p.natAbs < 100000000000000000 ∧ q.natAbs < 100000000000000000 ∧ Hid (Nat.gcd p.natAbs q.natAbs = G ∧ Below w.heap.size w wr)) (fun _ b _ => (intOf b).natAbs)
  case atStart => exact ⟨x, y, rfl, rfl, V1.out, V2.out, HG.out.symm, HB2.out⟩
  case round =>
    obtain ⟨p, q, rfl, rfl, hp, hq, hin⟩ := hrel
    have IN := hide hin.out
    clear hin
    by_cases hq0 : q = 0
    · subst hq0
      have hqq : ((0 : Int) != 0) = false := rfl
      have hG : (p.natAbs : Nat) = G := by have := IN.out.1; simpa using this
      have GG := hide hG
      clear hq hG
      go_wp2_with fail
      have hmx : max p (-p) = (G : Int) := by have := GG.out; omega
      rw [hmx]
      have hG1 : (G : Int) ≤ 9223372036854775807 := by have := GG.out; omega
      clear hmx hqq
      refine (itoa_any G (by omega) hG1 B _ (HT.out.on IN.out.2 hB)).mono ?_
      rintro e w3 ⟨rfl, hb3⟩
      have HB3 := hide (IN.out.2.trans (hb3.mono IN.out.2.size))
      clear hb3
      go_wp2_with fail
      refine bodyPost_ret (results_tmp2 rfl _ _ _) rfl ?_
      exact ⟨rfl, HB3.out⟩
    · have hqq : (q != 0) = true := by simpa using hq0
      have hyq : (q == 0) = false := by simpa using hq0
      have hr := natAbs_tmod_lt p hq0
      have hgc : Nat.gcd q.natAbs (p.tmod q).natAbs = G := by
        rw [Int.natAbs_tmod, ← IN.out.1, Nat.gcd_comm q.natAbs, ← Nat.gcd_rec, Nat.gcd_comm]
      have GG := hide hgc
      clear hq0 hgc
      go_wp2_with fail
      go_quiet (fail)
      clear hyq hqq
      go_wp2_with fail
      go_roundw
      case rel => exact ⟨q, p.tmod q, rfl, rfl, hq, by omega, GG.out, ⟨IN.out.2.os, IN.out.2.tape, IN.out.2.output, IN.out.2.size, IN.out.2.block⟩⟩
      case measure => simpa [intOf] using hr
theorem rGcd_long (s t : ByteArray) (w : World) (c1 : chkI s.data.toList = 0) (c2 : chkI t.data.toList = 0) (hl : ¬ (s.size ≤ 17 ∧ t.size ≤ 17)) :
    Calls Tryz.prog 175 #[.string s, .string t] w (Ret w (pairV (Lib.itoa ((Nat.gcd (valI s.data.toList).natAbs (valI t.data.toList).natAbs : Nat) : Int)) 0)) := by
  have l1' := (chk_digs c1).2
  have l2' := (chk_digs c2).2
  rw [bytes_len] at l1' l2'
  have H1 := hide (rboth_any s t (by omega) (by omega) w)
  have hb0 : bothI s.data.toList t.data.toList = 0 := by unfold bothI; rw [if_pos c1, c2]
  rw [hb0] at H1
  have H2 := hide (fun w => rtwo_no s t c1 hl w)
  have R1 := hide (fun w => rread_good s c1 w)
  have R2 := hide (fun w => rread_good t c2 w)
  obtain ⟨G, hG⟩ : ∃ G, G = Nat.gcd (valI s.data.toList).natAbs (valI t.data.toList).natAbs := ⟨_, rfl⟩
  rw [← hG]
  have HG := hide hG
  clear c1 c2 hl hb0 l1' l2' hG
  go_enter Tryz.func175, Tryz.ntmps175
  go_wp2_with fail
  refine H1.out.mono ?_
  rintro e w1 ⟨rfl, hb1⟩
  have HB1 := hide hb1
  clear hb1 H1
  go_wp2_with fail
  refine (H2.out _).mono ?_
  rintro e w2 ⟨x0, y0, rfl, hb2⟩
  have HB2 := hide (HB1.out.trans (hb2.mono HB1.out.size))
  clear hb2 H2 HB1
  go_wp2_with fail
  refine (R1.out _).mono ?_
  rintro e w3 ⟨m1, a1, l1, rfl, hb3, o1, n1, q1, k1⟩
  have HB3 := hide (HB2.out.trans (hb3.mono HB2.out.size))
  have O1 := hide o1; have N1 := hide n1; have Q1 := hide q1
  obtain ⟨av1, cv1, hvf, _, _⟩ := o1.form
  subst hvf
  clear hb3 HB2 R1 o1 n1 q1
  have hf1 := fun w => rfield_limbs m1 (.slice av1 l1.length cv1) w
  go_wp2_with fail
  clear hf1
  refine (R2.out _).mono ?_
  rintro e w4 ⟨m2, a2, l2, rfl, hb4, o2, n2, q2, k2⟩
  have HB4 := hide (HB3.out.trans (hb4.mono HB3.out.size))
  have O1' := hide (O1.out.keep hb4)
  have O2 := hide o2; have N2 := hide n2; have Q2 := hide q2
  obtain ⟨av2, cv2, hvf, _, _⟩ := o2.form
  subst hvf
  clear hb4 HB3 R2 o2 n2 q2 O1
  have hf2 := fun w => rfield_limbs m2 (.slice av2 l2.length cv2) w
  have HG2 := hide (show Nat.gcd (lv 1000000 l1) (lv 1000000 l2) = G by
    rw [HG.out, ← Q1.out, ← Q2.out, valS_abs, valS_abs])
  go_wp2_with fail
  clear hf2
  go_loopw [10, 11] (fun p q wr => ∃ (ap : Option Addr) (cp : Nat) (aq : Option Addr) (cq : Nat) (x y : List Nat), p = .slice ap x.length cp ∧ q = .slice aq y.length cq ∧ x.length ≤ 60 ∧ y.length ≤ 60 ∧ Hid (LimbAt wr.heap.size wr (.slice ap x.length cp) x ∧ LimbAt wr.heap.size wr (.slice aq y.length cq) y ∧ Norm 1000000 x ∧ Norm 1000000 y ∧ Nat.gcd (lv 1000000 x) (lv 1000000 y) = G ∧ Below w.heap.size w wr)) (fun _ q wr => lv 1000000 (limbsAt wr q))
  case atStart => exact ⟨av1, cv1, av2, cv2, l1, l2, rfl, rfl, k1, k2, LimbAt.of_own O1'.out, LimbAt.of_own O2.out, N1.out, N2.out, HG2.out, HB4.out⟩
  case round =>
    clear k1 k2
    obtain ⟨ap, cp, aq, cq, x, y, rfl, rfl, hx, hy, hin⟩ := hrel
    have I1 := hide hin.out.1; have I2 := hide hin.out.2.1; have N3 := hide hin.out.2.2.1; have N4 := hide hin.out.2.2.2.1; have GG := hide hin.out.2.2.2.2.1; have HBW := hide hin.out.2.2.2.2.2
    clear hin
    by_cases hy0 : y = []
    · subst hy0
      have hz : valS false (lv 1000000 x) = (G : Int) := by
        have := GG.out
        rw [lv_nil, Nat.gcd_zero_right] at this
        rw [this]
        rfl
      have HR := hide (rwrite_any false (.slice ap x.length cp) x wr.heap.size wr I1.out (Nat.le_refl _) N3.out (by omega))
      rw [hz] at HR
      clear hz
      go_wp2_with fail
      refine HR.out.mono ?_
      rintro e w5 ⟨rfl, hb5⟩
      have HB5 := hide (HBW.out.trans (hb5.mono HBW.out.size))
      clear hb5 HR
      go_wp2_with fail
      refine bodyPost_ret (results_tmp2 rfl _ _ _) rfl ?_
      exact ⟨rfl, HB5.out⟩
    · have hyl : 0 < (y.length : Int) := by
        have := List.length_pos_iff.2 hy0
        omega
      have HD := hide (rdivide_any (.slice ap x.length cp) (.slice aq y.length cq) x y wr.heap.size wr I1.out I2.out (Nat.le_refl _) N3.out.lt N4.out hy0 (by omega) (by omega))
      have hyp : 0 < lv 1000000 y := by
        rcases Nat.eq_zero_or_pos (lv 1000000 y) with h | h
        · exact absurd ((N4.out.zero (by omega)).1 h) hy0
        · exact h
      have HYP := hide hyp
      clear hy0 hyp
      go_wp2_with fail
      refine HD.out.mono ?_
      rintro e w5 ⟨vq, vr, q, r, rfl, hb5, oq, or_, nq, nr, eq, er, lq⟩
      obtain ⟨ar, cr, hvf, _, _⟩ := or_.form
      subst hvf
      have hrlt : lv 1000000 r < lv 1000000 y := by rw [er]; exact Nat.mod_lt _ HYP.out
      have hrl : r.length ≤ 60 := by
        have := norm_le_b (by omega) nr N4.out.lt (Nat.le_of_lt hrlt)
        omega
      have HB5 := hide (HBW.out.trans (hb5.mono HBW.out.size))
      have J2 := hide ((I2.out.below hb5 (Nat.le_refl _)).mono hb5.size)
      have HE := hide (show Nat.gcd (lv 1000000 y) (lv 1000000 r) = G by rw [er, ← GG.out, Nat.gcd_comm (lv 1000000 y), ← Nat.gcd_rec, Nat.gcd_comm])
      have OR := hide (LimbAt.of_own or_); have NR := hide nr; have HLT := hide hrlt
      clear hb5 oq or_ nq nr eq er lq HD hrlt
      go_wp2_with fail
      go_roundw
      case rel => exact ⟨aq, cq, ar, cr, y, r, rfl, rfl, hy, hrl, J2.out, OR.out, N4.out, NR.out, HE.out, HB5.out⟩
      case measure =>
        rw [limbsAt_eq OR.out, limbsAt_eq I2.out]
        exact HLT.out
end Go.Proofs.YtklgpilgalfckaaGreatDoor
namespace Go.KI
open Go
theorem cut2 (l : List UInt8) : digs (numT l) = ahead 47 (digs l) ∧ (47 ∈ l ↔ 47 ∈ digs l) ∧ denT l = behind 47 (digs l) ∧ ((numT l).head? = some 45 ↔ isNeg l = true) := by
  cases l with
  | nil => exact ⟨rfl, Iff.rfl, rfl, by decide⟩
  | cons c r =>
    by_cases h : c = 45
    · subst h
      have e1 : digs (45 :: r) = r := rfl
      have e2 : numT (45 :: r) = 45 :: numT r := rfl
      have e3 : denT (45 :: r) = denT r := rfl
      rw [e1, e2, e3]
      exact ⟨rfl, by simp, rfl, by simp [isNeg]⟩
    · have e1 : digs (c :: r) = c :: r := by simp [digs, h]
      rw [e1]
      by_cases h47 : c = 47
      · subst h47
        exact ⟨rfl, Iff.rfl, rfl, by simp [isNeg, numT]⟩
      · have e2 : numT (c :: r) = c :: numT r := by
          unfold numT
          rw [List.takeWhile_cons, if_pos (by simpa using h47)]
        refine ⟨?_, Iff.rfl, rfl, ?_⟩
        · rw [e2]
          show (if c = 45 then _ else _) = _
          rw [if_neg h, ← e2]
          rfl
        · rw [e2]
          simp [isNeg]
theorem valI_abs (l : List UInt8) : (valI l).natAbs = dv (digs l) := by
  unfold valI
  split <;> simp
theorem chkQ_cut (l nn dd : List UInt8) (h1 : nn = ahead 47 (digs l)) (h2 : dd = if 47 ∈ digs l then behind 47 (digs l) else []) :
    chkQ l = if ¬ numeral nn ∨ (47 ∈ digs l ∧ (¬ numeral dd ∨ dd = [48] ∨ dd = [49])) ∨ (isNeg l = true ∧ nn = [48]) then 11 else if 300 < nn.length ∨ 300 < dd.length then 4 else if 47 ∈ digs l ∧ Nat.gcd (dv nn) (dv dd) ≠ 1 then 11 else 0 := by
  obtain ⟨c1, c2, c3, c4⟩ := cut2 l
  have hcut : cutOK l ↔ ¬ (¬ numeral nn ∨ (47 ∈ digs l ∧ (¬ numeral dd ∨ dd = [48] ∨ dd = [49])) ∨ (isNeg l = true ∧ nn = [48])) := by
    unfold cutOK
    rw [chkI_11, c1, c2, c3, c4, ← h1]
    by_cases hs : 47 ∈ digs l
    · rw [if_pos hs] at h2
      rw [← h2]
      constructor
      · rintro a (b | b | b)
        · exact a (.inl (.inl b))
        · exact a (.inr b)
        · exact a (.inl (.inr b))
      · rintro a ((b | b) | b)
        · exact a (.inl b)
        · exact a (.inr (.inr b))
        · exact a (.inr (.inl b))
    · constructor
      · rintro a (b | b | b)
        · exact a (.inl (.inl b))
        · exact absurd b.1 hs
        · exact a (.inl (.inr b))
      · rintro a ((b | b) | b)
        · exact a (.inl b)
        · exact a (.inr (.inr b))
        · exact absurd b.1 hs
  by_cases hc : cutOK l
  · rw [if_neg (hcut.1 hc), chkQ_form hc, c1, ← h1, valI_abs, c1, ← h1]
    unfold denS
    by_cases hs : 47 ∈ digs l
    · have hs2 := c2.2 hs
      rw [if_pos hs] at h2
      simp only [hs, hs2, if_true, true_and, c3, ← h2]
    · have hs2 : ¬ 47 ∈ l := fun e => hs (c2.1 e)
      rw [if_neg hs] at h2
      simp [hs, hs2, h2]
  · rw [if_pos (Decidable.not_not.1 fun e => hc (hcut.2 e))]
    unfold chkQ
    rw [if_pos (Decidable.not_not.1 hc)]
theorem numeral_ok {l : List UInt8} (h : numeral l) (hl : l.length ≤ 300) : chkI l = 0 ∧ valI l = ((dv l : Nat) : Int) := by
  have e := numeral_dec h
  obtain ⟨u, hu⟩ : ∃ u, u = dv l := ⟨_, rfl⟩
  rw [← hu] at e ⊢
  rw [e] at hl ⊢
  rw [← Lib.itoa_nonneg]
  exact ⟨chk_fits (fits_nat.2 hl), val_itoa _⟩
end Go.KI
namespace Go.Proofs.YtklgpilgalfckaaGreatDoor
open Go.RowKit Go.KP Go.KI Go.Shelf
attribute [local go_sem] Oper.semAt_some

theorem rGcd_num (s t : ByteArray) (h1 : numeral s.data.toList) (h2 : numeral t.data.toList) (l1 : s.size ≤ 300) (l2 : t.size ≤ 300) (B : Nat) (w : World) (hB : B ≤ w.heap.size) (hT : P10 B w) :
    Calls Tryz.prog 175 #[.string s, .string t] w (Ret w (.tuple #[.string (strB (Lib.decDigits (Nat.gcd (dv s.data.toList) (dv t.data.toList)))), .int .i64 0])) := by
  obtain ⟨c1, v1⟩ := numeral_ok h1 (by rw [bytes_len]; exact l1)
  obtain ⟨c2, v2⟩ := numeral_ok h2 (by rw [bytes_len]; exact l2)
  have e : pairV (Lib.itoa ((Nat.gcd (valI s.data.toList).natAbs (valI t.data.toList).natAbs : Nat) : Int)) 0 = .tuple #[.string (strB (Lib.decDigits (Nat.gcd (dv s.data.toList) (dv t.data.toList)))), .int .i64 0] := by
    rw [v1, v2, Int.natAbs_natCast, Int.natAbs_natCast, Lib.itoa_nonneg]
  rw [← e]
  by_cases hl : s.size ≤ 17 ∧ t.size ≤ 17
  · exact rGcd_small s t B w c1 c2 hl.1 hl.2 hB hT
  · exact rGcd_long s t w c1 c2 hl
theorem list_test {s : ByteArray} {l m : List UInt8} (h : s.data.toList = l) : (s.toList == m) = decide (l = m) := by
  by_cases e : l = m
  · rw [(lit_eq h).1 e, decide_eq_true e]
  · rw [(lit_eq h).2 e, decide_eq_false e]
theorem r2Check_big (s : ByteArray) (hs : s.size ≤ 9223372036854775807) (B : Nat) (w : World) (hB : B ≤ w.heap.size) (hT : PQ B w) :
    Calls Tryz.prog 121 #[.string s] w (Ret w (.int .i64 (chkQ s.data.toList))) := by
  have HT := hide hT
  clear hT
  obtain ⟨V, hV⟩ : ∃ V, V = chkQ s.data.toList := ⟨_, rfl⟩
  rw [← hV]
  have HS := hide (fun w => r2split_any s hs w)
  obtain ⟨nn, hnn⟩ : ∃ x, x = KI.ahead 47 (digs s.data.toList) := ⟨_, rfl⟩
  obtain ⟨dd, hdd⟩ : ∃ x, x = (if 47 ∈ digs s.data.toList then KI.behind 47 (digs s.data.toList) else []) := ⟨_, rfl⟩
  rw [chkQ_cut _ nn dd hnn hdd] at hV
  have hld : (digs s.data.toList).length ≤ s.size := by
    rw [digs_drop, List.length_drop, bytes_len]
    omega
  have hln : nn.length ≤ 9223372036854775807 := by
    have : nn.length ≤ (digs s.data.toList).length := by
      rw [hnn]
      exact List.Sublist.length_le (List.takeWhile_sublist _)
    omega
  have hlm : dd.length ≤ 9223372036854775807 := by
    have : dd.length ≤ (digs s.data.toList).length := by
      rw [hdd]
      split
      · exact List.Sublist.length_le ((List.drop_sublist _ _).trans (List.dropWhile_sublist _))
      · exact Nat.zero_le _
    omega
  have hd0 : decide (47 ∈ digs s.data.toList) = false → dd = [] := by
    intro h
    rw [hdd, if_neg (by simpa using h)]
  obtain ⟨neg, hneg⟩ : ∃ x, x = isNeg s.data.toList := ⟨_, rfl⟩
  obtain ⟨sl, hsl⟩ : ∃ x, x = decide (47 ∈ digs s.data.toList) := ⟨_, rfl⟩
  unfold splitR at HS
  rw [← hnn, ← hdd, ← hneg, ← hsl] at HS
  rw [← hsl] at hd0
  have hsl2 : 47 ∈ digs s.data.toList ↔ sl = true := by rw [hsl, decide_eq_true_iff]
  simp only [hsl2, ← hneg] at hV
  clear hsl hsl2 hneg hdd hnn hld hs
  obtain ⟨NN, hNN⟩ : ∃ x, x = strB nn := ⟨_, rfl⟩
  obtain ⟨DD, hDD⟩ : ∃ x, x = strB dd := ⟨_, rfl⟩
  have e1 : NN.data.toList = nn := by rw [hNN, strB_list]
  have e2 : DD.data.toList = dd := by rw [hDD, strB_list]
  rw [← hNN, ← hDD] at HS
  have hNs : NN.size = nn.length := by rw [← e1, bytes_len]
  have hDs : DD.size = dd.length := by rw [← e2, bytes_len]
  clear hNN hDD
  rw [← e1] at hV
  rw [← e2] at hV hd0
  rw [bytes_len, bytes_len] at hV
  have hDz : sl = false → DD.size = 0 := by
    intro h
    have := hd0 h
    rw [← bytes_len, this]
    rfl
  have HD1 := hide (fun b hb w => r2digits_any NN (by omega) b hb w)
  have HD2 := hide (fun b hb w => r2digits_any DD (by omega) b hb w)
  have tn := list_test (s := NN) (m := [48]) rfl
  have td := list_test (s := DD) (m := [48]) rfl
  have tu := list_test (s := DD) (m := [49]) rfl
  clear hNs hDs hln hlm e1 e2 hd0
  by_cases n1 : numeral NN.data.toList
  rotate_left
  · rw [if_pos (.inl n1)] at hV
    subst hV
    have HE1 := hide (HD1.out false (by simpa using n1))
    clear n1 hDz tn td tu HD1 HD2
    go_enter Tryz.func121, Tryz.ntmps121
    go_wp2_with fail
    refine (HS.out _).mono ?_
    rintro e w1 ⟨rfl, hb1⟩
    have HB1 := hide hb1
    clear hb1
    go_wp2_with fail
    refine (HE1.out _).mono ?_
    rintro e w2 ⟨rfl, hb2⟩
    have HB2 := hide (HB1.out.trans (hb2.mono HB1.out.size))
    clear hb2
    go_wp2_with fail
    go_ret
    exact ⟨rfl, HB2.out⟩
  have HE1 := hide (HD1.out true (by simpa using n1))
  clear HD1
  cases sl
  · have hz := hDz rfl
    have z1 : (300 < DD.size) = False := eq_false (by omega)
    have z1i : ((300 : Int) < (DD.size : Int)) = False := eq_false (by omega)
    by_cases hz : neg = true ∧ NN.data.toList = [48]
    · rw [if_pos (.inr (.inr hz))] at hV
      subst hV
      obtain ⟨rfl, h48⟩ := hz
      rw [decide_eq_true h48] at tn
      clear n1 hDz td tu HD2 h48 hz
      go_enter Tryz.func121, Tryz.ntmps121
      go_wp2_with fail
      refine (HS.out _).mono ?_
      rintro e w1 ⟨rfl, hb1⟩
      have HB1 := hide hb1
      clear hb1
      go_wp2_with fail
      refine (HE1.out _).mono ?_
      rintro e w2 ⟨rfl, hb2⟩
      have HB2 := hide (HB1.out.trans (hb2.mono HB1.out.size))
      clear hb2
      go_wp2_with fail
      go_ret
      exact ⟨rfl, HB2.out⟩
    rw [if_neg (by rintro (a | a | a); · exact a n1
                   · exact Bool.noConfusion a.1
                   · exact hz a)] at hV
    have hneg : neg = false ∨ (neg = true ∧ (NN.toList == [48]) = false) := by
      cases neg
      · exact .inl rfl
      · refine .inr ⟨rfl, ?_⟩
        rw [tn, decide_eq_false_iff_not]
        exact fun e => hz ⟨rfl, e⟩
    clear tn
    by_cases g1 : 300 < NN.size
    · rw [if_pos (.inl g1)] at hV
      subst hV
      have g1i : (300 : Int) < (NN.size : Int) := by omega
      clear n1 hDz td tu HD2 hz z1 z1i
      rcases hneg with rfl | ⟨rfl, tn⟩
      all_goals
        go_enter Tryz.func121, Tryz.ntmps121
        go_wp2_with fail
        refine (HS.out _).mono ?_
        rintro e w1 ⟨rfl, hb1⟩
        have HB1 := hide hb1
        clear hb1
        go_wp2_with fail
        refine (HE1.out _).mono ?_
        rintro e w2 ⟨rfl, hb2⟩
        have HB2 := hide (HB1.out.trans (hb2.mono HB1.out.size))
        clear hb2
        go_wp2_with fail
        go_ret
        exact ⟨rfl, HB2.out⟩
    · rw [if_neg (by omega), if_neg (by rintro ⟨a, _⟩; cases a)] at hV
      subst hV
      have g1i : ((300 : Int) < (NN.size : Int)) = False := eq_false (by omega)
      have g1n : (300 < NN.size) = False := eq_false g1
      clear n1 hDz td tu HD2 hz g1
      rcases hneg with rfl | ⟨rfl, tn⟩
      all_goals
        go_enter Tryz.func121, Tryz.ntmps121
        go_wp2_with fail
        refine (HS.out _).mono ?_
        rintro e w1 ⟨rfl, hb1⟩
        have HB1 := hide hb1
        clear hb1
        go_wp2_with fail
        refine (HE1.out _).mono ?_
        rintro e w2 ⟨rfl, hb2⟩
        have HB2 := hide (HB1.out.trans (hb2.mono HB1.out.size))
        clear hb2
        go_wp2_with fail
        go_ret
        exact ⟨rfl, HB2.out⟩
  clear hDz
  by_cases n2 : numeral DD.data.toList
  rotate_left
  · rw [if_pos (.inr (.inl ⟨rfl, .inl n2⟩))] at hV
    subst hV
    have HE2 := hide (HD2.out false (by simpa using n2))
    clear n1 n2 tn td tu HD2
    go_enter Tryz.func121, Tryz.ntmps121
    go_wp2_with fail
    refine (HS.out _).mono ?_
    rintro e w1 ⟨rfl, hb1⟩
    have HB1 := hide hb1
    clear hb1
    go_wp2_with fail
    refine (HE1.out _).mono ?_
    rintro e w2 ⟨rfl, hb2⟩
    have HB2 := hide (HB1.out.trans (hb2.mono HB1.out.size))
    clear hb2
    go_wp2_with fail
    refine (HE2.out _).mono ?_
    rintro e w3 ⟨rfl, hb3⟩
    have HB3 := hide (HB2.out.trans (hb3.mono HB2.out.size))
    clear hb3
    go_wp2_with fail
    go_ret
    exact ⟨rfl, HB3.out⟩
  have HE2 := hide (HD2.out true (by simpa using n2))
  clear HD2
  by_cases d0 : DD.data.toList = [48]
  · rw [if_pos (.inr (.inl ⟨rfl, .inr (.inl d0)⟩))] at hV
    subst hV
    rw [decide_eq_true d0] at td
    clear n1 n2 tn tu d0
    go_enter Tryz.func121, Tryz.ntmps121
    go_wp2_with fail
    refine (HS.out _).mono ?_
    rintro e w1 ⟨rfl, hb1⟩
    have HB1 := hide hb1
    clear hb1
    go_wp2_with fail
    refine (HE1.out _).mono ?_
    rintro e w2 ⟨rfl, hb2⟩
    have HB2 := hide (HB1.out.trans (hb2.mono HB1.out.size))
    clear hb2
    go_wp2_with fail
    refine (HE2.out _).mono ?_
    rintro e w3 ⟨rfl, hb3⟩
    have HB3 := hide (HB2.out.trans (hb3.mono HB2.out.size))
    clear hb3
    go_wp2_with fail
    go_ret
    exact ⟨rfl, HB3.out⟩
  rw [decide_eq_false d0] at td
  by_cases d1 : DD.data.toList = [49]
  · rw [if_pos (.inr (.inl ⟨rfl, .inr (.inr d1)⟩))] at hV
    subst hV
    rw [decide_eq_true d1] at tu
    clear n1 n2 tn d0 d1
    go_enter Tryz.func121, Tryz.ntmps121
    go_wp2_with fail
    refine (HS.out _).mono ?_
    rintro e w1 ⟨rfl, hb1⟩
    have HB1 := hide hb1
    clear hb1
    go_wp2_with fail
    refine (HE1.out _).mono ?_
    rintro e w2 ⟨rfl, hb2⟩
    have HB2 := hide (HB1.out.trans (hb2.mono HB1.out.size))
    clear hb2
    go_wp2_with fail
    refine (HE2.out _).mono ?_
    rintro e w3 ⟨rfl, hb3⟩
    have HB3 := hide (HB2.out.trans (hb3.mono HB2.out.size))
    clear hb3
    go_wp2_with fail
    go_ret
    exact ⟨rfl, HB3.out⟩
  rw [decide_eq_false d1] at tu
  by_cases hz : neg = true ∧ NN.data.toList = [48]
  · rw [if_pos (.inr (.inr hz))] at hV
    subst hV
    obtain ⟨rfl, h48⟩ := hz
    rw [decide_eq_true h48] at tn
    clear n1 n2 h48 d0 d1
    go_enter Tryz.func121, Tryz.ntmps121
    go_wp2_with fail
    refine (HS.out _).mono ?_
    rintro e w1 ⟨rfl, hb1⟩
    have HB1 := hide hb1
    clear hb1
    go_wp2_with fail
    refine (HE1.out _).mono ?_
    rintro e w2 ⟨rfl, hb2⟩
    have HB2 := hide (HB1.out.trans (hb2.mono HB1.out.size))
    clear hb2
    go_wp2_with fail
    refine (HE2.out _).mono ?_
    rintro e w3 ⟨rfl, hb3⟩
    have HB3 := hide (HB2.out.trans (hb3.mono HB2.out.size))
    clear hb3
    go_wp2_with fail
    go_ret
    exact ⟨rfl, HB3.out⟩
  rw [if_neg (by rintro (a | a | a); · exact a n1
                 · rcases a.2 with b | b | b
                   · exact b n2
                   · exact d0 b
                   · exact d1 b
                 · exact hz a)] at hV
  have hneg : neg = false ∨ (neg = true ∧ (NN.toList == [48]) = false) := by
    cases neg
    · exact .inl rfl
    · refine .inr ⟨rfl, ?_⟩
      rw [tn, decide_eq_false_iff_not]
      exact fun e => hz ⟨rfl, e⟩
  clear tn hz d0 d1
  by_cases g1 : 300 < NN.size
  · rw [if_pos (.inl g1)] at hV
    subst hV
    have g1i : (300 : Int) < (NN.size : Int) := by omega
    clear n1 n2
    rcases hneg with rfl | ⟨rfl, tn⟩
    all_goals
      go_enter Tryz.func121, Tryz.ntmps121
      go_wp2_with fail
      refine (HS.out _).mono ?_
      rintro e w1 ⟨rfl, hb1⟩
      have HB1 := hide hb1
      clear hb1
      go_wp2_with fail
      refine (HE1.out _).mono ?_
      rintro e w2 ⟨rfl, hb2⟩
      have HB2 := hide (HB1.out.trans (hb2.mono HB1.out.size))
      clear hb2
      go_wp2_with fail
      refine (HE2.out _).mono ?_
      rintro e w3 ⟨rfl, hb3⟩
      have HB3 := hide (HB2.out.trans (hb3.mono HB2.out.size))
      clear hb3
      go_wp2_with fail
      go_ret
      exact ⟨rfl, HB3.out⟩
  have g1i : ((300 : Int) < (NN.size : Int)) = False := eq_false (by omega)
  have g1n : (300 < NN.size) = False := eq_false g1
  by_cases g2 : 300 < DD.size
  · rw [if_pos (.inr g2)] at hV
    subst hV
    have g2i : (300 : Int) < (DD.size : Int) := by omega
    clear n1 n2 g1
    rcases hneg with rfl | ⟨rfl, tn⟩
    all_goals
      go_enter Tryz.func121, Tryz.ntmps121
      go_wp2_with fail
      refine (HS.out _).mono ?_
      rintro e w1 ⟨rfl, hb1⟩
      have HB1 := hide hb1
      clear hb1
      go_wp2_with fail
      refine (HE1.out _).mono ?_
      rintro e w2 ⟨rfl, hb2⟩
      have HB2 := hide (HB1.out.trans (hb2.mono HB1.out.size))
      clear hb2
      go_wp2_with fail
      refine (HE2.out _).mono ?_
      rintro e w3 ⟨rfl, hb3⟩
      have HB3 := hide (HB2.out.trans (hb3.mono HB2.out.size))
      clear hb3
      go_wp2_with fail
      go_ret
      exact ⟨rfl, HB3.out⟩
  have g2i : ((300 : Int) < (DD.size : Int)) = False := eq_false (by omega)
  have g2n : (300 < DD.size) = False := eq_false g2
  rw [if_neg (by omega)] at hV
  by_cases k9 : NN.size ≤ 9 ∧ DD.size ≤ 9
  · obtain ⟨k1, k2⟩ := k9
    have k1i : (NN.size : Int) ≤ 9 := by omega
    have k2i : (DD.size : Int) ≤ 9 := by omega
    have a1 : ∀ c ∈ NN.data.toList, isDg c = true := List.all_eq_true.1 n1.2.1
    have a2 : ∀ c ∈ DD.data.toList, isDg c = true := List.all_eq_true.1 n2.2.1
    have HM1 := hide (fun w => r2small_any NN a1 (by omega) w)
    have HM2 := hide (fun w => r2small_any DD a2 (by omega) w)
    have l1 : dv NN.data.toList < 10 ^ 9 := Nat.lt_of_lt_of_le (dv_lt _ a1) (Nat.pow_le_pow_right (by omega) (by rw [bytes_len]; omega))
    have l2 : dv DD.data.toList < 10 ^ 9 := Nat.lt_of_lt_of_le (dv_lt _ a2) (Nat.pow_le_pow_right (by omega) (by rw [bytes_len]; omega))
    have HG := hide (fun w => r2gcd_any (dv NN.data.toList) (dv DD.data.toList) (by omega) (by omega) w)
    obtain ⟨x, hx⟩ : ∃ x, x = dv NN.data.toList := ⟨_, rfl⟩
    obtain ⟨y, hy⟩ : ∃ x, x = dv DD.data.toList := ⟨_, rfl⟩
    obtain ⟨g, hg⟩ : ∃ g, g = Nat.gcd x y := ⟨_, rfl⟩
    rw [← hx] at HM1 HG hV
    rw [← hy] at HM2 HG hV
    rw [← hg] at HG
    simp only [← hg] at hV
    have hw : (g = 1 ∧ V = 0) ∨ (((g : Int) == 1) = false ∧ V = 11) := by
      by_cases h : g = 1
      · exact .inl ⟨h, by rw [hV, if_neg]; exact fun e => e.2 h⟩
      · refine .inr ⟨?_, by rw [hV, if_pos ⟨trivial, h⟩]⟩
        simp only [beq_eq_false_iff_ne, ne_eq]
        omega
    clear hV hg hx hy l1 l2 a1 a2 n1 n2 g1 g2 k1 k2
    rcases hw with ⟨rfl, rfl⟩ | ⟨hg1, rfl⟩ <;> rcases hneg with rfl | ⟨rfl, tn⟩
    all_goals
      go_enter Tryz.func121, Tryz.ntmps121
      go_wp2_with fail
      refine (HS.out _).mono ?_
      rintro e w1 ⟨rfl, hb1⟩
      have HB1 := hide hb1
      clear hb1
      go_wp2_with fail
      refine (HE1.out _).mono ?_
      rintro e w2 ⟨rfl, hb2⟩
      have HB2 := hide (HB1.out.trans (hb2.mono HB1.out.size))
      clear hb2
      go_wp2_with fail
      refine (HE2.out _).mono ?_
      rintro e w3 ⟨rfl, hb3⟩
      have HB3 := hide (HB2.out.trans (hb3.mono HB2.out.size))
      clear hb3
      go_wp2_with fail
      refine (HM1.out _).mono ?_
      rintro e w4 ⟨rfl, hb4⟩
      have HB4 := hide (HB3.out.trans (hb4.mono HB3.out.size))
      clear hb4
      go_wp2_with fail
      refine (HM2.out _).mono ?_
      rintro e w5 ⟨rfl, hb5⟩
      have HB5 := hide (HB4.out.trans (hb5.mono HB4.out.size))
      clear hb5
      go_wp2_with fail
      refine (HG.out _).mono ?_
      rintro e w6 ⟨rfl, hb6⟩
      have HB6 := hide (HB5.out.trans (hb6.mono HB5.out.size))
      clear hb6
      go_wp2_with fail
      go_ret
      exact ⟨rfl, HB6.out⟩
  · have HG := hide (fun w hB hT => rGcd_num NN DD n1 n2 (by omega) (by omega) B w hB hT)
    obtain ⟨x, hx⟩ : ∃ x, x = dv NN.data.toList := ⟨_, rfl⟩
    obtain ⟨y, hy⟩ : ∃ x, x = dv DD.data.toList := ⟨_, rfl⟩
    obtain ⟨g, hg⟩ : ∃ g, g = Nat.gcd x y := ⟨_, rfl⟩
    rw [← hx, ← hy] at HG hV
    rw [← hg] at HG
    simp only [← hg] at hV
    have hko : ((NN.size : Int) ≤ 9) = False ∨ ((NN.size : Int) ≤ 9 ∧ ((DD.size : Int) ≤ 9) = False) := by
      by_cases a : NN.size ≤ 9
      · exact .inr ⟨by omega, eq_false (by omega)⟩
      · exact .inl (eq_false (by omega))
    obtain ⟨G, hG⟩ : ∃ G, G = strB (Lib.decDigits g) := ⟨_, rfl⟩
    have hGl : G.data.toList = Lib.decDigits g := by rw [hG, strB_list]
    have hw : ((G.toList == [49]) = true ∧ V = 0) ∨ ((G.toList == [49]) = false ∧ V = 11) := by
      rw [list_test hGl]
      by_cases h : g = 1
      · exact .inl ⟨by rw [h, one_dec]; rfl, by rw [hV, if_neg]; exact fun e => e.2 h⟩
      · refine .inr ⟨?_, by rw [hV, if_pos ⟨trivial, h⟩]⟩
        rw [decide_eq_false_iff_not]
        intro e
        rw [← one_dec] at e
        exact h (dec_inj e)
    rw [← hG] at HG
    clear hV hg hx hy hG hGl n1 n2 g1 g2 k9
    rcases hko with k1i | ⟨k1i, k2i⟩ <;> rcases hw with ⟨hg1, rfl⟩ | ⟨hg1, rfl⟩ <;> rcases hneg with rfl | ⟨rfl, tn⟩
    all_goals
      go_enter Tryz.func121, Tryz.ntmps121
      go_wp2_with fail
      refine (HS.out _).mono ?_
      rintro e w1 ⟨rfl, hb1⟩
      have HB1 := hide hb1
      clear hb1
      go_wp2_with fail
      refine (HE1.out _).mono ?_
      rintro e w2 ⟨rfl, hb2⟩
      have HB2 := hide (HB1.out.trans (hb2.mono HB1.out.size))
      clear hb2
      go_wp2_with fail
      refine (HE2.out _).mono ?_
      rintro e w3 ⟨rfl, hb3⟩
      have HB3 := hide (HB2.out.trans (hb3.mono HB2.out.size))
      clear hb3
      go_wp2_with fail
      refine (HG.out _ (Nat.le_trans hB HB3.out.size) (HT.out.p10.on HB3.out hB)).mono ?_
      rintro e w4 ⟨rfl, hb4⟩
      have HB4 := hide (HB3.out.trans (hb4.mono HB3.out.size))
      clear hb4
      go_wp2_with fail
      go_ret
      exact ⟨rfl, HB4.out⟩
theorem r2Check_any (s : ByteArray) (hs : s.size ≤ 1000000) (B : Nat) (w : World) (hB : B ≤ w.heap.size) (hT : PQ B w) :
    Calls Tryz.prog 121 #[.string s] w (Ret w (.int .i64 (chkQ s.data.toList))) := r2Check_big s (by omega) B w hB hT
open Go.RowKit Go.KP Go.KI Go.Shelf
attribute [local go_sem] Oper.semAt_some

theorem r9Check_any (a b c : ByteArray) (ha : a.size ≤ 1000000) (hb : b.size ≤ 1000000) (hc : c.size ≤ 1000000) (B : Nat) (w : World) (hB : B ≤ w.heap.size) (hT : PQ B w) :
    Calls Tryz.prog 68 #[spotV a b c] w (Ret w (.int .i64 (chk3 a.data.toList b.data.toList c.data.toList))) := by
  have HT := hide hT
  have H1 := hide (fun w hB hT => r2Check_any a ha B w hB hT)
  have H2 := hide (fun w hB hT => r2Check_any b hb B w hB hT)
  have H3 := hide (fun w hB hT => r2Check_any c hc B w hB hT)
  obtain ⟨V, hV⟩ : ∃ V, V = chk3 a.data.toList b.data.toList c.data.toList := ⟨_, rfl⟩
  rw [← hV]
  unfold chk3 at hV
  obtain ⟨x, hx⟩ : ∃ x, x = chkQ a.data.toList := ⟨_, rfl⟩
  obtain ⟨y, hy⟩ : ∃ x, x = chkQ b.data.toList := ⟨_, rfl⟩
  obtain ⟨z, hz⟩ : ∃ x, x = chkQ c.data.toList := ⟨_, rfl⟩
  rw [← hx] at H1 hV
  rw [← hy] at H2 hV
  rw [← hz] at H3 hV
  clear hx hy hz ha hb hc hT
  have X0 := hide (heap1 w (spotO a b c))
  have hcs : ((x != 0) = true ∧ V = x) ∨ (x = 0 ∧ (y != 0) = true ∧ V = y) ∨ (x = 0 ∧ y = 0 ∧ V = z) := by
    by_cases h : x = 0
    · rw [if_neg (by simpa using h)] at hV
      by_cases h2 : y = 0
      · rw [if_neg (by simpa using h2)] at hV
        exact .inr (.inr ⟨h, h2, hV⟩)
      · rw [if_pos h2] at hV
        exact .inr (.inl ⟨h, by simpa using h2, hV⟩)
    · rw [if_pos h] at hV
      exact .inl ⟨by simpa using h, hV⟩
  clear hV
  rcases hcs with ⟨hx, rfl⟩ | ⟨rfl, hy, rfl⟩ | ⟨rfl, rfl, rfl⟩
  all_goals
    go_enter Tryz.func68, Tryz.ntmps68
    go_wp2_with fail
    refine (H1.out _ (Nat.le_trans hB X0.out.2.2.size) (HT.out.on X0.out.2.2 hB)).mono ?_
    rintro e w1 ⟨rfl, hb1⟩
    have A1 := hide (below_blk hb1 X0.out.1 (lt_blk X0.out.1))
    have HB1 := hide (X0.out.2.2.trans (hb1.mono X0.out.2.2.size))
    have a1 := cell_blk A1.out 1
    have al := lt_blk A1.out
    clear hb1
    go_wp2_with fail
    first
    | (go_ret; exact ⟨rfl, HB1.out⟩)
    | skip
  · refine (H2.out _ (Nat.le_trans hB HB1.out.size) (HT.out.on HB1.out hB)).mono ?_
    rintro e w2 ⟨rfl, hb2⟩
    have HB2 := hide (HB1.out.trans (hb2.mono HB1.out.size))
    clear hb2
    go_wp2_with fail
    go_ret
    exact ⟨rfl, HB2.out⟩
  · refine (H2.out _ (Nat.le_trans hB HB1.out.size) (HT.out.on HB1.out hB)).mono ?_
    rintro e w2 ⟨rfl, hb2⟩
    have A2 := hide (below_blk hb2 A1.out (lt_blk A1.out))
    have HB2 := hide (HB1.out.trans (hb2.mono HB1.out.size))
    clear hb2 a1 al
    have a2 := cell_blk A2.out 2
    have al := lt_blk A2.out
    go_wp2_with fail
    refine (H3.out _ (Nat.le_trans hB HB2.out.size) (HT.out.on HB2.out hB)).mono ?_
    rintro e w3 ⟨rfl, hb3⟩
    have HB3 := hide (HB2.out.trans (hb3.mono HB2.out.size))
    clear hb3
    go_wp2_with fail
    go_ret
    exact ⟨rfl, HB3.out⟩
structure S3 where
  x : ByteArray
  y : ByteArray
  z : ByteArray
theorem txt_rat {s : ByteArray} {p : Nat} (h : chkQ s.data.toList = 0) (hs : s.size ≤ p) (hp : 1 ≤ p) : sz p (valQ s.data.toList) ∧ s = T (valQ s.data.toList) := by
  refine ⟨chkQ_sz h (by rw [bytes_len]; exact hs) hp, T_of (chkQ_ok h).1⟩
theorem vec_of {V : S3} {p : Nat} (hp : 1 ≤ p) (h1 : V.x.size ≤ p) (h2 : V.y.size ≤ p) (h3 : V.z.size ≤ p) (h : chk3 V.x.data.toList V.y.data.toList V.z.data.toList = 0) : ∃ A : V3, szV p A ∧ V = ⟨T A.x, T A.y, T A.z⟩ := by
  obtain ⟨c1, c2, c3⟩ := chk3_zero.1 h
  obtain ⟨s1, e1⟩ := txt_rat c1 h1 hp
  obtain ⟨s2, e2⟩ := txt_rat c2 h2 hp
  obtain ⟨s3, e3⟩ := txt_rat c3 h3 hp
  refine ⟨⟨_, _, _⟩, ⟨s1, s2, s3⟩, ?_⟩
  cases V
  simp only [S3.mk.injEq]
  exact ⟨e1, e2, e3⟩
open Go.RowKit Go.KP Go.KI Go.Shelf
attribute [local go_sem] Oper.semAt_some

abbrev s3V (a : S3) : Value := spotV a.x a.y a.z
abbrev s3O (a : S3) : Obj := spotO a.x a.y a.z
abbrev memTV (k f o : Int) (a b : S3) (wd dp : Int) : Value := .agg #[.int .i64 k, .int .i64 f, .int .i64 o, .string a.x, .string a.y, .string a.z, .string b.x, .string b.y, .string b.z, .int .i64 wd, .int .i64 dp]
abbrev memTO (k f o : Int) (a b : S3) (wd dp : Int) : Obj := .cells #[.int .i64 k, .int .i64 f, .int .i64 o, .string a.x, .string a.y, .string a.z, .string b.x, .string b.y, .string b.z, .int .i64 wd, .int .i64 dp] 32
def chkS (a : S3) : Int := chk3 a.x.data.toList a.y.data.toList a.z.data.toList
def tiny3 (a : S3) : Prop := a.x.size ≤ 30 ∧ a.y.size ≤ 30 ∧ a.z.size ≤ 30
def memE (k f o : Int) (a b : S3) (wd dp : Int) : Int :=
  if ¬ (1 ≤ k ∧ k ≤ 12) then 8 else if f < 0 ∨ o < -1 then 19 else if ¬ ((1 ≤ wd ∧ wd ≤ 1000) ∧ (1 ≤ dp ∧ dp ≤ 1000)) then 2
  else if chkS a ≠ 0 then chkS a else if chkS b ≠ 0 then chkS b else if a.x = b.x ∧ a.y = b.y ∧ a.z = b.z then 12 else 0
theorem tiny_vec {a : S3} (h : tiny3 a) (hc : chkS a = 0) : ∃ A : V3, szV 30 A ∧ a = ⟨T A.x, T A.y, T A.z⟩ := vec_of (by omega) h.1 h.2.1 h.2.2 hc
theorem mem_ways (k f o : Int) (a b : S3) (wd dp : Int) (ha : tiny3 a) (hb : tiny3 b) :
    ((k < 1 ∨ (¬ k < 1 ∧ 12 < k)) ∧ memE k f o a b wd dp = 8) ∨
    (¬ k < 1 ∧ ¬ 12 < k ∧ (f < 0 ∨ (¬ f < 0 ∧ o < -1)) ∧ memE k f o a b wd dp = 19) ∨
    (¬ k < 1 ∧ ¬ 12 < k ∧ ¬ f < 0 ∧ ¬ o < -1 ∧ ((wd < 1 ∨ 1000 < wd) ∨ (1 ≤ wd ∧ wd ≤ 1000 ∧ (dp < 1 ∨ 1000 < dp))) ∧ memE k f o a b wd dp = 2) ∨
    (¬ k < 1 ∧ ¬ 12 < k ∧ ¬ f < 0 ∧ ¬ o < -1 ∧ 1 ≤ wd ∧ wd ≤ 1000 ∧ 1 ≤ dp ∧ dp ≤ 1000 ∧
      ((chkS a ≠ 0 ∧ memE k f o a b wd dp = chkS a) ∨ (chkS a = 0 ∧ chkS b ≠ 0 ∧ memE k f o a b wd dp = chkS b) ∨
        (chkS a = 0 ∧ chkS b = 0 ∧ ∃ A B : V3, szV 30 A ∧ szV 30 B ∧ a = ⟨T A.x, T A.y, T A.z⟩ ∧ b = ⟨T B.x, T B.y, T B.z⟩ ∧ memE k f o a b wd dp = if A = B then 12 else 0))) := by
  by_cases h1 : 1 ≤ k ∧ k ≤ 12
  rotate_left
  · exact .inl ⟨by omega, by unfold memE; rw [if_pos h1]⟩
  by_cases h2 : f < 0 ∨ o < -1
  · exact .inr (.inl ⟨by omega, by omega, by omega, by unfold memE; rw [if_neg (by omega), if_pos h2]⟩)
  by_cases h3 : (1 ≤ wd ∧ wd ≤ 1000) ∧ (1 ≤ dp ∧ dp ≤ 1000)
  rotate_left
  · exact .inr (.inr (.inl ⟨by omega, by omega, by omega, by omega, by omega, by unfold memE; rw [if_neg (by omega), if_neg h2, if_pos h3]⟩))
  refine .inr (.inr (.inr ⟨by omega, by omega, by omega, by omega, by omega, by omega, by omega, by omega, ?_⟩))
  have e : memE k f o a b wd dp = if chkS a ≠ 0 then chkS a else if chkS b ≠ 0 then chkS b else if a.x = b.x ∧ a.y = b.y ∧ a.z = b.z then 12 else 0 := by
    unfold memE
    rw [if_neg (by omega), if_neg h2, if_neg (by omega)]
  by_cases c1 : chkS a = 0
  rotate_left
  · exact .inl ⟨c1, by rw [e, if_pos c1]⟩
  by_cases c2 : chkS b = 0
  rotate_left
  · exact .inr (.inl ⟨c1, c2, by rw [e, if_neg (by simpa using c1), if_pos c2]⟩)
  refine .inr (.inr ⟨c1, c2, ?_⟩)
  rw [e, if_neg (by simpa using c1), if_neg (by simpa using c2)]
  obtain ⟨A, sA, rfl⟩ := tiny_vec ha c1
  obtain ⟨B, sB, rfl⟩ := tiny_vec hb c2
  refine ⟨A, B, sA, sB, rfl, rfl, ?_⟩
  by_cases h : A = B
  · subst h
    rw [if_pos ⟨rfl, rfl, rfl⟩, if_pos rfl]
  · rw [if_neg h, if_neg]
    rintro ⟨e1, e2, e3⟩
    exact h (V3.ext (T_inj e1) (T_inj e2) (T_inj e3))
theorem s3_len {a : S3} (h : tiny3 a) : a.x.size ≤ 1000000 ∧ a.y.size ≤ 1000000 ∧ a.z.size ≤ 1000000 := by
  obtain ⟨h1, h2, h3⟩ := h
  exact ⟨by omega, by omega, by omega⟩
theorem vchk_S {a : S3} (h : tiny3 a) (B : Nat) (w : World) (hB : B ≤ w.heap.size) (hT : PQ B w) : Calls Tryz.prog 54 #[s3V a] w (Ret w (.int .i64 (chkS a))) :=
  vCheck_any a.x a.y a.z (s3_len h).1 (s3_len h).2.1 (s3_len h).2.2 B w hB hT
theorem r9chk_S {a : S3} (h : tiny3 a) (B : Nat) (w : World) (hB : B ≤ w.heap.size) (hT : PQ B w) : Calls Tryz.prog 68 #[s3V a] w (Ret w (.int .i64 (chkS a))) :=
  r9Check_any a.x a.y a.z (s3_len h).1 (s3_len h).2.1 (s3_len h).2.2 B w hB hT
theorem houtside_yes (n a b : Int) (h : n < a ∨ (¬ n < a ∧ b < n)) (w : World) :
    Calls Tryz.prog 67 #[.int .i64 n, .int .i64 a, .int .i64 b] w (fun e w' => e = .returned (.bool true) ∧ w' = w) := by
  rcases h with g1 | ⟨g0, g2⟩
  · skip
    go_enter Tryz.func67, Tryz.ntmps67
    go_wp2_with fail
    go_ret
    exact ⟨rfl, rfl⟩
  · have g1 := eq_false g0
    clear g0
    go_enter Tryz.func67, Tryz.ntmps67
    go_wp2_with fail
    go_ret
    exact ⟨rfl, rfl⟩
theorem hCheck_any (k f o : Int) (a b : S3) (wd dp : Int) (ha : tiny3 a) (hb : tiny3 b) (B : Nat) (w : World) (hB : B ≤ w.heap.size) (hT : PQ B w) :
    Calls Tryz.prog 33 #[memTV k f o a b wd dp] w (Ret w (.int .i64 (memE k f o a b wd dp))) := by
  have HT := hide hT
  have X1 := hide (heap1 w (memTO k f o a b wd dp))
  rcases mem_ways k f o a b wd dp ha hb with ⟨h1, e⟩ | ⟨h1, h2, h3, e⟩ | ⟨h1, h2, h3, h4, h5, e⟩ | ⟨h1, h2, h3, h4, h5, h6, h7, h8, h⟩
  · rw [e]
    have HO1 := hide (fun w => houtside_yes k 1 12 (by omega) w)
    clear e h1 ha hb hT
    go_enter Tryz.func33, Tryz.ntmps33
    go_wp2_with fail
    refine (HO1.out _).mono ?_
    rintro e w' ⟨rfl, rfl⟩
    go_wp2_with fail
    go_ret
    exact ⟨rfl, X1.out.2.2⟩
  · rw [e]
    have HO1 := hide (fun w => houtside_no k 1 12 (by omega) (by omega) w)
    clear e h1 h2 ha hb hT
    rcases h3 with g1 | ⟨g0, g2⟩
    · skip
      go_enter Tryz.func33, Tryz.ntmps33
      go_wp2_with fail
      refine (HO1.out _).mono ?_
      rintro e w' ⟨rfl, rfl⟩
      go_wp2_with fail
      go_ret
      exact ⟨rfl, X1.out.2.2⟩
    · have g1 := eq_false g0
      clear g0
      go_enter Tryz.func33, Tryz.ntmps33
      go_wp2_with fail
      refine (HO1.out _).mono ?_
      rintro e w' ⟨rfl, rfl⟩
      go_wp2_with fail
      go_ret
      exact ⟨rfl, X1.out.2.2⟩
  · rw [e]
    have HO1 := hide (fun w => houtside_no k 1 12 (by omega) (by omega) w)
    have g1 := eq_false h3
    have g2 := eq_false h4
    rcases h5 with h5 | ⟨h5, h6, h7⟩
    · have HO2 := hide (fun w => houtside_yes wd 1 1000 (by omega) w)
      clear e h1 h2 h3 h4 h5 ha hb hT
      go_enter Tryz.func33, Tryz.ntmps33
      go_wp2_with fail
      refine (HO1.out _).mono ?_
      rintro e w' ⟨rfl, rfl⟩
      go_wp2_with fail
      refine (HO2.out _).mono ?_
      rintro e w' ⟨rfl, rfl⟩
      go_wp2_with fail
      go_ret
      exact ⟨rfl, X1.out.2.2⟩
    · have HO2 := hide (fun w => houtside_no wd 1 1000 (by omega) (by omega) w)
      have HO3 := hide (fun w => houtside_yes dp 1 1000 (by omega) w)
      clear e h1 h2 h3 h4 h5 h6 h7 ha hb hT
      go_enter Tryz.func33, Tryz.ntmps33
      go_wp2_with fail
      refine (HO1.out _).mono ?_
      rintro e w' ⟨rfl, rfl⟩
      go_wp2_with fail
      refine (HO2.out _).mono ?_
      rintro e w' ⟨rfl, rfl⟩
      go_wp2_with fail
      refine (HO3.out _).mono ?_
      rintro e w' ⟨rfl, rfl⟩
      go_wp2_with fail
      go_ret
      exact ⟨rfl, X1.out.2.2⟩
  · have HO1 := hide (fun w => houtside_no k 1 12 (by omega) (by omega) w)
    have HO2 := hide (fun w => houtside_no wd 1 1000 (by omega) (by omega) w)
    have HO3 := hide (fun w => houtside_no dp 1 1000 (by omega) (by omega) w)
    have g1 := eq_false h3
    have g2 := eq_false h4
    have HC1 := hide (fun w hB hT => vchk_S ha B w hB hT)
    have HC2 := hide (fun w hB hT => vchk_S hb B w hB hT)
    have X0 := hide (heap3 w (memTO k f o a b wd dp) (.cells #[.string a.x, .string a.y, .string a.z, .string b.x, .string b.y, .string b.z] 28) (s3O a))
    clear X1
    rcases h with ⟨c1, e⟩ | ⟨c1, c2, e⟩ | ⟨c1, c2, A, C, sA, sC, rfl, rfl, e⟩
    · rw [e]
      have q1 : (chkS a != 0) = true := by simpa using c1
      obtain ⟨E, hE⟩ : ∃ E, E = chkS a := ⟨_, rfl⟩
      rw [← hE] at HC1 q1 ⊢
      clear e c1 hE h1 h2 h3 h4 h5 h6 h7 h8 ha hb hT
      go_enter Tryz.func33, Tryz.ntmps33
      go_wp2_with fail
      refine (HO1.out _).mono ?_
      rintro e w' ⟨rfl, rfl⟩
      go_wp2_with fail
      refine (HO2.out _).mono ?_
      rintro e w' ⟨rfl, rfl⟩
      go_wp2_with fail
      refine (HO3.out _).mono ?_
      rintro e w' ⟨rfl, rfl⟩
      go_wp2_with fail
      refine wp_loop_rounds 3 ?_
      rw [rounds_succ]
      go_wp2_with fail
      refine (HC1.out _ (Nat.le_trans hB X0.out.2.2.2.2.size) (HT.out.on X0.out.2.2.2.2 hB)).mono ?_
      rintro e w1 ⟨rfl, hb1⟩
      have G1 := hide (below_blk hb1 X0.out.1 (lt_blk X0.out.1))
      have G2 := hide (below_blk hb1 X0.out.2.1 (lt_blk X0.out.2.1))
      have HB1 := hide (X0.out.2.2.2.2.trans (hb1.mono X0.out.2.2.2.2.size))
      clear hb1
      go_wp2_with fail
      go_ret
      exact ⟨rfl, HB1.out⟩
    · rw [e]
      have q1 : (chkS b != 0) = true := by simpa using c2
      rw [c1] at HC1
      obtain ⟨E, hE⟩ : ∃ E, E = chkS b := ⟨_, rfl⟩
      rw [← hE] at HC2 q1 ⊢
      clear e c1 c2 hE h1 h2 h3 h4 h5 h6 h7 h8 ha hb hT
      go_enter Tryz.func33, Tryz.ntmps33
      go_wp2_with fail
      refine (HO1.out _).mono ?_
      rintro e w' ⟨rfl, rfl⟩
      go_wp2_with fail
      refine (HO2.out _).mono ?_
      rintro e w' ⟨rfl, rfl⟩
      go_wp2_with fail
      refine (HO3.out _).mono ?_
      rintro e w' ⟨rfl, rfl⟩
      go_wp2_with fail
      refine wp_loop_rounds 3 ?_
      rw [rounds_succ]
      go_wp2_with fail
      refine (HC1.out _ (Nat.le_trans hB X0.out.2.2.2.2.size) (HT.out.on X0.out.2.2.2.2 hB)).mono ?_
      rintro e w1 ⟨rfl, hb1⟩
      have G1 := hide (below_blk hb1 X0.out.1 (lt_blk X0.out.1))
      have G2 := hide (below_blk hb1 X0.out.2.1 (lt_blk X0.out.2.1))
      have HB1 := hide (X0.out.2.2.2.2.trans (hb1.mono X0.out.2.2.2.2.size))
      clear hb1
      go_wp2_with fail
      have m3 := cell_blk G2.out 3
      have m4 := cell_blk G2.out 4
      have m5 := cell_blk G2.out 5
      have l2 := lt_blk G2.out
      rw [rounds_succ]
      go_wp2_with fail
      have HB1b := hide (HB1.out.trans ((heap1 w1 (s3O b)).2.2.mono HB1.out.size))
      have G1b := hide (below_blk (heap1 w1 (s3O b)).2.2 G1.out (lt_blk G1.out))
      refine (HC2.out _ (Nat.le_trans hB HB1b.out.size) (HT.out.on HB1b.out hB)).mono ?_
      rintro e w2 ⟨rfl, hb2⟩
      have G3 := hide (below_blk hb2 G1b.out (lt_blk G1b.out))
      have HB2 := hide (HB1b.out.trans (hb2.mono HB1b.out.size))
      clear hb2 m3 m4 m5 l2 G1 G2 G1b
      go_wp2_with fail
      go_ret
      exact ⟨rfl, HB2.out⟩
    · by_cases hAC : A = C
      rotate_left
      · rw [e, if_neg hAC]
        have hm : Mem k f o A C wd dp := ⟨by omega, by omega, by omega, by omega, by omega, by omega, by omega, by omega, szV_mono sA (by omega), szV_mono sC (by omega), hAC⟩
        exact hCheck_ok hm B w hB hT
      · rw [e, if_pos hAC]
        subst hAC
        rw [c1] at HC1
        rw [c2] at HC2
        have HL1 := hide (fun w hB hT => hlong_no (szV_mono sA (by omega)) B w hB hT)
        have he := eqSpot_T A A
        rw [decide_eq_true rfl] at he
        clear e c1 c2 h1 h2 h3 h4 h5 h6 h7 h8 ha hb hT sA sC
        go_enter Tryz.func33, Tryz.ntmps33
        go_wp2_with fail
        refine (HO1.out _).mono ?_
        rintro e w' ⟨rfl, rfl⟩
        go_wp2_with fail
        refine (HO2.out _).mono ?_
        rintro e w' ⟨rfl, rfl⟩
        go_wp2_with fail
        refine (HO3.out _).mono ?_
        rintro e w' ⟨rfl, rfl⟩
        go_wp2_with fail
        refine wp_loop_rounds 3 ?_
        rw [rounds_succ]
        go_wp2_with fail
        refine (HC1.out _ (Nat.le_trans hB X0.out.2.2.2.2.size) (HT.out.on X0.out.2.2.2.2 hB)).mono ?_
        rintro e w1 ⟨rfl, hb1⟩
        have G1 := hide (below_blk hb1 X0.out.1 (lt_blk X0.out.1))
        have G2 := hide (below_blk hb1 X0.out.2.1 (lt_blk X0.out.2.1))
        have HB1 := hide (X0.out.2.2.2.2.trans (hb1.mono X0.out.2.2.2.2.size))
        clear hb1
        go_wp2_with fail
        have m3 := cell_blk G2.out 3
        have m4 := cell_blk G2.out 4
        have m5 := cell_blk G2.out 5
        have l2 := lt_blk G2.out
        rw [rounds_succ]
        go_wp2_with fail
        have HB1b := hide (HB1.out.trans ((heap1 w1 (vecO A)).2.2.mono HB1.out.size))
        have G1b := hide (below_blk (heap1 w1 (vecO A)).2.2 G1.out (lt_blk G1.out))
        refine (HC2.out _ (Nat.le_trans hB HB1b.out.size) (HT.out.on HB1b.out hB)).mono ?_
        rintro e w2 ⟨rfl, hb2⟩
        have G3 := hide (below_blk hb2 G1b.out (lt_blk G1b.out))
        have HB2 := hide (HB1b.out.trans (hb2.mono HB1b.out.size))
        clear hb2 m3 m4 m5 l2 G1 G2 G1b
        go_wp2_with fail
        have k3 := cell_blk G3.out 3
        have k4 := cell_blk G3.out 4
        have k5 := cell_blk G3.out 5
        have l1 := lt_blk G3.out
        rw [rounds_succ]
        go_wp2_with fail
        refine (HL1.out _ (Nat.le_trans hB HB2.out.size) (HT.out.on HB2.out hB)).mono ?_
        rintro e w3 ⟨rfl, hb3⟩
        have G4 := hide (below_blk hb3 G3.out (lt_blk G3.out))
        have HB3 := hide (HB2.out.trans (hb3.mono HB2.out.size))
        clear hb3 k3 k4 k5 l1 G3
        have k6 := cell_blk G4.out 6
        have k7 := cell_blk G4.out 7
        have k8 := cell_blk G4.out 8
        have l1 := lt_blk G4.out
        go_wp2_with fail
        refine (HL1.out _ (Nat.le_trans hB HB3.out.size) (HT.out.on HB3.out hB)).mono ?_
        rintro e w4 ⟨rfl, hb4⟩
        have G5 := hide (below_blk hb4 G4.out (lt_blk G4.out))
        have HB4 := hide (HB3.out.trans (hb4.mono HB3.out.size))
        clear hb4 k6 k7 k8 l1 G4
        have k3 := cell_blk G5.out 3
        have k4 := cell_blk G5.out 4
        have k5 := cell_blk G5.out 5
        have k6 := cell_blk G5.out 6
        have k7 := cell_blk G5.out 7
        have k8 := cell_blk G5.out 8
        have l1 := lt_blk G5.out
        go_wp2_with fail
        go_ret
        exact ⟨rfl, HB4.out⟩
open Go.RowKit Go.KP Go.KI Go.Shelf
attribute [local go_sem] Oper.semAt_some vidx0 vidx1 vidx2

theorem heap5 (w : World) (o1 o2 o3 o4 o5 : Obj) : (((((w.alloc o1).alloc o2).alloc o3).alloc o4).alloc o5).heap[w.heap.size + 2]? = some o3 ∧ (((((w.alloc o1).alloc o2).alloc o3).alloc o4).alloc o5).heap.size = w.heap.size + 5 ∧ Below w.heap.size w (((((w.alloc o1).alloc o2).alloc o3).alloc o4).alloc o5) := by
  obtain ⟨_, _, a3, a4, a5⟩ := heap3 w o1 o2 o3
  obtain ⟨_, _, b4, b5⟩ := heap2 (((w.alloc o1).alloc o2).alloc o3) o4 o5
  rw [a4] at b4 b5
  exact ⟨below_blk b5 a3 (by omega), by omega, a5.trans (b5.mono (by omega))⟩
def cmpsV (a b : V3) : Prop := cmpC a.x b.x ∧ cmpC a.y b.y ∧ cmpC a.z b.z
theorem cmpsV_of {p q : Nat} {a b : V3} (ha : szV p a) (hb : szV q b) (h : p + q ≤ most) : cmpsV a b := ⟨cmpC_of ha.1 hb.1 h, cmpC_of ha.2.1 hb.2.1 h, cmpC_of ha.2.2 hb.2.2 h⟩
theorem vCompare_T {a b : V3} (fa : fitsV a) (fb : fitsV b) (hc : cmpsV a b) (B : Nat) (w : World) (hB : B ≤ w.heap.size) (hT : PQ B w) :
    Calls Tryz.prog 43 #[vecV a, vecV b] w (Ret w (.tuple #[.int .i64 (vcmp a b), .int .i64 0])) := by
  have HT := hide hT
  have HC := hide (fun w hB hT => vboth_T fa fb B w hB hT)
  have H1 := hide (fun w hB hT => qcmp_T fa.1 fb.1 hc.1 B w hB hT)
  have H2 := hide (fun w hB hT => qcmp_T fa.2.1 fb.2.1 hc.2.1 B w hB hT)
  have H3 := hide (fun w hB hT => qcmp_T fa.2.2 fb.2.2 hc.2.2 B w hB hT)
  have X0 := hide (heap2 w (vecO a) (vecO b))
  have HL1 := hide (fun w => vlist_at (T a.x) (T a.y) (T a.z) w)
  have HL2 := hide (fun w => vlist_at (T b.x) (T b.y) (T b.z) w)
  obtain ⟨V, hV⟩ : ∃ V, V = vcmp a b := ⟨_, rfl⟩
  rw [← hV]
  unfold vcmp at hV
  obtain ⟨x, hx⟩ : ∃ x, x = cmpR a.x b.x := ⟨_, rfl⟩
  obtain ⟨y, hy⟩ : ∃ x, x = cmpR a.y b.y := ⟨_, rfl⟩
  obtain ⟨z, hz⟩ : ∃ x, x = cmpR a.z b.z := ⟨_, rfl⟩
  rw [← hx] at H1 hV
  rw [← hy] at H2 hV
  rw [← hz] at H3 hV
  clear hx hy hz hT fa fb hc
  by_cases hx : x = 0
  rotate_left
  · rw [if_pos hx] at hV
    have hx2 : (x != 0) = true := by simpa using hx
    clear hx
    subst hV
    go_enter Tryz.func43, Tryz.ntmps43
    go_wp2_with fail
    refine (HC.out _ (Nat.le_trans hB X0.out.2.2.2.size) (HT.out.on X0.out.2.2.2 hB)).mono ?_
    rintro e w1 ⟨rfl, hb1⟩
    have HB1 := hide (X0.out.2.2.2.trans (hb1.mono X0.out.2.2.2.size))
    have G1 := hide (below_blk hb1 X0.out.1 (lt_blk X0.out.1))
    have G2 := hide (below_blk hb1 X0.out.2.1 (lt_blk X0.out.2.1))
    have l1 := lt_blk G1.out
    have l2 := lt_blk G2.out
    have k0 := cell_blk G1.out 0
    have k1 := cell_blk G1.out 1
    have k2 := cell_blk G1.out 2
    have m0 := cell_blk G2.out 0
    have m1 := cell_blk G2.out 1
    have m2 := cell_blk G2.out 2
    clear hb1
    go_wp2_with fail
    refine (HL2.out _).mono ?_
    rintro e w0 ⟨rfl, rfl⟩
    have X3 := hide (heap3 w1 (sptO (T b.x) (T b.y) (T b.z)) (arrO (T b.x) (T b.y) (T b.z)) (arrO (T b.x) (T b.y) (T b.z))).2.2.2.2
    have G3 := hide (below_blk X3.out G1.out (lt_blk G1.out))
    clear k0 k1 k2 m0 m1 m2 l1 l2
    have l1 := lt_blk G3.out
    have k0 := cell_blk G3.out 0
    have k1 := cell_blk G3.out 1
    have k2 := cell_blk G3.out 2
    go_wp2_with fail
    refine (HL1.out _).mono ?_
    rintro e w0 ⟨rfl, rfl⟩
    have Y0 := hide (heap5 w1 (sptO (T b.x) (T b.y) (T b.z)) (arrO (T b.x) (T b.y) (T b.z)) (arrO (T b.x) (T b.y) (T b.z)) (sptO (T a.x) (T a.y) (T a.z)) (arrO (T a.x) (T a.y) (T a.z)))
    have Y1 := hide Y0.out.1
    have YB := hide (HB1.out.trans (Y0.out.2.2.mono HB1.out.size))
    clear k0 k1 k2 l1
    go_wp2_with fail
    refine wp_loop_rounds 1 ?_
    rw [rounds_succ]
    go_wp2_with fail
    refine (H1.out _ (Nat.le_trans hB YB.out.size) (HT.out.on YB.out hB)).mono ?_
    rintro e w2 ⟨rfl, hb2⟩
    have HB2 := hide (YB.out.trans (hb2.mono YB.out.size))
    clear hb2
    go_wp2_with fail
    refine bodyPost_ret (results_tmp2 rfl _ _ _) rfl ?_
    exact ⟨rfl, HB2.out⟩
  subst hx
  rw [if_neg (by simp)] at hV
  by_cases hy : y = 0
  rotate_left
  · rw [if_pos hy] at hV
    have hy2 : (y != 0) = true := by simpa using hy
    clear hy
    subst hV
    go_enter Tryz.func43, Tryz.ntmps43
    go_wp2_with fail
    refine (HC.out _ (Nat.le_trans hB X0.out.2.2.2.size) (HT.out.on X0.out.2.2.2 hB)).mono ?_
    rintro e w1 ⟨rfl, hb1⟩
    have HB1 := hide (X0.out.2.2.2.trans (hb1.mono X0.out.2.2.2.size))
    have G1 := hide (below_blk hb1 X0.out.1 (lt_blk X0.out.1))
    have G2 := hide (below_blk hb1 X0.out.2.1 (lt_blk X0.out.2.1))
    have l1 := lt_blk G1.out
    have l2 := lt_blk G2.out
    have k0 := cell_blk G1.out 0
    have k1 := cell_blk G1.out 1
    have k2 := cell_blk G1.out 2
    have m0 := cell_blk G2.out 0
    have m1 := cell_blk G2.out 1
    have m2 := cell_blk G2.out 2
    clear hb1
    go_wp2_with fail
    refine (HL2.out _).mono ?_
    rintro e w0 ⟨rfl, rfl⟩
    have X3 := hide (heap3 w1 (sptO (T b.x) (T b.y) (T b.z)) (arrO (T b.x) (T b.y) (T b.z)) (arrO (T b.x) (T b.y) (T b.z))).2.2.2.2
    have G3 := hide (below_blk X3.out G1.out (lt_blk G1.out))
    clear k0 k1 k2 m0 m1 m2 l1 l2
    have l1 := lt_blk G3.out
    have k0 := cell_blk G3.out 0
    have k1 := cell_blk G3.out 1
    have k2 := cell_blk G3.out 2
    go_wp2_with fail
    refine (HL1.out _).mono ?_
    rintro e w0 ⟨rfl, rfl⟩
    have Y0 := hide (heap5 w1 (sptO (T b.x) (T b.y) (T b.z)) (arrO (T b.x) (T b.y) (T b.z)) (arrO (T b.x) (T b.y) (T b.z)) (sptO (T a.x) (T a.y) (T a.z)) (arrO (T a.x) (T a.y) (T a.z)))
    have Y1 := hide Y0.out.1
    have YB := hide (HB1.out.trans (Y0.out.2.2.mono HB1.out.size))
    clear k0 k1 k2 l1
    go_wp2_with fail
    refine wp_loop_rounds 2 ?_
    rw [rounds_succ]
    go_wp2_with fail
    refine (H1.out _ (Nat.le_trans hB YB.out.size) (HT.out.on YB.out hB)).mono ?_
    rintro e w2 ⟨rfl, hb2⟩
    have Z2 := hide (below_blk hb2 Y1.out (lt_blk Y1.out))
    have HB2 := hide (YB.out.trans (hb2.mono YB.out.size))
    clear hb2
    go_wp2_with fail
    have k1 := cell_blk Z2.out 1
    rw [rounds_succ]
    go_wp2_with fail
    refine (H2.out _ (Nat.le_trans hB HB2.out.size) (HT.out.on HB2.out hB)).mono ?_
    rintro e w3 ⟨rfl, hb3⟩
    have HB3 := hide (HB2.out.trans (hb3.mono HB2.out.size))
    clear hb3
    go_wp2_with fail
    refine bodyPost_ret (results_tmp2 rfl _ _ _) rfl ?_
    exact ⟨rfl, HB3.out⟩
  subst hy
  rw [if_neg (by simp)] at hV
  subst hV
  have hz : V = 0 ∨ (V != 0) = true := by
    by_cases h : V = 0
    · exact .inl h
    · exact .inr (by simpa using h)
  rcases hz with rfl | hz
  all_goals
    go_enter Tryz.func43, Tryz.ntmps43
    go_wp2_with fail
    refine (HC.out _ (Nat.le_trans hB X0.out.2.2.2.size) (HT.out.on X0.out.2.2.2 hB)).mono ?_
    rintro e w1 ⟨rfl, hb1⟩
    have HB1 := hide (X0.out.2.2.2.trans (hb1.mono X0.out.2.2.2.size))
    have G1 := hide (below_blk hb1 X0.out.1 (lt_blk X0.out.1))
    have G2 := hide (below_blk hb1 X0.out.2.1 (lt_blk X0.out.2.1))
    have l1 := lt_blk G1.out
    have l2 := lt_blk G2.out
    have k0 := cell_blk G1.out 0
    have k1 := cell_blk G1.out 1
    have k2 := cell_blk G1.out 2
    have m0 := cell_blk G2.out 0
    have m1 := cell_blk G2.out 1
    have m2 := cell_blk G2.out 2
    clear hb1
    go_wp2_with fail
    refine (HL2.out _).mono ?_
    rintro e w0 ⟨rfl, rfl⟩
    have X3 := hide (heap3 w1 (sptO (T b.x) (T b.y) (T b.z)) (arrO (T b.x) (T b.y) (T b.z)) (arrO (T b.x) (T b.y) (T b.z))).2.2.2.2
    have G3 := hide (below_blk X3.out G1.out (lt_blk G1.out))
    clear k0 k1 k2 m0 m1 m2 l1 l2
    have l1 := lt_blk G3.out
    have k0 := cell_blk G3.out 0
    have k1 := cell_blk G3.out 1
    have k2 := cell_blk G3.out 2
    go_wp2_with fail
    refine (HL1.out _).mono ?_
    rintro e w0 ⟨rfl, rfl⟩
    have Y0 := hide (heap5 w1 (sptO (T b.x) (T b.y) (T b.z)) (arrO (T b.x) (T b.y) (T b.z)) (arrO (T b.x) (T b.y) (T b.z)) (sptO (T a.x) (T a.y) (T a.z)) (arrO (T a.x) (T a.y) (T a.z)))
    have Y1 := hide Y0.out.1
    have YB := hide (HB1.out.trans (Y0.out.2.2.mono HB1.out.size))
    clear k0 k1 k2 l1
    go_wp2_with fail
    refine wp_loop_rounds 4 ?_
    rw [rounds_succ]
    go_wp2_with fail
    refine (H1.out _ (Nat.le_trans hB YB.out.size) (HT.out.on YB.out hB)).mono ?_
    rintro e w2 ⟨rfl, hb2⟩
    have Z2 := hide (below_blk hb2 Y1.out (lt_blk Y1.out))
    have HB2 := hide (YB.out.trans (hb2.mono YB.out.size))
    clear hb2
    go_wp2_with fail
    have k1 := cell_blk Z2.out 1
    rw [rounds_succ]
    go_wp2_with fail
    refine (H2.out _ (Nat.le_trans hB HB2.out.size) (HT.out.on HB2.out hB)).mono ?_
    rintro e w3 ⟨rfl, hb3⟩
    have Z3 := hide (below_blk hb3 Z2.out (lt_blk Z2.out))
    have HB3 := hide (HB2.out.trans (hb3.mono HB2.out.size))
    clear hb3 k1
    go_wp2_with fail
    have k1 := cell_blk Z3.out 2
    rw [rounds_succ]
    go_wp2_with fail
    refine (H3.out _ (Nat.le_trans hB HB3.out.size) (HT.out.on HB3.out hB)).mono ?_
    rintro e w4 ⟨rfl, hb4⟩
    have HB4 := hide (HB3.out.trans (hb4.mono HB3.out.size))
    clear hb4
    go_wp2_with fail
    first
      | (refine bodyPost_ret (results_tmp2 rfl _ _ _) rfl ?_
         exact ⟨rfl, HB4.out⟩)
      | (rw [rounds_succ]
         go_wp2_with fail
         refine bodyPost_ret (results_tmp2 rfl _ _ _) rfl ?_
         exact ⟨rfl, HB4.out⟩)
end Go.Proofs.YtklgpilgalfckaaGreatDoor
namespace Go.KP
open Go
section
variable {P : Program} {md : Region.Mode}

theorem any_steps {l : List Oper} {Q : Exit → Act → World → Prop} {n f : Nat} {S : Array Bool → Act → World → Prop} (hg : gateB md l 0 n = true) (hn : n ≤ l.length)
    (hS : ∀ a w, S (Array.replicate n true) a w → wpAny P md l.toArray Q f (padded (Array.replicate n true) (l.length - n)) a w)
    (hstep : ∀ (i : Nat) (o : Oper) (L : Array Bool) (a : Act) (w : World), i < n → l[i]? = some o → L.size = n → L.getD i false = false → (∀ j, waits md l.toArray i j → L.getD j false = true) → S L a w → o.wp P a w (fun a' w' => S (L.setIfInBounds i true) a' w') Q) :
    ∀ (fuel : Nat) (L : Array Bool) (a : Act), L.size = n → down md l.toArray L → (∀ j, j < 0 → j < n → L.getD j false = true) → L.toList.count false = fuel →
    ∀ w, S L a w → wpAny P md l.toArray Q (fuel + f) (padded L (l.length - n)) a w := by
  intro fuel
  induction fuel with
  | zero =>
    intro L a hL hd hk hc w h
    have : L = Array.replicate n true := by
      have hne := List.count_eq_zero.1 hc
      apply Array.ext
      · simp [hL]
      · intro i h1 h2
        rw [Array.getElem_replicate]
        cases hx : L[i] with
        | true => rfl
        | false => exact absurd (by rw [← hx]; simp) hne
    subst this
    rw [Nat.zero_add]
    exact hS a w h
  | succ fuel ih =>
    intro L a hL hd hk hc w h
    obtain ⟨j0, hj0, hjf⟩ : ∃ j, j < n ∧ L.getD j false = false := by
      have hmem : false ∈ L.toList := List.count_pos_iff.1 (by omega)
      obtain ⟨j, hj, hx⟩ := List.mem_iff_getElem.1 hmem
      refine ⟨j, by simpa [hL] using hj, ?_⟩
      have : j < L.size := by simpa using hj
      simpa [this] using hx
    have hpre : ∀ i, i ∈ Region.ready md l.toArray (padded L (l.length - n)) → i < n ∧ i ∈ Region.ready md (l.take n).toArray L := by
      intro i hi
      obtain ⟨h1, h2, h3⟩ := ready_iff.1 hi
      have hin : i < n := by
        rcases Nat.lt_or_ge i n with h | h
        · exact h
        · exfalso
          have hil : i < l.length := by simpa using h1
          rcases gate_behind hg i hil h with ⟨j, hj, hw⟩ | hall
          · have := h3 j hw
            rw [padded_f, Array.getD_eq_getD_getElem?, Array.getElem?_eq_none (by omega)] at this
            simp at this
          · have key : ∀ d j, n - j = d → j < n → L.getD j false = true := by
              intro d
              induction d using Nat.strongRecOn with
              | _ d ihd =>
                intro j hdj hj
                rcases hall j hj with h4 | h4 | ⟨m, h4, h5, h6⟩
                · exact hk j h4 hj
                · have := h3 j h4
                  rwa [padded_f] at this
                · exact hd m j (ihd (n - m) (by omega) m rfl h4) h6
            have := key _ j0 rfl hj0
            rw [hjf] at this
            cases this
      refine ⟨hin, ready_iff.2 ⟨by simp; omega, ?_, fun j hj => ?_⟩⟩
      · rwa [padded_t (by omega)] at h2
      · have := h3 j ((waits_take hin).1 hj)
        rwa [padded_f] at this
    have hback : ∀ i, i ∈ Region.ready md (l.take n).toArray L → i ∈ Region.ready md l.toArray (padded L (l.length - n)) := by
      intro i hi
      obtain ⟨h1, h2, h3⟩ := ready_iff.1 hi
      have hin : i < n := by simp at h1; omega
      refine ready_iff.2 ⟨by simp; omega, ?_, fun j hj => ?_⟩
      · rwa [padded_t (by omega)]
      · rw [padded_f]
        exact h3 j ((waits_take hin).2 hj)
    rw [Nat.add_right_comm]
    refine ⟨fun h0 => ?_, fun i hi => ?_⟩
    · obtain ⟨i, hi⟩ := some_ready hg hL j0 hj0 hjf
      have := hback i hi
      rw [h0] at this
      cases this
    · obtain ⟨hin, hr⟩ := hpre i hi
      obtain ⟨r1, r2, r3⟩ := ready_iff.1 hr
      have hiL : i < L.size := by omega
      have hfi : L.getD i false = false := by rw [← getD_tf hiL]; exact r2
      obtain ⟨b1, b2, b3⟩ := gate_before hg i hin
      have hd' : down md l.toArray (L.setIfInBounds i true) := by
        intro x y hx hxy
        have hmono : ∀ y, L.getD y false = true → (L.setIfInBounds i true).getD y false = true := by
          intro y hy
          by_cases hyi : y = i
          · subst hyi; rw [hfi] at hy; cases hy
          · simpa [Array.getD_eq_getD_getElem?, Array.getElem?_setIfInBounds_ne (Ne.symm hyi)] using hy
        by_cases hxi : x = i
        · subst hxi
          exact hmono y (r3 y ((waits_take hin).2 hxy))
        · have hx' : L.getD x false = true := by simpa [Array.getD_eq_getD_getElem?, Array.getElem?_setIfInBounds_ne (Ne.symm hxi)] using hx
          exact hmono y (hd x y hx' hxy)
      have hk' : ∀ j, j < 0 → j < n → (L.setIfInBounds i true).getD j false = true := by
        intro j h1 h2
        have hj := hk j h1 h2
        by_cases hji : j = i
        · subst hji; rw [hfi] at hj; cases hj
        · simpa [Array.getD_eq_getD_getElem?, Array.getElem?_setIfInBounds_ne (Ne.symm hji)] using hj
      have hnext : ∀ a' w', S (L.setIfInBounds i true) a' w' → wpAny P md l.toArray Q (fuel + f) ((padded L (l.length - n)).setIfInBounds i true) a' w' := by
        intro a' w' h'
        rw [padded_set hiL]
        exact ih _ a' (by simpa using hL) hd' hk' (by have := count_set hiL hfi; omega) w' h'
      unfold wpOp
      have e2 : l.toArray[i]? = some l[i] := by simp [b1]
      rw [e2]
      have hgd : l[i].guard = none := b2 _ (List.getElem?_eq_getElem b1)
      have hw1 : ∀ ys, Region.wanted l[i] ys = true := fun ys => by simp [Region.wanted, hgd]
      simp only [hw1, if_true]
      exact .inl (Oper.wp_mono hnext (hstep i l[i] L a w hin (List.getElem?_eq_getElem b1) hL hfi (fun j hj => r3 j ((waits_take hin).2 hj)) h))
theorem region_steps {id : Nat} {Q : Exit → Act → World → Prop} {a : Act} {w : World} {l : List Oper} (n : Nat) (S : Array Bool → Act → World → Prop) (hm : P.follows .mixedOrders = true) (hn : n ≤ l.length)
    (hg : gateB .any l 0 n = true) (hs : seqB .any l n = true) (h0 : S (Array.replicate n false) a { w with drawn := w.drawn + 1 })
    (hstep : ∀ (i : Nat) (o : Oper) (L : Array Bool) (a : Act) (w : World), i < n → l[i]? = some o → L.size = n → L.getD i false = false → (∀ j, waits .any l.toArray i j → L.getD j false = true) → S L a w → o.wp P a w (fun a' w' => S (L.setIfInBounds i true) a' w') Q)
    (hend : ∀ a w, S (Array.replicate n true) a w → wpList P l.toArray Q (l.drop n) a w) : (Code.region id l.toArray true).wp P Q a w := by
  refine wp_region_any hm ?_
  have h2 := any_steps (P := P) (Q := Q) (S := S) (f := (l.drop n).length) hg hn (fun a2 w2 h3 => any_seq hs (l.drop n) n a2 w2 (fun j => by simp) (Nat.le_refl _) (by simp; omega) (hend a2 w2 h3)) hstep
    n (Array.replicate n false) a (by simp) (fun i j hi => by simp [Array.getD_eq_getD_getElem?, Array.getElem?_replicate] at hi; split at hi <;> simp at hi) (fun j hj => by omega) (by simp) _ h0
  have e : padded (Array.replicate n false) (l.length - n) = Array.replicate l.toArray.size false := by
    unfold padded
    rw [Array.replicate_append_replicate]
    congr 1
    simp
    omega
  rw [e] at h2
  have e2 : n + (l.drop n).length = l.toArray.size := by simp; omega
  rw [e2] at h2
  exact h2
theorem getD_set {L : Array Bool} {i j n : Nat} (hL : L.size = n) (hi : i < n) : (L.setIfInBounds i true).getD j false = if i = j then true else L.getD j false := by
  simp only [Array.getD_eq_getD_getElem?, Array.getElem?_setIfInBounds]
  by_cases h : i = j
  · subst h
    simp [hL, hi]
  · simp [h]
end
end Go.KP
