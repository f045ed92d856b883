/-
  Integers: divide walked.
-/
import Derived.Test.YthkioajalhglfaaGreatDoorQc
import Derived.Test.YthkioajalhglfaaGreatDoorPk
namespace Go.Proofs.YthkioajalhglfaaGreatDoor
open Go.RowKit Go.KP Go.KI Go.Shelf
attribute [local go_sem] Oper.semAt_some

set_option maxRecDepth 100000 in
set_option maxHeartbeats 8000000 in
theorem divide_any (va vb : Value) (x y : List Nat) (B : Nat) (w : World) (ha : LimbAt B w va x) (hb : LimbAt B w vb y) (hB : B ≤ w.heap.size) (hx : Norm 1000000000 x) (hy : Norm 1000000000 y) (hy0 : y ≠ []) (lx : x.length ≤ 90000) (ly : y.length ≤ 90000) :
    Calls Tryz.prog 46 #[va, vb] w (DivRes x y w) := by
  obtain ⟨a0, c0, hva⟩ := ha.form
  obtain ⟨a1, c1, hvb⟩ := hb.form
  subst hva; subst hvb
  have HA := hide ha; have HB := hide hb; have HX := hide hx; have HY := hide hy
  obtain ⟨g1, o1, hv1, hcy⟩ : ∃ g o, a1 = some ⟨g, o, none⟩ ∧ g < B ∧ ∀ i, i < y.length → w.cell? ⟨g, o + i, none⟩ = some (.int .i64 (lat y i)) := by
    rcases hb.cases with ⟨_, _, _, hnil⟩ | ⟨g, o, cap, hv, hg, hc⟩
    · exact absurd hnil hy0
    · injection hv with hv1 hv2 hv3
      exact ⟨g, o, hv1, hg, hc⟩
  subst hv1
  have hly : 1 ≤ y.length := List.length_pos_iff.2 hy0
  have hyp : 1 ≤ lv 1000000000 y := by
    have h1 := hy.ge hy0
    have h2 : 0 < 1000000000 ^ (y.length - 1) := Nat.pow_pos (by omega)
    omega
  have HCY := hide hcy
  obtain ⟨b0, hs0, hB0⟩ := heap1 w (.cells #[.slice none 0 0] 46)
  have HC := hide (compare_any (.slice a0 x.length c0) (.slice (some ⟨g1, o1, none⟩) y.length c1) x y B (w.alloc (.cells #[.slice none 0 0] 46)) (ha.below hB0 hB) (hb.below hB0 hB) (by omega) hx hy (by omega) (by omega))
  clear ha hb hx hy hcy
  refine (callsIn_wide (n := 0)).1 ?_
  refine callsIn_of_wp_marks Tryz.func46 rfl trivial ?_ rfl
  simp only [Tryz.ntmps46, List.size_toArray, List.length_cons, List.length_nil, Nat.reduceAdd, Nat.reduceSub, Array.replicate_succ, Array.replicate_zero, List.push_toArray, List.append_toArray, List.nil_append, List.cons_append]
  have H0 := hide b0; have HB0 := hide hB0
  clear b0 hB0
  gi_wp2_with fail
  refine ⟨trivial, rfl, (callsIn_wide.2 HC.out).mono ?_⟩
  rintro e w1 ⟨rc, rfl, hcr, hb1⟩
  have E0 := hide (below_blk hb1 H0.out (by omega))
  have B1 := hide (HB0.out.trans (hb1.mono (by omega)))
  have hs1 : w.heap.size + 1 ≤ w1.heap.size := by have := hb1.size; omega
  clear hb1 HC H0 HB0 hs0
  by_cases hlt : lv 1000000000 x < lv 1000000000 y
  · have hr : rc < 0 := hcr.1.2 hlt
    have HLT := hide hlt
    have c0' := cell_blk E0.out 0
    have f0' := froz_blk E0.out 0
    clear hcr hlt
    gi_wp2_with fail
    have hc := cell_blk (Boxed.set (.slice none 0 0) E0.out) 0
    refine ⟨.tuple #[.slice none 0 0, .slice a0 x.length c0], by simp [results, go_sem, hc], .slice none 0 0, .slice a0 x.length c0, [], x, rfl, B1.out.setCell (p := ⟨w.heap.size, 0, none⟩) (by simp) _, LimbAt.nil _ _, ?_, Norm.nil _, HX.out, ?_, ?_, Nat.zero_le _, Nat.le_refl _⟩
    · exact ((HA.out.below B1.out hB).below ((Below.refl w.heap.size w1).setCell (p := ⟨w.heap.size, 0, none⟩) (by simp) _) hB).mono (by rw [setCell_size]; have := B1.out.size; omega)
    · rw [Nat.div_eq_of_lt HLT.out]; rfl
    · rw [Nat.mod_eq_of_lt HLT.out]
  · have hr : (rc < 0) = False := eq_false (fun h => hlt (hcr.1.1 h))
    have HLE := hide (Nat.le_of_not_lt hlt)
    clear hcr hlt
    by_cases h1 : y.length = 1
    · have hq : ((y.length : Int) == 1) = true := by rw [h1]; rfl
      have hyd : y = [lat y 0] := by
        match y, h1 with
        | [z], _ => rfl
      have hd := lat_lt (b := 1000000000) (by omega) HY.out.lt 0
      have hd1 : 1 ≤ lat y 0 := by
        have := HY.out.top.resolve_left hy0
        rw [h1] at this
        have : lat y 0 ≠ 0 := this
        omega
      have qc : w1.cell? ⟨g1, o1, none⟩ = some (.int .i64 (lat y 0)) := by
        have := (HB.out.below B1.out hB).cases
        have h2 := HCY.out.2 0 (by omega)
        rw [Nat.add_zero] at h2
        exact (B1.out.cell (p := ⟨g1, o1, none⟩) (by have := HCY.out.1; simp; omega)).trans h2
      have HS := hide (divideShort_any (.slice a0 x.length c0) x (lat y 0) B w1 (HA.out.below B1.out hB) (by omega) HX.out.lt (by omega) hd1 hd)
      rw [← hyd] at HS
      have hl1 : (0 : Int) < (y.length : Int) := by omega
      obtain ⟨d, hd2⟩ : ∃ d, d = lat y 0 := ⟨_, rfl⟩
      rw [← hd2] at qc HS hd hd1
      clear hyd hd2 h1
      gi_wp2_with fail
      refine ⟨trivial, rfl, (callsIn_wide.2 HS.out).mono ?_⟩
      rintro e w2 ⟨vq, vr, q, r, rfl, hb2, o1', o2', n1, n2, v1, v2, l1, l2⟩
      obtain ⟨aq, cq, hvf, _, _⟩ := o1'.form
      subst hvf
      obtain ⟨ar, cr, hvf, _, _⟩ := o2'.form
      subst hvf
      have E2 := hide (below_blk hb2 E0.out (by omega))
      have B2 := hide (B1.out.trans (hb2.mono (by omega)))
      have O1 := hide o1'; have O2 := hide o2'; have N1 := hide n1; have N2 := hide n2; have V1 := hide v1; have V2 := hide v2
      have hs2 : w.heap.size < w2.heap.size := by have := hb2.size; omega
      clear hb2 o1' o2' n1 n2 v1 v2 E0 B1
      have c0' := cell_blk E2.out 0
      have f0' := froz_blk E2.out 0
      gi_wp2_with fail
      have hc := cell_blk (Boxed.set (.slice aq q.length cq) E2.out) 0
      refine ⟨.tuple #[.slice aq q.length cq, .slice ar r.length cr], by simp [results, go_sem, hc], _, _, q, r, rfl, B2.out.setCell (p := ⟨w.heap.size, 0, none⟩) (by simp) _, LimbAt.of_own (O1.out.other (p := ⟨w.heap.size, 0, none⟩) (by simp; omega) _), LimbAt.of_own (O2.out.other (p := ⟨w.heap.size, 0, none⟩) (by simp; omega) _), N1.out, N2.out, V1.out, V2.out, l1, l2⟩
    · obtain ⟨m, hm⟩ : ∃ m, y.length = m + 2 := ⟨y.length - 2, by omega⟩
      have hq : ((y.length : Int) == 1) = false := by
        have : (y.length : Int) ≠ 1 := by omega
        simpa using this
      obtain ⟨b, hbb⟩ : ∃ b, b = m + 1 := ⟨_, rfl⟩
      have e3 : (y.length : Int) - 1 = (b : Int) := by omega
      have hbl : (b : Int) < (y.length : Int) := by omega
      have ht := lat_lt (b := 1000000000) (by omega) HY.out.lt b
      have ht1 : 1 ≤ lat y b := by
        have := HY.out.top.resolve_left hy0
        rw [hm, show m + 2 - 1 = b by omega] at this
        omega
      have qc : w1.cell? ⟨g1, o1 + b, none⟩ = some (.int .i64 (lat y b)) :=
        (B1.out.cell (p := ⟨g1, o1 + b, none⟩) (by have := HCY.out.1; simp; omega)).trans (HCY.out.2 b (by omega))
      obtain ⟨t, ht2⟩ : ∃ t, t = lat y b := ⟨_, rfl⟩
      rw [← ht2] at ht ht1 qc
      obtain ⟨f, hf, hf1, hf2, hf0, -⟩ := factor_nums ht1 ht
      have hti : (t : Int) < 1000000000 := by omega
      have HM := hide hm; have HBB := hide hbb
      obtain ⟨i0, hi0, hz0, hz1, hz2⟩ := info_parts info3
      obtain ⟨n0, ns, nb⟩ := heap1 w1 (rowO [f])
      obtain ⟨w2, hw2⟩ : ∃ w2, w1.alloc (.cells #[.int .i64 f] 3) = w2 := ⟨_, rfl⟩
      rw [show w1.alloc (rowO [f]) = w2 from hw2] at n0 ns nb
      have B2 := hide (B1.out.trans (nb.mono (by omega)))
      have E2 := hide (below_blk nb E0.out (by omega))
      have hF : Lt 1000000000 [f] := fun z hz => by
        simp only [List.mem_singleton] at hz
        omega
      have HT1 := hide (times_any (.slice a0 x.length c0) (.slice (some ⟨w1.heap.size, 0, none⟩) 1 1) x [f] w2.heap.size w2 ((HA.out.below B2.out hB).mono (by omega)) (row_limbs n0 (by unfold maxLen; simp)) (Nat.le_refl _) HX.out.lt hF (by omega) (by simp))
      have hs2 : w1.heap.size < w2.heap.size := by omega
      clear ht2 hm hbb h1 n0 ns nb
      gi_wp2_with fail
      rw [hf]
      refine ⟨trivial, rfl, (callsIn_wide.2 HT1.out).mono ?_⟩
      rintro e w3 ⟨u0, ⟨vu, rfl, hb3, ou⟩, nu, lu, ku⟩
      obtain ⟨au, cu0, hvf, hcu, _⟩ := ou.form
      subst hvf
      have hs3 : w2.heap.size ≤ w3.heap.size := hb3.size
      have B3 := hide (B2.out.trans (hb3.mono B2.out.size))
      have E3 := hide (below_blk hb3 E2.out (by omega))
      have OU := hide ou; have NU := hide nu; have LU := hide lu
      have hku : u0.length ≤ 90002 := by simpa using Nat.le_trans ku (by simp; omega)
      clear hb3 ou nu lu ku HT1 hw2 B2 E2 qc
      have HOU := hide (show (w3.alloc (.cells #[.int .i64 0] 3)).ownsRow w2.heap.size 3 1 (.slice au u0.length cu0) u0.length (icells u0) from World.ownsRow.alloc OU.out _)
      have HNU := hide (show ∀ j u, ([.int .i64 0] : List Value)[j]? = some u → (w3.alloc (.cells #[.int .i64 0] 3)).cell? ((⟨w3.heap.size, 0, none⟩ : Addr).add j) = some u from World.news_of_block (cs := #[.int .i64 0]) (t := 3) (fr := (0, 0)) (heap_alloc_new w3 _))
      have hz3 : (w3.alloc (.cells #[.int .i64 0] 3)).heap.size = w3.heap.size + 1 := by simp
      gi_wp2_with (gi_at_builtin; go_must (refine wpListIn_append_own _ rfl (.tmp 37) (.tmp 38) 46 rfl w2.heap.size 3 i0 _ 1 8 Tryz.underlying46 hi0 hz0 hz1 hz2 rfl (by decide) (.slice au u0.length cu0) _ _ rfl HOU.out ⟨w3.heap.size, 0, none⟩ 1 1 [.int .i64 0] rfl rfl HNU.out (by simp [Value.oneCell']) (by simp only [maxLen]; omega) (by omega) (by simp; omega) ?_); intro v4 w4 hown hg4 hiff; clear hiff; have OV := hide hown; have HG4 := hide hg4; clear hown hg4)
      have hb4 : Below w2.heap.size w3 w4 := ((Below.refl w2.heap.size w3).alloc hs3 _).grown HG4.out (by rw [hz3]; omega) (owns_ge OU.out (Nat.le_refl _))
      have E4 := hide (below_blk hb4 E3.out (by omega))
      have B4 := hide (B3.out.trans (hb4.mono (show w.heap.size ≤ w2.heap.size by omega)))
      obtain ⟨N, hN⟩ : ∃ N, N = (u0 ++ [0]).length := ⟨_, rfl⟩
      obtain ⟨gu, cu, hv4, hgu, ru⟩ := OwnL.row (base := w2.heap.size) (w := w4) (v := v4) (L := u0 ++ [0]) (by
        have h := OV.out
        unfold OwnL
        rw [List.length_append, icells_append]
        exact h) (by simp)
      subst hv4
      rw [← hN]
      have hN2 : N = u0.length + 1 := by rw [hN]; simp
      have RU := hide ru
      have hgl := ru.lt
      have hs4 : w2.heap.size ≤ w4.heap.size := by have := hb4.size; omega
      clear hb4 ru HOU HNU HG4 E3 B3 OV OU hz3 hN hi0 hz0 hz1 hz2
      obtain ⟨n1, ns1, nb1⟩ := heap1 w4 (rowO [f])
      obtain ⟨w5, hw5⟩ : ∃ w5, w4.alloc (.cells #[.int .i64 f] 3) = w5 := ⟨_, rfl⟩
      rw [show w4.alloc (rowO [f]) = w5 from hw5] at n1 ns1 nb1
      rw [hw5]
      have B5 := hide (B4.out.trans (nb1.mono (by omega)))
      have E5 := hide (below_blk nb1 E4.out (by omega))
      have R5 := hide (RU.out.below nb1 hgl)
      have HT2 := hide (times_any (.slice (some ⟨g1, o1, none⟩) y.length c1) (.slice (some ⟨w4.heap.size, 0, none⟩) 1 1) y [f] w5.heap.size w5 ((HB.out.below B5.out hB).mono (by omega)) (row_limbs n1 (by unfold maxLen; simp)) (Nat.le_refl _) HY.out.lt hF (by omega) (by simp))
      clear n1 nb1 hw5 B4 E4 RU
      refine ⟨trivial, rfl, (callsIn_wide.2 HT2.out).mono ?_⟩
      rintro e w6 ⟨v0, ⟨vv, rfl, hb6, ov⟩, nv, lv', kv⟩
      have hfl : lv 1000000000 [f] = f := by simp [lv]
      have LU2 := LU.out
      rw [hfl] at LU2 lv'
      obtain ⟨k1, k2, k3, hst⟩ := long_start HX.out HY.out NU.out nv hf1 LU2 lv' HLE.out (by rw [HM.out]; omega)
      obtain ⟨n, hn⟩ : ∃ n, n = v0.length := ⟨_, rfl⟩
      obtain ⟨gv, cv, hvv, hgv, rv⟩ := OwnL.row ov (fun e => by rw [e] at k1; simp at k1)
      subst hvv
      rw [← hn] at k1 k2 hst ⊢
      rw [← hN2] at hst
      obtain ⟨M, hM⟩ : ∃ M, M = N - n := ⟨_, rfl⟩
      rw [← hM] at hst
      have hMi : (N : Int) - (n : Int) = (M : Int) := by omega
      have hmk := make_ints M (by omega)
      have ST := hide hst
      have B6 := hide (B5.out.trans (hb6.mono (by omega)))
      have E6 := hide (below_blk hb6 E5.out (by omega))
      have R6 := hide (R5.out.below hb6 (by omega)); have V6 := hide rv
      have hs6 : w5.heap.size ≤ w6.heap.size := hb6.size
      have hgvl := rv.lt
      have NV := hide nv; have LV := hide lv'; have HN := hide hn; have HMM := hide hM
      have hn0 : n ≤ 180000 := by omega
      clear hb6 ov nv lv' kv hst rv HT2 B5 E5 R5 hn hM LU2 hfl
      have hcl : ((N : Int) < (x.length : Int) + 1) = False := eq_false (by omega)
      have hMu : M + n = N := by omega
      have hMl : (M : Int) ≤ 200000 := by omega
      have HMU := hide hMu
      have hNl : N ≤ 90003 := by omega
      have HN2 := hide hN2
      clear hN2 k3 k2 hMu
      have k2 : n ≤ N := by have := HMM.out; have := HN2.out; have := hMi; omega
      obtain ⟨p0, p1, ps, pb⟩ := heap2 w6 (.cells #[.slice (some ⟨gu, 0, none⟩) N cu] 46) (.cells #[.slice (some ⟨gv, 0, none⟩) n cv] 46)
      obtain ⟨w7, hw7⟩ : ∃ w7, (w6.alloc (.cells #[.slice (some ⟨gu, 0, none⟩) N cu] 46)).alloc (.cells #[.slice (some ⟨gv, 0, none⟩) n cv] 46) = w7 := ⟨_, rfl⟩
      rw [hw7] at p0 p1 ps pb
      have B7 := hide (B6.out.trans (pb.mono (by omega)))
      have E7 := hide (below_blk pb E6.out (by omega))
      have R7 := hide (R6.out.below pb (by omega)); have V7 := hide (V6.out.below pb hgvl)
      have U7 := hide p0; have W7 := hide p1
      have c7 := cell_blk p0 0
      have c8 := cell_blk p1 0
      clear pb B6 E6 R6 V6 p0 p1
      gi_wp2_with fail
      clear hw7
      have e4 := cell_blk E7.out 0
      have q4 := froz_blk E7.out 0
      have HS7 := hide (show w7.heap.size = w6.heap.size + 2 by omega)
      have hs7 : w6.heap.size + 2 ≤ w7.heap.size := by omega
      have hz7 : w.heap.size < w7.heap.size := by omega
      have hz6 : w6.heap.size < w7.heap.size := by omega
      have hz61 : w6.heap.size + 1 < w7.heap.size := by omega
      clear ps
      gi_loopw [] (fun wr => wr = w7) (fun _ => 0)
      case atStart => rfl
      case round =>
        subst hrel
        gi_wp2_with fail
        clear c7 c8 e4 q4 hmk
        rw [HS7.out]
        obtain ⟨h7, hh7⟩ : ∃ h, h = w6.heap.size := ⟨_, rfl⟩
        have IX := hide (show DvIx w.heap.size gu gv w6.heap.size from ⟨by omega, by omega, hgvl⟩)
        have hzs : (wr.setCell ⟨w.heap.size, 0, none⟩ (.slice (some ⟨w6.heap.size + 2, 0, none⟩) M M)).heap.size = wr.heap.size := setCell_size _ _ _
        obtain ⟨y0, ys0, yb0⟩ := heap1 (wr.setCell ⟨w.heap.size, 0, none⟩ (.slice (some ⟨w6.heap.size + 2, 0, none⟩) M M)) (rowO (zeros M))
        obtain ⟨y1, ys1, yb1⟩ := heap1 ((wr.setCell ⟨w.heap.size, 0, none⟩ (.slice (some ⟨w6.heap.size + 2, 0, none⟩) M M)).alloc (rowO (zeros M))) (.cells #[.slice (some ⟨w6.heap.size + 2, 0, none⟩) M M] 46)
        rw [hzs] at y0 ys0 yb0
        rw [ys0] at y1 ys1 yb1
        rw [HS7.out] at y0 y1
        have yb := (yb0.trans (yb1.mono (by omega)))
        refine ⟨trivial, rfl, (callsIn_wide.2 (backward_any (some ⟨w6.heap.size + 2, 0, none⟩) M M _)).mono ?_⟩
        rintro e w9 ⟨rfl, hw9⟩
        rw [hw9] at y1 ys1 yb1 yb
        have hlt7 : ∀ {i : Nat}, i < wr.heap.size → i ≠ w.heap.size → w9.heap[i]? = wr.heap[i]? := fun {i} h1 h2 => (yb.block i h1).trans (setCell_other (Ne.symm h2))
        have DS := hide (show DvSt w gu cu gv cv w6.heap.size N n M (u0 ++ [0]) v0 (zeros M) w9 from
          ⟨(yb.block _ (by omega)).trans (Boxed.set _ E7.out), (hlt7 hz6 (by omega)).trans U7.out, (hlt7 hz61 (by omega)).trans W7.out, y1, R7.out.of_eq (hlt7 (by omega) (by omega)), V7.out.of_eq (hlt7 (by omega) (by omega)),
            (yb1.block _ (by omega)).trans y0, (B7.out.setCell (p := ⟨w.heap.size, 0, none⟩) (by simp) _).trans (yb.mono (by omega))⟩)
        have hs9 : w6.heap.size + 4 ≤ w9.heap.size := by have := HS7.out; omega
        have HS9 := hide (show w9.heap.size = w6.heap.size + 4 by have := HS7.out; omega)
        clear y0 ys0 yb0 y1 ys1 yb1 yb hlt7 hzs
        gi_wp2_with fail
        clear hw9
        rw [HS7.out]
        refine wp_iter_on (gf := 102) (lb := #[.pointer (some ⟨w6.heap.size + 2 + 1, 0, none⟩)]) rfl (enters_of Tryz.func102 (by kernel_rfl) rfl) (backSeq_any (w6.heap.size + 2 + 1) M M (some ⟨w6.heap.size + 2, 0, none⟩) (fun _ => 0) (by omega)) (fun _ => rfl)
          (fun k S W => S = (fun _ => False) ∧ ∃ L Q, LongAt (lv 1000000000 u0) v0 N M k L Q ∧ DvSt w gu cu gv cv w6.heap.size N n M L v0 Q W)
          (fun _ _ _ => False) ?hI (fun _ _ _ _ h _ => h) ?h0 ?hke
          (fun k S a1' W => a1' = { tmps := #[.slice a0 x.length c0, .slice (some ⟨g1, o1, none⟩) y.length c1, undef, undef, .pointer (some ⟨w.heap.size, 0, none⟩), .slice none 0 0, .int .i64 f, .pointer (some ⟨w6.heap.size, 0, none⟩), .pointer (some ⟨w6.heap.size + 1, 0, none⟩), .int .i64 ((M : Int) - 1 - k), undef, .slice a0 x.length c0, .slice (some ⟨g1, o1, none⟩) y.length c1, .int .i64 rc, .bool false, undef, .slice (some ⟨g1, o1, none⟩) y.length c1, .int .i64 y.length, .bool false, undef, undef, undef, undef, undef, undef, undef, .slice (some ⟨g1, o1, none⟩) y.length c1, .slice (some ⟨g1, o1, none⟩) y.length c1, .int .i64 y.length, .int .i64 b, .pointer (some ⟨g1, o1 + b, none⟩), .int .i64 t, .int .i64 ((t : Int) + 1), .int .i64 f, .slice a0 x.length c0, .int .i64 f, .slice (some ⟨w1.heap.size, 0, none⟩) 1 1, .slice au u0.length cu0, .slice (some ⟨w3.heap.size, 0, none⟩) 1 1, .slice (some ⟨gu, 0, none⟩) N cu, .slice (some ⟨g1, o1, none⟩) y.length c1, .int .i64 f, .slice (some ⟨w4.heap.size, 0, none⟩) 1 1, .slice (some ⟨gv, 0, none⟩) n cv, .slice (some ⟨gu, 0, none⟩) N cu, .int .i64 N, .slice a0 x.length c0, .int .i64 x.length, .int .i64 ((x.length : Int) + 1), .bool false, u50, u51, u52, .slice (some ⟨gu, 0, none⟩) N cu, .int .i64 N, .slice (some ⟨gv, 0, none⟩) n cv, .int .i64 n, .int .i64 M, .slice (some ⟨w6.heap.size + 2, 0, none⟩) M M, .slice (some ⟨w6.heap.size + 2, 0, none⟩) M M, .func (.func 102) #[] #[.pointer (some ⟨w6.heap.size + 2 + 1, 0, none⟩)], .int .i64 ((M : Int) - 1 - k), .int .i64 0, undef, undef, undef, undef, undef, undef, undef, undef, undef, undef, undef, undef, undef, undef, undef, undef, undef, undef, undef, undef, undef, undef, undef, undef, undef, undef, undef, undef, undef, undef], defers := [] })
          ?hAx ?hassign ?hS ?hbody ?hdone ?hstop
        case hI =>
          rintro k S W W2 ⟨rfl, L, Q, h1, h2⟩ hq
          exact ⟨rfl, L, Q, h1, h2.quiet IX.out hq hs9⟩
        case h0 => exact ⟨rfl, _, _, ST.out, DS.out⟩
        case hke =>
          rintro k S W hk ⟨rfl, L, Q, h1, h2⟩
          refine ⟨h2.bx, fun hlt => ⟨_, _, rfl, ?_⟩⟩
          have h3 := row_cell h2.q (i := M - 1 - k) (by rw [h1.lq]; omega)
          rw [h1.zero _ (by omega)] at h3
          rw [Nat.zero_add]
          exact h3
        case hAx =>
          rintro k S a1' W l r r2 h _
          exact h
        case hassign =>
          intro l k S W K hsz hSlt hK
          gi_wp2
          exact hK _ _ (Quiet.refl _ _ _) (Upd.refl _ _ _) rfl
        case hS =>
          rintro k S W ⟨rfl, _⟩ b hb
          exact hb.elim
        case hstop =>
          intro D c S W _ h
          exact h.elim
        case hbody =>
          rintro l k S a1' W hk ⟨rfl, L, Q, hl, st⟩ rfl hsz
          obtain ⟨j, hj⟩ : ∃ j : Nat, (M : Int) - 1 - (k : Int) = j := ⟨M - 1 - k, by omega⟩
          have hj2 : j = M - 1 - k := by omega
          rw [hj]
          have hnm : ∃ m2, n = m2 + 2 := ⟨n - 2, by omega⟩
          obtain ⟨m2, hnm⟩ := hnm
          have hvm : v0.length = m2 + 2 := by rw [← HN.out]; exact hnm
          have hsm := hl.small
          rw [show M - k = j + 1 by omega] at hsm
          have hMU := HMU.out
          have hjN : j + (m2 + 2) < N := by omega
          have HE := hide (estimate_any gu cu L gv cv v0 j m2 W st.u st.v hl.lt NV.out hvm (by rw [hl.ll]; exact hjN) (by rw [hl.ll]; omega) hsm)
          rw [hl.ll, ← HN.out] at HE
          have hgne : gv ≠ gu := by omega
          have HTk := hide (fun (q : Nat) (W2 : World) (h1 : RowAt W2 gu cu L) (h2 : RowAt W2 gv cv v0) (hq : q < 1000000000) => take_any gu cu L gv cv v0 j q W2 h1 h2 hgne hl.lt NV.out.lt (by rw [hl.ll, ← HN.out]; omega) hq (by rw [hl.ll]; omega))
          have HRs := hide (fun (q : Nat) (M2 : List Nat) (W2 : World) (h1 : RowAt W2 gu cu M2) (h2 : RowAt W2 gv cv v0) (hM2 : Lt 1000000000 M2) (hlen : M2.length = N) (hq : q < 1000000000) => restore_any gu cu M2 gv cv v0 j q W2 h1 h2 hgne hM2 NV.out.lt (by rw [hlen, ← HN.out]; omega) hq (by rw [hlen]; omega))
          rw [hl.ll, ← HN.out] at HTk
          have c7 := cell_blk st.uv 0
          have c8 := cell_blk st.vv 0
          have HL := hide hl; have SS := hide st; have HJ := hide hj2; have HNM := hide hnm; have HVM := hide hvm
          have hz6 : w6.heap.size < W.heap.size := lt_blk st.uv
          clear hl st hj2 hsm hj hvm hMU hnm hMi e3 hf hq hr hcl
          gi_wp2_with fail
          refine ⟨trivial, rfl, (CallsIn.inRound l (callsIn_wide.2 HE.out)).mono ?_⟩
          rintro e W1 ⟨q, rfl, hq, hqs, hbq⟩
          have S1 := hide (SS.out.keep hbq)
          have U1 := hide ((Upd.refl w9.heap.size (fun _ => False) W).of_below hbq (Nat.le_refl _))
          have HQ := hide hqs
          clear hbq hqs c7 c8 HE SS
          gi_wp2_with fail
          have hgw9 : gu < w9.heap.size := by omega
          have hjM : j < M := by have := HJ.out; omega
          have hjMi : (j : Int) < (M : Int) := by omega
          gi_loopw [10] (fun qq wr2 => ∃ q : Nat, qq = .int .i64 q ∧ q < 1000000000 ∧ Hid (lvT 1000000000 (L.drop j) (m2 + 3) < (q + 1) * lv 1000000000 v0 ∧ DvSt w gu cu gv cv w6.heap.size N n M L v0 Q wr2 ∧ Upd w9.heap.size (fun _ => False) (fun _ => False) W wr2)) (fun qq _ => (intOf qq).toNat)
          case atStart => exact ⟨q, rfl, hq, HQ.out, S1.out, U1.out⟩
          case round =>
            clear S1 U1 HQ hq
            obtain ⟨q, rfl, hq, hin⟩ := hrel
            have I1 := hide hin.out.1; have I2 := hide hin.out.2.1; have I3 := hide hin.out.2.2
            have HT := hide (HTk.out q wr I2.out.u I2.out.v hq)
            have c7 := cell_blk I2.out.uv 0
            have c8 := cell_blk I2.out.vv 0
            clear hin
            gi_wp2_with fail
            refine ⟨trivial, rfl, (CallsIn.inRound l (callsIn_wide.2 HT.out)).mono ?_⟩
            rintro e W2 ⟨C, M2, rfl, ho, hr, hM2, hw, he⟩
            have S2 := hide (I2.out.row IX.out ho hr)
            have U2 := hide (Only.upd I3.out ho hgw9)
            rw [HNM.out] at hw he
            have HM2 := hide hM2
            have HW := hide (show WinEq j (m2 + 3) L M2 from hw)
            have HE := hide (show lvT 1000000000 (M2.drop j) (m2 + 3) + q * lv 1000000000 v0 = lvT 1000000000 (L.drop j) (m2 + 3) + 1000000000 ^ (m2 + 3) * C from he)
            clear ho hr hM2 hw he HT c7 c8 I2 I3
            rcases Nat.eq_zero_or_pos C with hC | hC
            · subst hC
              have HSt := hide (HL.out.step NV.out HVM.out (by have := HMU.out; have := HNM.out; omega) hk HJ.out hq HW.out HM2.out (by have := HE.out; rw [Nat.mul_zero, Nat.add_zero] at this; exact this) I1.out)
              have c4 := cell_blk S2.out.qv 0
              have f4 := row_froz S2.out.q j
              have hz8 : w6.heap.size + 2 < W2.heap.size := lt_blk S2.out.q
              have hmq : j < Q.length := by rw [HL.out.lq]; exact hjM
              have c5 := row_cell S2.out.q hmq
              gi_wp2_with fail
              exact ⟨fun _ => False, U2.out.setBox (by simp; omega) _, rfl, M2, Q.set j q, HSt.out, S2.out.quot IX.out j q⟩
            · have hM2l : M2.length = N := HW.out.len.trans HL.out.ll
              have HR := hide (HRs.out q M2 W2 S2.out.u S2.out.v HM2.out hM2l hq)
              rw [hM2l, ← HN.out] at HR
              have hB := lvT_lt (b := 1000000000) (by omega) (lt_drop HM2.out j) (m2 + 3)
              have hge : 1000000000 ^ (m2 + 3) * 1 ≤ 1000000000 ^ (m2 + 3) * C := Nat.mul_le_mul_left _ hC
              have hqV : lvT 1000000000 (L.drop j) (m2 + 3) < q * lv 1000000000 v0 := by have := HE.out; omega
              have hq1 : 1 ≤ q := by
                rcases Nat.eq_zero_or_pos q with h0 | h0
                · rw [h0, Nat.zero_mul] at hqV
                  omega
                · exact h0
              obtain ⟨q2, hq2⟩ : ∃ q2, q = q2 + 1 := ⟨q - 1, by omega⟩
              have HQV := hide (show lvT 1000000000 (L.drop j) (m2 + 3) < (q2 + 1) * lv 1000000000 v0 by rw [← hq2]; exact hqV)
              have hqi : (1 : Int) ≤ (q : Int) := by omega
              have HQ2 := hide hq2
              have w9' : (q : Int) - 1 = (q2 : Int) := by omega
              have hq2l : q2 < q := by omega
              have c7 := cell_blk S2.out.uv 0
              have c8 := cell_blk S2.out.vv 0
              clear hB hge hqV hq1 hq2 hM2l
              gi_wp2_with fail
              refine ⟨trivial, rfl, (CallsIn.inRound l (callsIn_wide.2 HR.out)).mono ?_⟩
              rintro e W3 ⟨C3, R, rfl, ho, hr, hR, hw, he⟩
              rw [HNM.out] at hw he
              have hRL : R = L := win_back (by omega) HL.out.lt hR HW.out hw HE.out he
              subst hRL
              have S3 := hide (S2.out.row IX.out ho hr)
              have U3 := hide (Only.upd U2.out ho hgw9)
              clear ho hr hR hw he c7 c8 HR S2 U2
              have c7 := cell_blk S3.out.uv 0
              have f7 := froz_blk S3.out.uv 0
              have hz8 : w6.heap.size < W3.heap.size := lt_blk S3.out.uv
              gi_wp2_with fail
              go_roundw
              case rel => exact ⟨q2, by first | rfl | rw [w9'], by omega, HQV.out, S3.out.same IX.out, U3.out.setBox (by simp; omega) _⟩
              case measure => simp [intOf]; omega
        case hdone =>
          rintro D S W hD ⟨rfl, L, Q, hl, st⟩ hK
          have HTu := hide (trim_any (some ⟨gu, 0, none⟩) cu L W.heap.size W st.u.limbs (by obtain ⟨_, _, h, _⟩ := st.u; exact h) (by rw [hl.ll]; omega))
          rw [hl.ll] at HTu
          have hLL : LimbAt W.heap.size W (.slice (some ⟨gu, 0, none⟩) (trimTo L N) cu) (trimL L) := by
            have h1 := ((st.u.own (base := 0) (Nat.zero_le _)).cut (k := trimTo L L.length) (trimTo_le _ _)).at_
            unfold trimL
            rw [hl.ll] at h1 ⊢
            exact h1
          have HDS := hide (divideShort_any _ (trimL L) f W.heap.size W hLL (Nat.le_refl _) (trimL_norm hl.lt).lt (by rw [trimL_len]; have := trimTo_le L L.length; rw [hl.ll] at this; rw [hl.ll]; omega) hf1 hf2)
          have HTq := hide (fun (W2 : World) (h : W2.heap[w6.heap.size + 1 + 1]? = some (rowO Q)) => trim_any (some ⟨w6.heap.size + 1 + 1, 0, none⟩) M Q W2.heap.size W2 (by
            have := row_limbs h (by rw [hl.lq]; unfold maxLen; omega)
            rw [hl.lq] at this ⊢
            exact this) (by rw [hl.lq]; exact Nat.le_refl _) (by rw [hl.lq]; omega))
          rw [hl.lq] at HTq
          have hdn := hl.done
          have c7 := cell_blk st.uv 0
          have hKl : D < W.heap.size := lt_blk hK
          have HDN := hide hdn; have SS := hide st; have HK := hide hK; have HQL := hide hl.lq; have HQT := hide hl.qt
          have hsw : w6.heap.size + 2 < W.heap.size := lt_blk st.q
          have hw0 : w.heap.size < w6.heap.size := by omega
          clear hl st hK hLL hdn hMi e3 hf hq hr hcl
          gi_wp2_with fail
          refine ⟨trivial, rfl, (callsIn_wide.2 HTu.out).mono ?_⟩
          rintro e W1 ⟨rfl, rfl⟩
          gi_wp2_with fail
          refine ⟨trivial, rfl, (callsIn_wide.2 HDS.out).mono ?_⟩
          rintro e W2 ⟨vq, vr, q, r, rfl, hb2, oq, or_, nq, nr, eq, er, lq, lr⟩
          obtain ⟨aq, cq, hvf, _, _⟩ := oq.form
          subst hvf
          have S2 := hide (SS.out.keep hb2)
          have K2 := hide (below_blk hb2 HK.out hKl)
          have OQ := hide oq; have NQ := hide nq; have EQ := hide eq
          have hsw2 : W.heap.size ≤ W2.heap.size := hb2.size
          clear hb2 oq or_ nq nr eq er c7 HTu HDS SS HK lr
          have c4 := cell_blk S2.out.qv 0
          have f4 := froz_blk S2.out.qv 0
          have hz8 : w.heap.size < W2.heap.size := lt_blk S2.out.qv
          have HTq2 := hide (HTq.out W2 S2.out.q)
          gi_wp2_with fail
          refine ⟨trivial, rfl, (callsIn_wide.2 HTq2.out).mono ?_⟩
          rintro e W3 ⟨rfl, rfl⟩
          gi_wp2_with fail
          obtain ⟨Wf, hWf⟩ : ∃ Wf, Wf = W2.setCell ⟨w.heap.size, 0, none⟩ (.slice (some ⟨w6.heap.size + 1 + 1, 0, none⟩) (trimTo Q M) M) := ⟨_, rfl⟩
          rw [← hWf]
          have E1 : Wf.heap[w.heap.size]? = some (.cells #[.slice (some ⟨w6.heap.size + 1 + 1, 0, none⟩) (trimTo Q M) M] 46 (0, 0)) := by
            rw [hWf]; exact Boxed.set _ S2.out.qv
          have ED : Wf.heap[D]? = some (.deferred (some [])) := by
            rw [hWf]; exact (setCell_other (by omega)).trans K2.out
          have EQ2 : Wf.heap[w6.heap.size + 1 + 1]? = some (rowO Q) := by
            rw [hWf]; exact (setCell_other (by omega)).trans S2.out.q
          have EB : Below w.heap.size w Wf := by
            rw [hWf]; exact S2.out.below.setCell (p := ⟨w.heap.size, 0, none⟩) (by simp) _
          have EO : OwnL W.heap.size Wf (.slice aq q.length cq) q := by
            rw [hWf]; exact OQ.out.other (p := ⟨w.heap.size, 0, none⟩) (by simp; omega) _
          clear hWf
          refine ⟨by simp, .inl ⟨_, _, rfl, run_takeDeferred ED, ?_⟩⟩
          have F1 : (Wf.putObj D (.deferred none)).heap[w.heap.size]? = some (.cells #[.slice (some ⟨w6.heap.size + 1 + 1, 0, none⟩) (trimTo Q M) M] 46 (0, 0)) := (World.putObj_heap_other (by omega)).trans E1
          have F2 : (Wf.putObj D (.deferred none)).heap[w6.heap.size + 1 + 1]? = some (rowO Q) := (World.putObj_heap_other (by omega)).trans EQ2
          have hc := cell_blk F1 0
          have hfin : lv 1000000000 Q = lv 1000000000 x / lv 1000000000 y ∧ lv 1000000000 L / f = lv 1000000000 x % lv 1000000000 y := by
            have h1 := HDN.out; have h2 := LU.out; have h3 := LV.out
            rw [show lv 1000000000 [f] = f by simp [lv]] at h2
            rw [h2, h3] at h1
            exact rem_back hf1 h1.1 h1.2
          have hq1 : lv 1000000000 q = lv 1000000000 x % lv 1000000000 y := by
            rw [EQ.out, trimL_lv, show lv 1000000000 [f] = f by simp [lv]]
            exact hfin.2
          have hQ1 : lv 1000000000 (trimL Q) = lv 1000000000 x / lv 1000000000 y := by rw [trimL_lv]; exact hfin.1
          refine ⟨.tuple #[.slice (some ⟨w6.heap.size + 1 + 1, 0, none⟩) (trimTo Q M) M, .slice aq q.length cq], by simp [results, go_sem, hc], _, _, trimL Q, q, rfl, EB.trans (belowK_b (w := w) (Nat.le_refl _) _ D _ _ (by omega) ED rfl rfl), ?_, ?_, trimL_norm HQT.out, NQ.out, hQ1, hq1, ?_, ?_⟩
          · have h1 := (row_owns (base := 0) F2 (Nat.zero_le _) (by rw [HQL.out]; unfold maxLen; omega)).cut (k := trimTo Q Q.length) (trimTo_le _ _)
            have h2 := LimbAt.of_own h1
            unfold trimL
            rw [HQL.out] at h2 ⊢
            exact h2
          · exact LimbAt.of_own (owns_stay EO (fun r hr => World.putObj_heap_other (by have := owns_ge EO (Nat.le_refl _) r hr; omega)))
          · exact norm_le (trimL_norm HQT.out) HX.out.lt (by rw [hQ1]; exact Nat.div_le_self _ _)
          · exact norm_le NQ.out HX.out.lt (by rw [hq1]; exact Nat.mod_le _ _)
end Go.Proofs.YthkioajalhglfaaGreatDoor
