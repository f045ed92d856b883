/-
 Texts laid together.
-/
import Derived.Test.YtklgpilgalfckaaGreatDoorMA4
import Derived.Test.YtklgpilgalfckaaGreatDoorMA6
import Derived.Test.YtklgpilgalfckaaGreatDoorMA5
set_option maxRecDepth 100000
set_option maxHeartbeats 8000000
namespace Go.Proofs.YtklgpilgalfckaaGreatDoor
open Go.RowKit Go.KP Go.KI Go.Shelf
attribute [local go_sem] Oper.semAt_some

theorem jU (va vb : Value) (x y : List Nat) (B : Nat) (w : World) (ha : LimbAt B w va x) (hb : LimbAt B w vb y) (hB : B ≤ w.heap.size) (hx : Norm 1000000000 x) (hy : Norm 1000000000 y) (hy0 : y ≠ []) (lx : x.length ≤ 90000) (ly : y.length ≤ 90000) :
 Calls Tryz.prog 196 #[va, vb] w (DivRes x y w) := by
 obtain ⟨a0, c0, hva⟩ := ha.form
 obtain ⟨a1, c1, hvb⟩ := hb.form
 subst hva; subst hvb
 have HA := hide ha; have HB := hide hb; have HX := hide hx; have HY := hide hy
 obtain ⟨g1, o1, hv1, hcy⟩ : ∃ g o, a1 = some ⟨g, o, none⟩ ∧ g < B ∧ ∀ i, i < y.length → w.cell? ⟨g, o + i, none⟩ = some (.int .i64 (lat y i)) := by
  rcases hb.cases with ⟨_, _, _, hnil⟩ | ⟨g, o, cap, hv, hg, hc⟩
  ·exact absurd hnil hy0
  ·injection hv with hv1 hv2 hv3
   exact ⟨g, o, hv1, hg, hc⟩
 subst hv1
 have hly : 1 ≤ y.length := List.length_pos_iff.2 hy0
 have hyp : 1 ≤ lv 1000000000 y := by
  have h1 := hy.ge hy0
  have h2 : 0 < 1000000000 ^ (y.length - 1) := Nat.pow_pos (by omega)
  omega
 have HCY := hide hcy
 obtain ⟨b0, hs0, hB0⟩ := heap1 w (.cells #[.slice none 0 0] 199)
 have HC := hide (vO (.slice a0 x.length c0) (.slice (some ⟨g1, o1, none⟩) y.length c1) x y B (w.alloc (.cells #[.slice none 0 0] 199)) (ha.below hB0 hB) (hb.below hB0 hB) (by omega) hx hy (by omega) (by omega))
 clear ha hb hx hy hcy
 refine (callsIn_wide (n := 0)).1 ?_
 refine callsIn_of_wp_marks Tryz.func196 rfl trivial ?_ rfl
 simp only [Tryz.ntmps196, List.size_toArray, List.length_cons, List.length_nil, Nat.reduceAdd, Nat.reduceSub, Array.replicate_succ, Array.replicate_zero, List.push_toArray, List.append_toArray, List.nil_append, List.cons_append]
 have H0 := hide b0; have HB0 := hide hB0
 clear b0 hB0
 gi_wp2_with fail
 refine ⟨trivial, rfl, (callsIn_wide.2 HC.out).mono ?_⟩
 rintro e w1 ⟨rc, rfl, hcr, hb1⟩
 have E0 := hide (yc hb1 H0.out (by omega))
 have B1 := hide (HB0.out.trans (hb1.mono (by omega)))
 have hs1 : w.heap.size + 1 ≤ w1.heap.size := by have := hb1.size; omega
 clear hb1 HC H0 HB0 hs0
 by_cases hlt : lv 1000000000 x < lv 1000000000 y
 ·have hr : rc < 0 := hcr.1.2 hlt
  have HLT := hide hlt
  have c0' := ya E0.out 0
  have f0' := yf E0.out 0
  clear hcr hlt
  gi_wp2_with fail
  have hc := ya (Boxed.set (.slice none 0 0) E0.out) 0
  refine ⟨.tuple #[.slice none 0 0, .slice a0 x.length c0], by simp [results, go_sem, hc], .slice none 0 0, .slice a0 x.length c0, [], x, rfl, B1.out.setCell (p := ⟨w.heap.size, 0, none⟩) (by simp) _, LimbAt.nil _ _, ?_, Norm.nil _, HX.out, ?_, ?_, Nat.zero_le _, Nat.le_refl _⟩
  ·exact ((HA.out.below B1.out hB).below ((Below.refl w.heap.size w1).setCell (p := ⟨w.heap.size, 0, none⟩) (by simp) _) hB).mono (by rw [qK]; have := B1.out.size; omega)
  ·rw [Nat.div_eq_of_lt HLT.out]; rfl
  ·rw [Nat.mod_eq_of_lt HLT.out]
 ·have hr : (rc < 0) = False := eq_false (fun h => hlt (hcr.1.1 h))
  have HLE := hide (Nat.le_of_not_lt hlt)
  clear hcr hlt
  by_cases h1 : y.length = 1
  ·have hq : ((y.length : Int) == 1) = true := by rw [h1]; rfl
   have hyd : y = [lat y 0] := by
    match y, h1 with
    | [z], _ => rfl
   have hd := yF (b := 1000000000) (by omega) HY.out.lt 0
   have hd1 : 1 ≤ lat y 0 := by
    have := HY.out.top.resolve_left hy0
    rw [h1] at this
    have : lat y 0 ≠ 0 := this
    omega
   have qc : w1.cell? ⟨g1, o1, none⟩ = some (.int .i64 (lat y 0)) := by
    have := (HB.out.below B1.out hB).cases
    have h2 := HCY.out.2 0 (by omega)
    rw [Nat.add_zero] at h2
    exact (B1.out.cell (p := ⟨g1, o1, none⟩) (by have := HCY.out.1; simp; omega)).trans h2
   have HS := hide (jP (.slice a0 x.length c0) x (lat y 0) B w1 (HA.out.below B1.out hB) (by omega) HX.out.lt (by omega) hd1 hd)
   rw [← hyd] at HS
   have hl1 : (0 : Int) < (y.length : Int) := by omega
   obtain ⟨d, hd2⟩ := xe (lat y 0)
   rw [← hd2] at qc HS hd hd1
   clear hyd hd2 h1
   gi_wp2_with fail
   refine ⟨trivial, rfl, (callsIn_wide.2 HS.out).mono ?_⟩
   rintro e w2 ⟨vq, vr, q, r, rfl, hb2, o1', o2', n1, n2, v1, v2, l1, l2⟩
   obtain ⟨aq, cq, hvf, _, _⟩ := o1'.form
   subst hvf
   obtain ⟨ar, cr, hvf, _, _⟩ := o2'.form
   subst hvf
   have E2 := hide (yc hb2 E0.out (by omega))
   have B2 := hide (B1.out.trans (hb2.mono (by omega)))
   have O1 := hide o1'; have O2 := hide o2'; have N1 := hide n1; have N2 := hide n2; have V1 := hide v1; have V2 := hide v2
   have hs2 : w.heap.size < w2.heap.size := by have := hb2.size; omega
   clear hb2 o1' o2' n1 n2 v1 v2 E0 B1
   have c0' := ya E2.out 0
   have f0' := yf E2.out 0
   gi_wp2_with fail
   have hc := ya (Boxed.set (.slice aq q.length cq) E2.out) 0
   refine ⟨.tuple #[.slice aq q.length cq, .slice ar r.length cr], by simp [results, go_sem, hc], _, _, q, r, rfl, B2.out.setCell (p := ⟨w.heap.size, 0, none⟩) (by simp) _, LimbAt.yx (O1.out.other (p := ⟨w.heap.size, 0, none⟩) (by simp; omega) _), LimbAt.yx (O2.out.other (p := ⟨w.heap.size, 0, none⟩) (by simp; omega) _), N1.out, N2.out, V1.out, V2.out, l1, l2⟩
  ·obtain ⟨m, hm⟩ : ∃ m, y.length = m + 2 := ⟨y.length - 2, by omega⟩
   have hq : ((y.length : Int) == 1) = false := by
    have : (y.length : Int) ≠ 1 := by omega
    simpa using this
   obtain ⟨b, hbb⟩ := xe (m + 1)
   have e3 : (y.length : Int) - 1 = (b : Int) := by omega
   have hbl : (b : Int) < (y.length : Int) := by omega
   have ht := yF (b := 1000000000) (by omega) HY.out.lt b
   have ht1 : 1 ≤ lat y b := by
    have := HY.out.top.resolve_left hy0
    rw [hm, show m + 2 - 1 = b by omega] at this
    omega
   have qc : w1.cell? ⟨g1, o1 + b, none⟩ = some (.int .i64 (lat y b)) :=
    (B1.out.cell (p := ⟨g1, o1 + b, none⟩) (by have := HCY.out.1; simp; omega)).trans (HCY.out.2 b (by omega))
   obtain ⟨t, ht2⟩ := xe (lat y b)
   rw [← ht2] at ht ht1 qc
   obtain ⟨f, hf, hf1, hf2, hf0, -⟩ := ydA ht1 ht
   have hti : (t : Int) < 1000000000 := by omega
   have HM := hide hm; have HBB := hide hbb
   obtain ⟨i0, hi0, hz0, hz1, hz2⟩ := info_parts info3
   obtain ⟨n0, ns, nb⟩ := heap1 w1 (rowO [f])
   obtain ⟨w2, hw2⟩ : ∃ w2, w1.alloc (.cells #[.int .i64 f] 3) = w2 := ⟨_, rfl⟩
   rw [show w1.alloc (rowO [f]) = w2 from hw2] at n0 ns nb
   have B2 := hide (B1.out.trans (nb.mono (by omega)))
   have E2 := hide (yc nb E0.out (by omega))
   have hF : Lt 1000000000 [f] := fun z hz => by
    simp only [List.mem_singleton] at hz
    omega
   have HT1 := hide (wW (.slice a0 x.length c0) (.slice (some ⟨w1.heap.size, 0, none⟩) 1 1) x [f] w2.heap.size w2 ((HA.out.below B2.out hB).mono (by omega)) (yV n0 (by unfold maxLen; simp)) (Nat.le_refl _) HX.out.lt hF (by omega) (by simp))
   have hs2 : w1.heap.size < w2.heap.size := by omega
   clear ht2 hm hbb h1 n0 ns nb
   gi_wp2_with fail
   rw [hf]
   refine ⟨trivial, rfl, (callsIn_wide.2 HT1.out).mono ?_⟩
   rintro e w3 ⟨u0, ⟨vu, rfl, hb3, ou⟩, nu, lu, ku⟩
   obtain ⟨au, cu0, hvf, hcu, _⟩ := ou.form
   subst hvf
   have hs3 : w2.heap.size ≤ w3.heap.size := hb3.size
   have B3 := hide (B2.out.trans (hb3.mono B2.out.size))
   have E3 := hide (yc hb3 E2.out (by omega))
   have OU := hide ou; have NU := hide nu; have LU := hide lu
   have hku : u0.length ≤ 90002 := by simpa using Nat.le_trans ku (by simp; omega)
   clear hb3 ou nu lu ku HT1 hw2 B2 E2 qc
   have HOU := hide (show (w3.alloc (.cells #[.int .i64 0] 3)).ownsRow w2.heap.size 3 1 (.slice au u0.length cu0) u0.length (icells u0) from World.ownsRow.alloc OU.out _)
   have HNU := hide (show ∀ j u, ([.int .i64 0] : List Value)[j]? = some u → (w3.alloc (.cells #[.int .i64 0] 3)).cell? ((⟨w3.heap.size, 0, none⟩ : Addr).add j) = some u from World.news_of_block (cs := #[.int .i64 0]) (t := 3) (fr := (0, 0)) (heap_alloc_new w3 _))
   have hz3 : (w3.alloc (.cells #[.int .i64 0] 3)).heap.size = w3.heap.size + 1 := by simp
   gi_wp2_with (gi_at_builtin; go_must (refine wpListIn_append_own _ rfl (.tmp 37) (.tmp 38) 199 rfl w2.heap.size 3 i0 _ 1 8 Tryz.underlying199 hi0 hz0 hz1 hz2 rfl (by decide) (.slice au u0.length cu0) _ _ rfl HOU.out ⟨w3.heap.size, 0, none⟩ 1 1 [.int .i64 0] rfl rfl HNU.out (by simp [Value.oneCell']) (by simp only [maxLen]; omega) (by omega) (by simp; omega) ?_); intro v4 w4 hown hg4 hiff; clear hiff; have OV := hide hown; have HG4 := hide hg4; clear hown hg4)
   have hb4 : Below w2.heap.size w3 w4 := ((Below.refl w2.heap.size w3).alloc hs3 _).grown HG4.out (by rw [hz3]; omega) (qG OU.out (Nat.le_refl _))
   have E4 := hide (yc hb4 E3.out (by omega))
   have B4 := hide (B3.out.trans (hb4.mono (show w.heap.size ≤ w2.heap.size by omega)))
   obtain ⟨N, hN⟩ := xe ((u0 ++ [0]).length)
   obtain ⟨gu, cu, hv4, hgu, ru⟩ := OwnL.row (base := w2.heap.size) (w := w4) (v := v4) (L := u0 ++ [0]) (by
    have h := OV.out
    unfold OwnL
    rw [List.length_append, za]
    exact h) (by simp)
   subst hv4
   rw [← hN]
   have hN2 : N = u0.length + 1 := by rw [hN]; simp
   have RU := hide ru
   have hgl := ru.lt
   have hs4 : w2.heap.size ≤ w4.heap.size := by have := hb4.size; omega
   clear hb4 ru HOU HNU HG4 E3 B3 OV OU hz3 hN hi0 hz0 hz1 hz2
   obtain ⟨n1, ns1, nb1⟩ := heap1 w4 (rowO [f])
   obtain ⟨w5, hw5⟩ : ∃ w5, w4.alloc (.cells #[.int .i64 f] 3) = w5 := ⟨_, rfl⟩
   rw [show w4.alloc (rowO [f]) = w5 from hw5] at n1 ns1 nb1
   rw [hw5]
   have B5 := hide (B4.out.trans (nb1.mono (by omega)))
   have E5 := hide (yc nb1 E4.out (by omega))
   have R5 := hide (RU.out.below nb1 hgl)
   have HT2 := hide (wW (.slice (some ⟨g1, o1, none⟩) y.length c1) (.slice (some ⟨w4.heap.size, 0, none⟩) 1 1) y [f] w5.heap.size w5 ((HB.out.below B5.out hB).mono (by omega)) (yV n1 (by unfold maxLen; simp)) (Nat.le_refl _) HY.out.lt hF (by omega) (by simp))
   clear n1 nb1 hw5 B4 E4 RU
   refine ⟨trivial, rfl, (callsIn_wide.2 HT2.out).mono ?_⟩
   rintro e w6 ⟨v0, ⟨vv, rfl, hb6, ov⟩, nv, lv', kv⟩
   have hfl : lv 1000000000 [f] = f := by simp [lv]
   have LU2 := LU.out
   rw [hfl] at LU2 lv'
   obtain ⟨k1, k2, k3, hst⟩ := ye5 HX.out HY.out NU.out nv hf1 LU2 lv' HLE.out (by rw [HM.out]; omega)
   obtain ⟨n, hn⟩ := xe v0.length
   obtain ⟨gv, cv, hvv, hgv, rv⟩ := OwnL.row ov (fun e => by rw [e] at k1; simp at k1)
   subst hvv
   rw [← hn] at k1 k2 hst ⊢
   rw [← hN2] at hst
   obtain ⟨M, hM⟩ := xe (N - n)
   rw [← hM] at hst
   have hMi : (N : Int) - (n : Int) = (M : Int) := by omega
   have hmk := qE M (by omega)
   have ST := hide hst
   have B6 := hide (B5.out.trans (hb6.mono (by omega)))
   have E6 := hide (yc hb6 E5.out (by omega))
   have R6 := hide (R5.out.below hb6 (by omega)); have V6 := hide rv
   have hs6 : w5.heap.size ≤ w6.heap.size := hb6.size
   have hgvl := rv.lt
   have NV := hide nv; have LV := hide lv'; have HN := hide hn; have HMM := hide hM
   have hn0 : n ≤ 180000 := by omega
   clear hb6 ov nv lv' kv hst rv HT2 B5 E5 R5 hn hM LU2 hfl
   have hcl : ((N : Int) < (x.length : Int) + 1) = False := eq_false (by omega)
   have hMu : M + n = N := by omega
   have hMl : (M : Int) ≤ 200000 := by omega
   have HMU := hide hMu
   have hNl : N ≤ 90003 := by omega
   have HN2 := hide hN2
   clear hN2 k3 k2 hMu
   have k2 : n ≤ N := by have := HMM.out; have := HN2.out; have := hMi; omega
   obtain ⟨p0, p1, ps, pb⟩ := heap2 w6 (.cells #[.slice (some ⟨gu, 0, none⟩) N cu] 199) (.cells #[.slice (some ⟨gv, 0, none⟩) n cv] 199)
   obtain ⟨w7, hw7⟩ : ∃ w7, (w6.alloc (.cells #[.slice (some ⟨gu, 0, none⟩) N cu] 199)).alloc (.cells #[.slice (some ⟨gv, 0, none⟩) n cv] 199) = w7 := ⟨_, rfl⟩
   rw [hw7] at p0 p1 ps pb
   have B7 := hide (B6.out.trans (pb.mono (by omega)))
   have E7 := hide (yc pb E6.out (by omega))
   have R7 := hide (R6.out.below pb (by omega)); have V7 := hide (V6.out.below pb hgvl)
   have U7 := hide p0; have W7 := hide p1
   have c7 := ya p0 0
   have c8 := ya p1 0
   clear pb B6 E6 R6 V6 p0 p1
   gi_wp2_with fail
   clear hw7
   have e4 := ya E7.out 0
   have q4 := yf E7.out 0
   have HS7 := hide (show w7.heap.size = w6.heap.size + 2 by omega)
   have hs7 : w6.heap.size + 2 ≤ w7.heap.size := by omega
   have hz7 : w.heap.size < w7.heap.size := by omega
   have hz6 : w6.heap.size < w7.heap.size := by omega
   have hz61 : w6.heap.size + 1 < w7.heap.size := by omega
   clear ps
   gi_loopw [] (fun wr => wr = w7) (fun _ => 0)
   case atStart => rfl
   case round =>
    subst hrel
    gi_wp2_with fail
    clear c7 c8 e4 q4 hmk
    rw [HS7.out]
    obtain ⟨h7, hh7⟩ := xe w6.heap.size
    have IX := hide (show DvIx w.heap.size gu gv w6.heap.size from ⟨by omega, by omega, hgvl⟩)
    have hzs : (wr.setCell ⟨w.heap.size, 0, none⟩ (.slice (some ⟨w6.heap.size + 2, 0, none⟩) M M)).heap.size = wr.heap.size := qK _ _ _
    obtain ⟨y0, ys0, yb0⟩ := heap1 (wr.setCell ⟨w.heap.size, 0, none⟩ (.slice (some ⟨w6.heap.size + 2, 0, none⟩) M M)) (rowO (zeros M))
    obtain ⟨y1, ys1, yb1⟩ := heap1 ((wr.setCell ⟨w.heap.size, 0, none⟩ (.slice (some ⟨w6.heap.size + 2, 0, none⟩) M M)).alloc (rowO (zeros M))) (.cells #[.slice (some ⟨w6.heap.size + 2, 0, none⟩) M M] 199)
    rw [hzs] at y0 ys0 yb0
    rw [ys0] at y1 ys1 yb1
    rw [HS7.out] at y0 y1
    have yb := (yb0.trans (yb1.mono (by omega)))
    refine ⟨trivial, rfl, (callsIn_wide.2 (qM (some ⟨w6.heap.size + 2, 0, none⟩) M M _)).mono ?_⟩
    rintro e w9 ⟨rfl, hw9⟩
    rw [hw9] at y1 ys1 yb1 yb
    have hlt7 : ∀ {i : Nat}, i < wr.heap.size → i ≠ w.heap.size → w9.heap[i]? = wr.heap[i]? := fun {i} h1 h2 => (yb.block i h1).trans (ye (Ne.symm h2))
    have DS := hide (show DvSt w gu cu gv cv w6.heap.size N n M (u0 ++ [0]) v0 (zeros M) w9 from
     ⟨(yb.block _ (by omega)).trans (Boxed.set _ E7.out), (hlt7 hz6 (by omega)).trans U7.out, (hlt7 hz61 (by omega)).trans W7.out, y1, R7.out.of_eq (hlt7 (by omega) (by omega)), V7.out.of_eq (hlt7 (by omega) (by omega)),
       (yb1.block _ (by omega)).trans y0, (B7.out.setCell (p := ⟨w.heap.size, 0, none⟩) (by simp) _).trans (yb.mono (by omega))⟩)
    have hs9 : w6.heap.size + 4 ≤ w9.heap.size := by have := HS7.out; omega
    have HS9 := hide (show w9.heap.size = w6.heap.size + 4 by have := HS7.out; omega)
    clear y0 ys0 yb0 y1 ys1 yb1 yb hlt7 hzs
    gi_wp2_with fail
    clear hw9
    rw [HS7.out]
    refine jV (gf := 269) (lb := #[.pointer (some ⟨w6.heap.size + 2 + 1, 0, none⟩)]) rfl (enters_of Tryz.func269 (by kernel_rfl) rfl) (xc (w6.heap.size + 2 + 1) M M (some ⟨w6.heap.size + 2, 0, none⟩) (fun _ => 0) (by omega)) (fun _ => rfl)
     (fun k S W => S = (fun _ => False) ∧ ∃ L Q, LongAt (lv 1000000000 u0) v0 N M k L Q ∧ DvSt w gu cu gv cv w6.heap.size N n M L v0 Q W)
     (fun _ _ _ => False) ?hI (fun _ _ _ _ h _ => h) ?h0 ?hke
     (fun k S a1' W => a1' = { tmps := #[.slice a0 x.length c0, .slice (some ⟨g1, o1, none⟩) y.length c1, undef, undef, .pointer (some ⟨w.heap.size, 0, none⟩), .slice none 0 0, .int .i64 f, .pointer (some ⟨w6.heap.size, 0, none⟩), .pointer (some ⟨w6.heap.size + 1, 0, none⟩), .int .i64 ((M : Int) - 1 - k), undef, .slice a0 x.length c0, .slice (some ⟨g1, o1, none⟩) y.length c1, .int .i64 rc, .bool false, undef, .slice (some ⟨g1, o1, none⟩) y.length c1, .int .i64 y.length, .bool false, undef, undef, undef, undef, undef, undef, undef, .slice (some ⟨g1, o1, none⟩) y.length c1, .slice (some ⟨g1, o1, none⟩) y.length c1, .int .i64 y.length, .int .i64 b, .pointer (some ⟨g1, o1 + b, none⟩), .int .i64 t, .int .i64 ((t : Int) + 1), .int .i64 f, .slice a0 x.length c0, .int .i64 f, .slice (some ⟨w1.heap.size, 0, none⟩) 1 1, .slice au u0.length cu0, .slice (some ⟨w3.heap.size, 0, none⟩) 1 1, .slice (some ⟨gu, 0, none⟩) N cu, .slice (some ⟨g1, o1, none⟩) y.length c1, .int .i64 f, .slice (some ⟨w4.heap.size, 0, none⟩) 1 1, .slice (some ⟨gv, 0, none⟩) n cv, .slice (some ⟨gu, 0, none⟩) N cu, .int .i64 N, .slice a0 x.length c0, .int .i64 x.length, .int .i64 ((x.length : Int) + 1), .bool false, u50, u51, u52, .slice (some ⟨gu, 0, none⟩) N cu, .int .i64 N, .slice (some ⟨gv, 0, none⟩) n cv, .int .i64 n, .int .i64 M, .slice (some ⟨w6.heap.size + 2, 0, none⟩) M M, .slice (some ⟨w6.heap.size + 2, 0, none⟩) M M, .func (.func 269) #[] #[.pointer (some ⟨w6.heap.size + 2 + 1, 0, none⟩)], .int .i64 ((M : Int) - 1 - k), .int .i64 0, undef, undef, undef, undef, undef, undef, undef, undef, undef, undef, undef, undef, undef, undef, undef, undef, undef, undef, undef, undef, undef, undef, undef, undef, undef, undef, undef, undef, undef, undef], defers := [] })
     ?hAx ?hassign ?hS ?hbody ?hdone ?hstop
    case hI =>
     rintro k S W W2 ⟨rfl, L, Q, h1, h2⟩ hq
     exact ⟨rfl, L, Q, h1, h2.quiet IX.out hq hs9⟩
    case h0 => exact ⟨rfl, _, _, ST.out, DS.out⟩
    case hke =>
     rintro k S W hk ⟨rfl, L, Q, h1, h2⟩
     refine ⟨h2.bx, fun hlt => ⟨_, _, rfl, ?_⟩⟩
     have h3 := qL h2.q (i := M - 1 - k) (by rw [h1.lq]; omega)
     rw [h1.zero _ (by omega)] at h3
     rw [Nat.zero_add]
     exact h3
    case hAx =>
     rintro k S a1' W l r r2 h _
     exact h
    case hassign =>
     intro l k S W K hsz hSlt hK
     gi_wp2
     exact hK _ _ (Quiet.refl _ _ _) (Upd.refl _ _ _) rfl
    case hS =>
     rintro k S W ⟨rfl, _⟩ b hb
     exact hb.elim
    case hstop =>
     intro D c S W _ h
     exact h.elim
    case hbody =>
     rintro l k S a1' W hk ⟨rfl, L, Q, hl, st⟩ rfl hsz
     obtain ⟨j, hj⟩ : ∃ j : Nat, (M : Int) - 1 - (k : Int) = j := ⟨M - 1 - k, by omega⟩
     have hj2 : j = M - 1 - k := by omega
     rw [hj]
     have hnm : ∃ m2, n = m2 + 2 := ⟨n - 2, by omega⟩
     obtain ⟨m2, hnm⟩ := hnm
     have hvm : v0.length = m2 + 2 := by rw [← HN.out]; exact hnm
     have hsm := hl.small
     rw [show M - k = j + 1 by omega] at hsm
     have hMU := HMU.out
     have hjN : j + (m2 + 2) < N := by omega
     have HE := hide (ycy gu cu L gv cv v0 j m2 W st.u st.v hl.lt NV.out hvm (by rw [hl.ll]; exact hjN) (by rw [hl.ll]; omega) hsm)
     rw [hl.ll, ← HN.out] at HE
     have hgne : gv ≠ gu := by omega
     have HTk := hide (fun (q : Nat) (W2 : World) (h1 : RowAt W2 gu cu L) (h2 : RowAt W2 gv cv v0) (hq : q < 1000000000) => ygY gu cu L gv cv v0 j q W2 h1 h2 hgne hl.lt NV.out.lt (by rw [hl.ll, ← HN.out]; omega) hq (by rw [hl.ll]; omega))
     have HRs := hide (fun (q : Nat) (M2 : List Nat) (W2 : World) (h1 : RowAt W2 gu cu M2) (h2 : RowAt W2 gv cv v0) (hM2 : Lt 1000000000 M2) (hlen : M2.length = N) (hq : q < 1000000000) => yde gu cu M2 gv cv v0 j q W2 h1 h2 hgne hM2 NV.out.lt (by rw [hlen, ← HN.out]; omega) hq (by rw [hlen]; omega))
     rw [hl.ll, ← HN.out] at HTk
     have c7 := ya st.uv 0
     have c8 := ya st.vv 0
     have HL := hide hl; have SS := hide st; have HJ := hide hj2; have HNM := hide hnm; have HVM := hide hvm
     have hz6 : w6.heap.size < W.heap.size := yd st.uv
     clear hl st hj2 hsm hj hvm hMU hnm hMi e3 hf hq hr hcl
     gi_wp2_with fail
     refine ⟨trivial, rfl, (CallsIn.inRound l (callsIn_wide.2 HE.out)).mono ?_⟩
     rintro e W1 ⟨q, rfl, hq, hqs, hbq⟩
     have S1 := hide (SS.out.keep hbq)
     have U1 := hide ((Upd.refl w9.heap.size (fun _ => False) W).jv hbq (Nat.le_refl _))
     have HQ := hide hqs
     clear hbq hqs c7 c8 HE SS
     gi_wp2_with fail
     have hgw9 : gu < w9.heap.size := by omega
     have hjM : j < M := by have := HJ.out; omega
     have hjMi : (j : Int) < (M : Int) := by omega
     gi_loopw [10] (fun qq wr2 => ∃ q : Nat, qq = .int .i64 q ∧ q < 1000000000 ∧ Hid (lvT 1000000000 (L.drop j) (m2 + 3) < (q + 1) * lv 1000000000 v0 ∧ DvSt w gu cu gv cv w6.heap.size N n M L v0 Q wr2 ∧ Upd w9.heap.size (fun _ => False) (fun _ => False) W wr2)) (fun qq _ => (intOf qq).toNat)
     case atStart => exact ⟨q, rfl, hq, HQ.out, S1.out, U1.out⟩
     case round =>
      clear S1 U1 HQ hq
      obtain ⟨q, rfl, hq, hin⟩ := hrel
      have I1 := hide hin.out.1; have I2 := hide hin.out.2.1; have I3 := hide hin.out.2.2
      have HT := hide (HTk.out q wr I2.out.u I2.out.v hq)
      have c7 := ya I2.out.uv 0
      have c8 := ya I2.out.vv 0
      clear hin
      gi_wp2_with fail
      refine ⟨trivial, rfl, (CallsIn.inRound l (callsIn_wide.2 HT.out)).mono ?_⟩
      rintro e W2 ⟨C, M2, rfl, ho, hr, hM2, hw, he⟩
      have S2 := hide (I2.out.row IX.out ho hr)
      have U2 := hide (Only.upd I3.out ho hgw9)
      rw [HNM.out] at hw he
      have HM2 := hide hM2
      have HW := hide (show WinEq j (m2 + 3) L M2 from hw)
      have HE := hide (show lvT 1000000000 (M2.drop j) (m2 + 3) + q * lv 1000000000 v0 = lvT 1000000000 (L.drop j) (m2 + 3) + 1000000000 ^ (m2 + 3) * C from he)
      clear ho hr hM2 hw he HT c7 c8 I2 I3
      rcases Nat.eq_zero_or_pos C with hC | hC
      ·subst hC
       have HSt := hide (HL.out.step NV.out HVM.out (by have := HMU.out; have := HNM.out; omega) hk HJ.out hq HW.out HM2.out (by have := HE.out; rw [Nat.mul_zero, Nat.add_zero] at this; exact this) I1.out)
       have c4 := ya S2.out.qv 0
       have f4 := qQ S2.out.q j
       have hz8 : w6.heap.size + 2 < W2.heap.size := yd S2.out.q
       have hmq : j < Q.length := by rw [HL.out.lq]; exact hjM
       have c5 := qL S2.out.q hmq
       gi_wp2_with fail
       exact ⟨fun _ => False, U2.out.setBox (by simp; omega) _, rfl, M2, Q.set j q, HSt.out, S2.out.quot IX.out j q⟩
      ·have hM2l : M2.length = N := HW.out.len.trans HL.out.ll
       have HR := hide (HRs.out q M2 W2 S2.out.u S2.out.v HM2.out hM2l hq)
       rw [hM2l, ← HN.out] at HR
       have hB := xI (b := 1000000000) (by omega) (vL HM2.out j) (m2 + 3)
       have hge : 1000000000 ^ (m2 + 3) * 1 ≤ 1000000000 ^ (m2 + 3) * C := Nat.mul_le_mul_left _ hC
       have hqV : lvT 1000000000 (L.drop j) (m2 + 3) < q * lv 1000000000 v0 := by have := HE.out; omega
       have hq1 : 1 ≤ q := by
        rcases Nat.eq_zero_or_pos q with h0 | h0
        ·rw [h0, Nat.zero_mul] at hqV
         omega
        ·exact h0
       obtain ⟨q2, hq2⟩ : ∃ q2, q = q2 + 1 := ⟨q - 1, by omega⟩
       have HQV := hide (show lvT 1000000000 (L.drop j) (m2 + 3) < (q2 + 1) * lv 1000000000 v0 by rw [← hq2]; exact hqV)
       have hqi : (1 : Int) ≤ (q : Int) := by omega
       have HQ2 := hide hq2
       have w9' : (q : Int) - 1 = (q2 : Int) := by omega
       have hq2l : q2 < q := by omega
       have c7 := ya S2.out.uv 0
       have c8 := ya S2.out.vv 0
       clear hB hge hqV hq1 hq2 hM2l
       gi_wp2_with fail
       refine ⟨trivial, rfl, (CallsIn.inRound l (callsIn_wide.2 HR.out)).mono ?_⟩
       rintro e W3 ⟨C3, R, rfl, ho, hr, hR, hw, he⟩
       rw [HNM.out] at hw he
       have hRL : R = L := ygH (by omega) HL.out.lt hR HW.out hw HE.out he
       subst hRL
       have S3 := hide (S2.out.row IX.out ho hr)
       have U3 := hide (Only.upd U2.out ho hgw9)
       clear ho hr hR hw he c7 c8 HR S2 U2
       have c7 := ya S3.out.uv 0
       have f7 := yf S3.out.uv 0
       have hz8 : w6.heap.size < W3.heap.size := yd S3.out.uv
       gi_wp2_with fail
       go_roundw
       case rel => exact ⟨q2, by first | rfl | rw [w9'], by omega, HQV.out, S3.out.same IX.out, U3.out.setBox (by simp; omega) _⟩
       case measure => simp [intOf]; omega
    case hdone =>
     rintro D S W hD ⟨rfl, L, Q, hl, st⟩ hK
     have HTu := hide (jj (some ⟨gu, 0, none⟩) cu L W.heap.size W st.u.limbs (by obtain ⟨_, _, h, _⟩ := st.u; exact h) (by rw [hl.ll]; omega))
     rw [hl.ll] at HTu
     have hLL : LimbAt W.heap.size W (.slice (some ⟨gu, 0, none⟩) (trimTo L N) cu) (trimL L) := by
      have h1 := ((st.u.own (base := 0) (Nat.zero_le _)).cut (k := trimTo L L.length) (yj _ _)).at_
      unfold trimL
      rw [hl.ll] at h1 ⊢
      exact h1
     have HDS := hide (jP _ (trimL L) f W.heap.size W hLL (Nat.le_refl _) (yB hl.lt).lt (by rw [yJ]; have := yj L L.length; rw [hl.ll] at this; rw [hl.ll]; omega) hf1 hf2)
     have HTq := hide (fun (W2 : World) (h : W2.heap[w6.heap.size + 1 + 1]? = some (rowO Q)) => jj (some ⟨w6.heap.size + 1 + 1, 0, none⟩) M Q W2.heap.size W2 (by
      have := yV h (by rw [hl.lq]; unfold maxLen; omega)
      rw [hl.lq] at this ⊢
      exact this) (by rw [hl.lq]; exact Nat.le_refl _) (by rw [hl.lq]; omega))
     rw [hl.lq] at HTq
     have hdn := hl.done
     have c7 := ya st.uv 0
     have hKl : D < W.heap.size := yd hK
     have HDN := hide hdn; have SS := hide st; have HK := hide hK; have HQL := hide hl.lq; have HQT := hide hl.qt
     have hsw : w6.heap.size + 2 < W.heap.size := yd st.q
     have hw0 : w.heap.size < w6.heap.size := by omega
     clear hl st hK hLL hdn hMi e3 hf hq hr hcl
     gi_wp2_with fail
     refine ⟨trivial, rfl, (callsIn_wide.2 HTu.out).mono ?_⟩
     rintro e W1 ⟨rfl, rfl⟩
     gi_wp2_with fail
     refine ⟨trivial, rfl, (callsIn_wide.2 HDS.out).mono ?_⟩
     rintro e W2 ⟨vq, vr, q, r, rfl, hb2, oq, or_, nq, nr, eq, er, lq, lr⟩
     obtain ⟨aq, cq, hvf, _, _⟩ := oq.form
     subst hvf
     have S2 := hide (SS.out.keep hb2)
     have K2 := hide (yc hb2 HK.out hKl)
     have OQ := hide oq; have NQ := hide nq; have EQ := hide eq
     have hsw2 : W.heap.size ≤ W2.heap.size := hb2.size
     clear hb2 oq or_ nq nr eq er c7 HTu HDS SS HK lr
     have c4 := ya S2.out.qv 0
     have f4 := yf S2.out.qv 0
     have hz8 : w.heap.size < W2.heap.size := yd S2.out.qv
     have HTq2 := hide (HTq.out W2 S2.out.q)
     gi_wp2_with fail
     refine ⟨trivial, rfl, (callsIn_wide.2 HTq2.out).mono ?_⟩
     rintro e W3 ⟨rfl, rfl⟩
     gi_wp2_with fail
     obtain ⟨Wf, hWf⟩ := xe (W2.setCell ⟨w.heap.size, 0, none⟩ (.slice (some ⟨w6.heap.size + 1 + 1, 0, none⟩) (trimTo Q M) M))
     rw [← hWf]
     have E1 : Wf.heap[w.heap.size]? = some (.cells #[.slice (some ⟨w6.heap.size + 1 + 1, 0, none⟩) (trimTo Q M) M] 199 (0, 0)) := by
      rw [hWf]; exact Boxed.set _ S2.out.qv
     have ED : Wf.heap[D]? = some (.deferred (some [])) := by
      rw [hWf]; exact (ye (by omega)).trans K2.out
     have EQ2 : Wf.heap[w6.heap.size + 1 + 1]? = some (rowO Q) := by
      rw [hWf]; exact (ye (by omega)).trans S2.out.q
     have EB : Below w.heap.size w Wf := by
      rw [hWf]; exact S2.out.below.setCell (p := ⟨w.heap.size, 0, none⟩) (by simp) _
     have EO : OwnL W.heap.size Wf (.slice aq q.length cq) q := by
      rw [hWf]; exact OQ.out.other (p := ⟨w.heap.size, 0, none⟩) (by simp; omega) _
     clear hWf
     refine ⟨by simp, .inl ⟨_, _, rfl, run_takeDeferred ED, ?_⟩⟩
     have F1 : (Wf.putObj D (.deferred none)).heap[w.heap.size]? = some (.cells #[.slice (some ⟨w6.heap.size + 1 + 1, 0, none⟩) (trimTo Q M) M] 199 (0, 0)) := (World.putObj_heap_other (by omega)).trans E1
     have F2 : (Wf.putObj D (.deferred none)).heap[w6.heap.size + 1 + 1]? = some (rowO Q) := (World.putObj_heap_other (by omega)).trans EQ2
     have hc := ya F1 0
     have hfin : lv 1000000000 Q = lv 1000000000 x / lv 1000000000 y ∧ lv 1000000000 L / f = lv 1000000000 x % lv 1000000000 y := by
      have h1 := HDN.out; have h2 := LU.out; have h3 := LV.out
      rw [show lv 1000000000 [f] = f by simp [lv]] at h2
      rw [h2, h3] at h1
      exact yhd hf1 h1.1 h1.2
     have hq1 : lv 1000000000 q = lv 1000000000 x % lv 1000000000 y := by
      rw [EQ.out, yR, show lv 1000000000 [f] = f by simp [lv]]
      exact hfin.2
     have hQ1 : lv 1000000000 (trimL Q) = lv 1000000000 x / lv 1000000000 y := by rw [yR]; exact hfin.1
     refine ⟨.tuple #[.slice (some ⟨w6.heap.size + 1 + 1, 0, none⟩) (trimTo Q M) M, .slice aq q.length cq], by simp [results, go_sem, hc], _, _, trimL Q, q, rfl, EB.trans (belowK_b (w := w) (Nat.le_refl _) _ D _ _ (by omega) ED rfl rfl), ?_, ?_, yB HQT.out, NQ.out, hQ1, hq1, ?_, ?_⟩
     ·have h1 := (zO (base := 0) F2 (Nat.zero_le _) (by rw [HQL.out]; unfold maxLen; omega)).cut (k := trimTo Q Q.length) (yj _ _)
      have h2 := LimbAt.yx h1
      unfold trimL
      rw [HQL.out] at h2 ⊢
      exact h2
     ·exact LimbAt.yx (yO EO (fun r hr => World.putObj_heap_other (by have := qG EO (Nat.le_refl _) r hr; omega)))
     ·exact norm_le (yB HQT.out) HX.out.lt (by rw [hQ1]; exact Nat.div_le_self _ _)
     ·exact norm_le NQ.out HX.out.lt (by rw [hq1]; exact Nat.mod_le _ _)

theorem yhI : Lt 1000000000 [1] := fun z hz => by
 simp only [List.mem_singleton] at hz
 omega
theorem vQ {z : Int} (h : fits z) : resS z = Lib.itoa z ∧ resE z = 0 := ⟨if_pos h, if_pos h⟩
theorem yhK {l : List UInt8} (c : chkI l = 0) (h : l ≠ [48]) : valI l ≠ 0 := by
 intro e
 have := (qg c).1
 rw [e, yP] at this
 exact h this
theorem ydm (s t : ByteArray) (B : Nat) (w : World) (c1 : chkI s.data.toList = 0) (c2 : chkI t.data.toList = 0) (hl : ¬ (s.size ≤ 18 ∧ t.size ≤ 18)) (h0 : t.data.toList ≠ [48]) (hB : B ≤ w.heap.size) (hT : P10 B w) :
 Calls Tryz.prog 179 #[.string s, .string t] w (Ret w (tripV (Lib.itoa ((valI s.data.toList).fdiv (valI t.data.toList))) (Lib.itoa ((valI s.data.toList).fmod (valI t.data.toList))) 0)) := by
 have l1' := (yL c1).2
 have l2' := (yL c2).2
 rw [yg] at l1' l2'
 have H1 := hide (qN s t (by omega) (by omega) w)
 have hb0 : bothI s.data.toList t.data.toList = 0 := by unfold bothI; rw [if_pos c1, c2]
 rw [hb0] at H1
 have HT := hide hT
 have hy0 := yhK c2 h0
 have hq : (t.toList == [48]) = false := by rw [ByteArray.toList_eq]; simpa using h0
 have FQ := hide (vQ (yi (qg c1).2 (vF (x := valI s.data.toList) hy0)))
 have FR := hide (vQ (yi (qg c2).2 (Nat.le_of_lt (yas (x := valI s.data.toList) hy0))))
 have H2 := hide (fun w => xF s t hl w)
 have R1 := hide (fun w => yU s c1 w)
 have R2 := hide (fun w => yU t c2 w)
 clear c1 c2 hl h0 hT hb0 l1' l2'
 go_enter Tryz.func179, Tryz.ntmps179
 go_wp2_with fail
 refine H1.out.mono ?_
 rintro e w1 ⟨rfl, hb1⟩
 have HB1 := hide hb1
 clear hb1 H1
 go_wp2_with fail
 refine (H2.out _).mono ?_
 rintro e w2 ⟨rfl, hb2⟩
 have HB2 := bt HB1 hb2
 clear hb2 H2 HB1
 go_wp2_with fail
 refine (R1.out _).mono ?_
 rintro e w3 ⟨m1, a1, l1, rfl, hb3, o1, n1, q1, k1⟩
 have HB3 := bt HB2 hb3
 have O1 := hide o1; have N1 := hide n1; have Q1 := hide q1
 clear hb3 HB2 R1 o1 n1 q1
 go_wp2_with fail
 refine (R2.out _).mono ?_
 rintro e w4 ⟨m2, a2, l2, rfl, hb4, o2, n2, q2, k2⟩
 have HB4 := bt HB3 hb4
 have O1' := hide (O1.out.keep hb4)
 have O2 := hide o2; have N2 := hide n2; have Q2 := hide q2
 clear hb4 HB3 R2 o2 n2 q2 O1
 obtain ⟨av1, cv1, hvf, _, _⟩ := O1'.out.form
 subst hvf
 obtain ⟨av2, cv2, hvf, _, _⟩ := O2.out.form
 subst hvf
 have hl2 : l2 ≠ [] := by
  intro e
  have h := Q2.out
  rw [e] at h
  apply hy0
  rw [← h]
  cases m2 <;> rfl
 have hly : 0 < lv 1000000000 l2 := by
  rcases Nat.eq_zero_or_pos (lv 1000000000 l2) with h | h
  ·exact absurd ((N2.out.zero (by omega)).1 h) hl2
  ·exact h
 obtain ⟨g0, g1, gs0, gb0⟩ := heap2 w4 (.cells #[.bool m1, .slice av1 l1.length cv1] 207) (.cells #[.bool m2, .slice av2 l2.length cv2] 207)
 obtain ⟨w5, hw5⟩ : ∃ w5, (w4.alloc (.cells #[.bool m1, .slice av1 l1.length cv1] 207)).alloc (.cells #[.bool m2, .slice av2 l2.length cv2] 207) = w5 := ⟨_, rfl⟩
 rw [hw5] at g0 g1 gs0 gb0
 have c1 := ya g0 1
 have c3 := ya g1 1
 have HDV := hide (jU (.slice av1 l1.length cv1) (.slice av2 l2.length cv2) l1 l2 w5.heap.size w5 (LimbAt.yx (O1'.out.keep gb0)) (LimbAt.yx (O2.out.keep gb0)) (Nat.le_refl _) N1.out N2.out hl2 (by omega) (by omega))
 have O2' := hide (O2.out.keep gb0)
 have HB5 := hide (HB4.out.trans (gb0.mono HB4.out.size)); have G0 := hide g0; have G1 := hide g1
 have hs5 : w4.heap.size + 1 < w5.heap.size := by omega
 have FL := hide (yaY m1 m2 (a := lv 1000000000 l1) hly)
 rw [Q1.out, Q2.out] at FL
 clear g0 g1 gs0 gb0 O1' O2 HB4 hy0
 go_wp2_with fail
 clear hw5
 obtain ⟨nb, hnb⟩ := xe w4.heap.size
 rw [← hnb] at c1 c3 G0 G1 hs5 ⊢
 clear hnb
 refine HDV.out.mono ?_
 rintro e w6 ⟨vq, vr, q, r, rfl, hb6, oq, or_, nq, nr, eq, er, lq, lr⟩
 obtain ⟨aq, cq, hvf⟩ := oq.form
 subst hvf
 obtain ⟨ar, cr, hvf⟩ := or_.form
 subst hvf
 have HBZ := bt HB5 hb6
 have G0Z := hide (yc hb6 G0.out (by omega))
 have G1Z := hide (yc hb6 G1.out (by omega))
 have O2Z := hide (O2'.out.keep hb6)
 have hs6 : nb + 1 < w6.heap.size := Nat.lt_of_lt_of_le hs5 hb6.size
 have OQ := hide oq; have OR := hide or_; have NQ := hide nq; have NR := hide nr; have EQ := hide eq; have ER := hide er
 rw [← eq, ← er] at FL
 clear hb6 oq or_ nq nr eq er c1 c3 HB5 G0 G1 O2' HDV hs5
 have z0 := ya G0Z.out 0
 have z1 := ya G1Z.out 0
 rcases (show m2 = m1 ∨ (m2 = (!m1) ∧ r = []) ∨ (m2 = (!m1) ∧ r ≠ []) by
  by_cases hm : m2 = m1
  ·exact .inl hm
  ·have : m2 = (!m1) := by cases m1 <;> cases m2 <;> simp_all
   by_cases hr : r = []
   ·exact .inr (.inl ⟨this, hr⟩)
   ·exact .inr (.inr ⟨this, hr⟩)) with hm | ⟨hm, hr⟩ | ⟨hm, hr⟩
 ·subst hm
  have FA := hide (FL.out.1 (.inl rfl))
  rw [show (!(m2 == m2)) = false by simp] at FA
  clear FL
  obtain ⟨m1, rfl⟩ := xe m2
  obtain ⟨wz, rfl⟩ := xe w6
  ·skip
   have zq : valS false (lv 1000000000 q) = (valI s.data.toList).fdiv (valI t.data.toList) := FA.out.1
   have zr : valS m1 (lv 1000000000 r) = (valI s.data.toList).fmod (valI t.data.toList) := FA.out.2
   have HR1 := hide (zw false (.slice aq q.length cq) q wz.heap.size wz OQ.out (Nat.le_refl _) NQ.out (by omega) ((HT.out.on HBZ.out hB).mono (Nat.le_trans hB HBZ.out.size)))
   rw [zq, FQ.out.1, FQ.out.2] at HR1
   have HR2 := hide (fun w8 (hb : Below wz.heap.size wz w8) => zw m1 (.slice ar r.length cr) r wz.heap.size w8 (LimbAt.below OR.out hb (Nat.le_refl _)) hb.size NR.out (by omega) ((HT.out.on (HBZ.out.trans (hb.mono HBZ.out.size)) hB).mono (Nat.le_trans hB HBZ.out.size)))
   rw [zr, FR.out.1, FR.out.2] at HR2
   have z0 := ya G0Z.out 0
   have z1 := ya G1Z.out 0
   clear zq zr
   go_wp2_with fail
   refine HR1.out.mono ?_
   rintro e w8 ⟨rfl, hb8⟩
   have hz8 : nb + 1 < w8.heap.size := Nat.lt_of_lt_of_le (yd G1Z.out) hb8.size
   have z2 := ya (yc hb8 G0Z.out (yd G0Z.out)) 0
   have z3 := ya (yc hb8 G1Z.out (yd G1Z.out)) 0
   have HB8 := hide hb8
   clear hb8 HR1 z0 z1
   go_wp2_with fail
   refine (HR2.out w8 HB8.out).mono ?_
   rintro e w9 ⟨rfl, hb9⟩
   have HB9 := hide (HBZ.out.trans ((HB8.out.trans (hb9.mono HB8.out.size)).mono HBZ.out.size))
   clear hb9 HR2 HB8 z2 z3
   go_wp2_with fail
   refine bodyPost_ret (yt rfl _ _ _) rfl ?_
   exact ⟨rfl, HB9.out⟩

 ·subst hm
  subst hr
  have FB := hide (FL.out.1 (.inr rfl))
  rw [show (!(m1 == (!m1))) = true by cases m1 <;> rfl] at FB
  clear FL
  obtain ⟨wz, rfl⟩ := xe w6
  have OR := hide (show LimbAt wz.heap.size wz (.slice ar 0 cr) [] from OR.out)
  have NR := hide (Norm.nil 1000000000)
  clear lr
  ·skip
   have zq : valS true (lv 1000000000 q) = (valI s.data.toList).fdiv (valI t.data.toList) := FB.out.1
   have zr : valS (!m1) (lv 1000000000 ([] : List Nat)) = (valI s.data.toList).fmod (valI t.data.toList) := FB.out.2
   have HR1 := hide (zw true (.slice aq q.length cq) q wz.heap.size wz OQ.out (Nat.le_refl _) NQ.out (by omega) ((HT.out.on HBZ.out hB).mono (Nat.le_trans hB HBZ.out.size)))
   rw [zq, FQ.out.1, FQ.out.2] at HR1
   have HR2 := hide (fun w8 (hb : Below wz.heap.size wz w8) => zw (!m1) (.slice ar 0 cr) ([] : List Nat) wz.heap.size w8 (LimbAt.below OR.out hb (Nat.le_refl _)) hb.size NR.out (by simp) ((HT.out.on (HBZ.out.trans (hb.mono HBZ.out.size)) hB).mono (Nat.le_trans hB HBZ.out.size)))
   rw [zr, FR.out.1, FR.out.2] at HR2
   have z0 := ya G0Z.out 0
   have z1 := ya G1Z.out 0
   clear zq zr
   go_wp2_with fail
   refine HR1.out.mono ?_
   rintro e w8 ⟨rfl, hb8⟩
   have hz8 : nb + 1 < w8.heap.size := Nat.lt_of_lt_of_le (yd G1Z.out) hb8.size
   have z2 := ya (yc hb8 G0Z.out (yd G0Z.out)) 0
   have z3 := ya (yc hb8 G1Z.out (yd G1Z.out)) 0
   have HB8 := hide hb8
   clear hb8 HR1 z0 z1
   go_wp2_with fail
   refine (HR2.out w8 HB8.out).mono ?_
   rintro e w9 ⟨rfl, hb9⟩
   have HB9 := hide (HBZ.out.trans ((HB8.out.trans (hb9.mono HB8.out.size)).mono HBZ.out.size))
   clear hb9 HR2 HB8 z2 z3
   go_wp2_with fail
   refine bodyPost_ret (yt rfl _ _ _) rfl ?_
   exact ⟨rfl, HB9.out⟩

 ·subst hm
  have hr1 : lv 1000000000 r ≠ 0 := fun e => hr ((NR.out.zero (by omega)).1 e)
  have hrl : 0 < (r.length : Int) := by
   have := List.length_pos_iff.2 hr
   omega
  have FC := hide (FL.out.2 (by cases m1 <;> simp) hr1)
  rw [show (!(m1 == (!m1))) = true by cases m1 <;> rfl] at FC
  have hlt : lv 1000000000 r ≤ lv 1000000000 l2 := by
   rw [ER.out]
   exact Nat.le_of_lt (Nat.mod_lt _ hly)
  have P1 := hide (yda NQ.out.lt yhI)
  have P2 := hide (ybw N2.out.lt NR.out.lt hlt)
  have FC2 := hide (show valS true (lv 1000000000 (trimL (combL plusP q [1]))) = (valI s.data.toList).fdiv (valI t.data.toList) ∧ valS (!m1) (lv 1000000000 (trimL (combL minusP l2 r))) = (valI s.data.toList).fmod (valI t.data.toList) by
   rw [P1.out.2.1, P2.out.2.1, show lv 1000000000 [1] = 1 by simp [lv]]
   exact FC.out)
  have hk3 : (trimL (combL plusP q [1])).length ≤ 100000 := by
   have := P1.out.2.2
   simp at this
   omega
  have hk4 : (trimL (combL minusP l2 r)).length ≤ 100000 := by
   have := P2.out.2.2
   omega
  obtain ⟨l3, hl3⟩ := xe (trimL (combL plusP q [1]))
  obtain ⟨l4, hl4⟩ := xe (trimL (combL minusP l2 r))
  have N3 := hide P1.out.1
  have N4 := hide P2.out.1
  rw [← hl3] at N3 FC2 hk3
  rw [← hl4] at N4 FC2 hk4
  have HC1 := hide (fun (W : World) (hb : Below w6.heap.size w6 W) (h1 : W.heap[w6.heap.size]? = some (rowO [1])) => zV 198 plusP plusFn (.slice aq q.length cq) (.slice (some ⟨w6.heap.size, 0, none⟩) 1 1) q [1] W.heap.size W ((OQ.out.below hb (Nat.le_refl _)).mono hb.size) (yV h1 (by unfold maxLen; simp)) (Nat.le_refl _) NQ.out.lt yhI (by omega) (by simp))
  have HC2 := hide (fun (W : World) (hb : Below w6.heap.size w6 W) => zV 217 minusP minusFn (.slice av2 l2.length cv2) (.slice ar r.length cr) l2 r W.heap.size W (((LimbAt.yx O2Z.out).below hb (Nat.le_refl _)).mono hb.size) ((OR.out.below hb (Nat.le_refl _)).mono hb.size) (Nat.le_refl _) N2.out.lt NR.out.lt (by omega) (by omega))
  rw [← hl3] at HC1
  rw [← hl4] at HC2
  have HWA := hide (show Below w6.heap.size w6 (w6.alloc (.cells #[.int .i64 1] 3)).drew from ((Below.refl w6.heap.size w6).alloc (Nat.le_refl _) _).drew)
  have HWR := hide (show (w6.alloc (.cells #[.int .i64 1] 3)).drew.heap[w6.heap.size]? = some (rowO [1]) from World.alloc_heap_new _ _)
  have z2 := ya G1Z.out 1
  have ZD := hide (show w6.drew.cell? ⟨nb + 1, 1, none⟩ = some (.slice av2 l2.length cv2) from ya (w := w6.drew) G1Z.out 1)
  have ZA := hide (show (w6.alloc (.cells #[.int .i64 1] 3)).drew.cell? ⟨nb + 1, 1, none⟩ = some (.slice av2 l2.length cv2) from ya (w := (w6.alloc (.cells #[.int .i64 1] 3)).drew) (yc HWA.out G1Z.out hs6) 1)
  clear hl3 hl4 hr hr1 hlt FC FL
  go_wp2_with fail
  go_region_held3 (fun w' => w'.cell? ⟨nb + 1, 1, none⟩ = some (.slice av2 l2.length cv2)) (first | with_reducible exact ZD.out | with_reducible exact ZA.out | with_reducible exact d1 | with_reducible exact x1)
   (first
     |(go_at_call 197
       with_reducible refine (HC1.out _ HWA.out HWR.out).mono ?_
       rintro e w7 ⟨v3, rfl, hb7, o3⟩
       obtain ⟨av3, cv3, hvf, _, _⟩ := o3.form
       subst hvf
       have HB7 := hide (HWA.out.trans (hb7.mono HWA.out.size))
       have O3 := hide o3
       have d1 : w7.cell? ⟨nb + 1, 1, none⟩ = some (.slice av2 l2.length cv2) := ya (yc HB7.out G1Z.out hs6) 1
       clear hb7 o3)
     |(go_at_call 197
       with_reducible refine (HC2.out w7 HB7.out).mono ?_
       rintro e wz ⟨v4, rfl, hb8, o4⟩
       obtain ⟨av4, cv4, hvf, _, _⟩ := o4.form
       subst hvf
       have HB8 := bt HB7 hb8
       have O4 := hide o4
       have O3' := hide (OwnL.keep O3.out hb8)
       have x1 : wz.cell? ⟨nb + 1, 1, none⟩ = some (.slice av2 l2.length cv2) := ya (yc HB8.out G1Z.out hs6) 1
       clear hb8 o4)
     |fail)
  clear d1 x1 z0 z1 z2
  have HBZ := hide (HBZ.out.trans (HB8.out.mono HBZ.out.size))
  have G0Z := hide (yc HB8.out G0Z.out (by omega))
  have G1Z := hide (yc HB8.out G1Z.out hs6)
  have O3Z := hide (LimbAt.yx O3'.out)
  have O4Z := hide (LimbAt.yx O4.out)
  clear HB8 HB7 O3 O3' O4 HC1 HC2 HWA HWR ZD ZA hrl
  ·skip
   have zq : valS true (lv 1000000000 l3) = (valI s.data.toList).fdiv (valI t.data.toList) := FC2.out.1
   have zr : valS (!m1) (lv 1000000000 l4) = (valI s.data.toList).fmod (valI t.data.toList) := FC2.out.2
   have HR1 := hide (zw true (.slice av3 l3.length cv3) l3 wz.heap.size wz O3Z.out (Nat.le_refl _) N3.out hk3 ((HT.out.on HBZ.out hB).mono (Nat.le_trans hB HBZ.out.size)))
   rw [zq, FQ.out.1, FQ.out.2] at HR1
   have HR2 := hide (fun w8 (hb : Below wz.heap.size wz w8) => zw (!m1) (.slice av4 l4.length cv4) l4 wz.heap.size w8 (LimbAt.below O4Z.out hb (Nat.le_refl _)) hb.size N4.out hk4 ((HT.out.on (HBZ.out.trans (hb.mono HBZ.out.size)) hB).mono (Nat.le_trans hB HBZ.out.size)))
   rw [zr, FR.out.1, FR.out.2] at HR2
   have z0 := ya G0Z.out 0
   have z1 := ya G1Z.out 0
   clear zq zr
   go_wp2_with fail
   refine HR1.out.mono ?_
   rintro e w8 ⟨rfl, hb8⟩
   have hz8 : nb + 1 < w8.heap.size := Nat.lt_of_lt_of_le (yd G1Z.out) hb8.size
   have z2 := ya (yc hb8 G0Z.out (yd G0Z.out)) 0
   have z3 := ya (yc hb8 G1Z.out (yd G1Z.out)) 0
   have HB8 := hide hb8
   clear hb8 HR1 z0 z1
   go_wp2_with fail
   refine (HR2.out w8 HB8.out).mono ?_
   rintro e w9 ⟨rfl, hb9⟩
   have HB9 := hide (HBZ.out.trans ((HB8.out.trans (hb9.mono HB8.out.size)).mono HBZ.out.size))
   clear hb9 HR2 HB8 z2 z3
   go_wp2_with fail
   refine bodyPost_ret (yt rfl _ _ _) rfl ?_
   exact ⟨rfl, HB9.out⟩


theorem yhm {x y : Int} : Lib.compareInt x y = 0 ↔ x = y := by
 unfold Lib.compareInt
 split
 ·omega
 ·split <;> omega
theorem ygc (x y : Int) : -1 ≤ Lib.compareInt x y ∧ Lib.compareInt x y ≤ 1 := by
 unfold Lib.compareInt
 split
 ·omega
 ·split <;> omega
theorem ycP {s t : ByteArray} {x y : Int} (h1 : s.data.toList = Lib.itoa x) (h2 : t.data.toList = Lib.itoa y) (f1 : fits x) (f2 : fits y) (w : World) :
 Calls Tryz.prog 129 #[.string s, .string t] w (Ret w (.tuple #[.int .i64 (Lib.compareInt x y), .int .i64 0])) := by
 have c1 : chkI s.data.toList = 0 := by rw [h1]; exact yM f1
 have c2 : chkI t.data.toList = 0 := by rw [h2]; exact yM f2
 have b : bothI s.data.toList t.data.toList = 0 := by unfold bothI; rw [if_pos c1, c2]
 have l1 := (yL c1).2
 have l2 := (yL c2).2
 rw [yg] at l1 l2
 have := ydO s t w (by omega) (by omega)
 rw [b] at this
 unfold cmpV at this
 rw [if_pos b, h1, h2, ym, ym] at this
 exact this
theorem ybG : fits 1 := yq (n := 1) (by rw [yC]; omega) (by decide)
theorem yd1 {s t : ByteArray} {x y : Int} (h1 : s.data.toList = Lib.itoa x) (h2 : t.data.toList = Lib.itoa y) (f1 : fits x) (f2 : fits y) (B : Nat) (w : World) (hB : B ≤ w.heap.size) (hT : P10 B w) :
 Calls Tryz.prog 132 #[.string s, .string t] w (Ret w (pairV (resS (x * y)) (resE (x * y)))) := by
 have c1 : chkI s.data.toList = 0 := by rw [h1]; exact yM f1
 have c2 : chkI t.data.toList = 0 := by rw [h2]; exact yM f2
 have b : bothI s.data.toList t.data.toList = 0 := by unfold bothI; rw [if_pos c1, c2]
 have l1 := (yL c1).2
 have l2 := (yL c2).2
 rw [yg] at l1 l2
 obtain ⟨_, _, e1, e2⟩ := zE (f := (· * ·)) b
 have := yfz s t B w (by omega) (by omega) hB hT
 rw [e1, e2, h1, h2, ym, ym] at this
 exact this
abbrev pairT (r : ByteArray) : Value := .tuple #[.string r, .int .i64 0]
theorem vP {r : ByteArray} {l : List UInt8} (h : r.data.toList = l) : strB l = r := yp (by rw [yh, h])
theorem yit {s t r : ByteArray} {x y : Int} (h1 : s.data.toList = Lib.itoa x) (h2 : t.data.toList = Lib.itoa y) (h3 : r.data.toList = Lib.itoa (x * y)) (f1 : fits x) (f2 : fits y) (f3 : fits (x * y)) (B : Nat) (w : World) (hB : B ≤ w.heap.size) (hT : P10 B w) :
 Calls Tryz.prog 132 #[.string s, .string t] w (Ret w (pairT r)) := by
 have c1 : chkI s.data.toList = 0 := by rw [h1]; exact yM f1
 have c2 : chkI t.data.toList = 0 := by rw [h2]; exact yM f2
 have b : bothI s.data.toList t.data.toList = 0 := by unfold bothI; rw [if_pos c1, c2]
 have l1 := (yL c1).2
 have l2 := (yL c2).2
 rw [yg] at l1 l2
 obtain ⟨_, _, e1, e2⟩ := zE (f := (· * ·)) b
 have := yfz s t B w (by omega) (by omega) hB hT
 rw [e1, e2, h1, h2, ym, ym] at this
 have e3 : resS (x * y) = Lib.itoa (x * y) := if_pos f3
 have e4 : resE (x * y) = 0 := if_pos f3
 rw [pairV, e3, e4, vP h3] at this
 exact this

theorem ydN {z : Int} (h : z ≠ 0) : Lib.itoa z ≠ [48] := fun e => h (vg (e.trans yP.symm))
abbrev tripT (q r : ByteArray) : Value := .tuple #[.string q, .string r, .int .i64 0]
theorem yaf {s t q r : ByteArray} {x y : Int} (h1 : s.data.toList = Lib.itoa x) (h2 : t.data.toList = Lib.itoa y) (h3 : q.data.toList = Lib.itoa (x.fdiv y)) (h4 : r.data.toList = Lib.itoa (x.fmod y)) (f1 : fits x) (f2 : fits y) (hy : y ≠ 0) (B : Nat) (w : World) (hB : B ≤ w.heap.size) (hT : P10 B w) :
 Calls Tryz.prog 179 #[.string s, .string t] w (Ret w (tripT q r)) := by
 have c1 : chkI s.data.toList = 0 := by rw [h1]; exact yM f1
 have c2 : chkI t.data.toList = 0 := by rw [h2]; exact yM f2
 have h0 : t.data.toList ≠ [48] := by rw [h2]; exact ydN hy
 have e : Calls Tryz.prog 179 #[.string s, .string t] w (Ret w (tripV (Lib.itoa ((valI s.data.toList).fdiv (valI t.data.toList))) (Lib.itoa ((valI s.data.toList).fmod (valI t.data.toList))) 0)) := by
  by_cases hl : s.size ≤ 18 ∧ t.size ≤ 18
  ·exact yca s t B w c1 c2 hl.1 hl.2 h0 hB hT
  ·exact ydm s t B w c1 c2 hl h0 hB hT
 rw [h1, h2, ym, ym, tripV, vP h3, vP h4] at e
 exact e

theorem jn (m : Bool) (n : Nat) : (valS m n).natAbs = n := by cases m <;> simp [valS]
theorem wU (m : Bool) (v : Value) (w : World) : (Instr.field 207 (numV m v) 1).run Tryz.prog w = .ok v w := by kernel_rfl
def limbsAt (w : World) : Value → List Nat
 | .slice (some ⟨b, o, none⟩) n _ => (List.range n).map fun i => match w.cell? ⟨b, o + i, none⟩ with
   |some (.int _ z) => z.toNat
   | _ => 0
 | _ => []
theorem zM {B : Nat} {w : World} {v : Value} {l : List Nat} (h : LimbAt B w v l) : limbsAt w v = l := by
 rcases h.cases with ⟨a, c, rfl, rfl⟩ | ⟨b, o, cap, rfl, _, hc⟩
 ·unfold limbsAt
  split
  ·rename_i h1
   injection h1 with h2 h3 h4
   rw [← h3]
   rfl
  ·rfl
 ·show (List.range l.length).map _ = l
  apply List.ext_getElem?
  intro i
  rw [List.getElem?_map]
  by_cases hi : i < l.length
  ·rw [List.getElem?_range hi, qO hi]
   simp only [Option.map_some, hc i hi, Int.toNat_natCast]
  ·rw [List.getElem?_eq_none (by simpa using hi), List.getElem?_eq_none (by omega)]
   rfl
theorem ygW (s t : ByteArray) (B : Nat) (w : World) (c1 : chkI s.data.toList = 0) (c2 : chkI t.data.toList = 0) (hl : ¬ (s.size ≤ 18 ∧ t.size ≤ 18)) (hB : B ≤ w.heap.size) (hT : P10 B w) :
 Calls Tryz.prog 178 #[.string s, .string t] w (Ret w (pairV (resS ((Nat.gcd (valI s.data.toList).natAbs (valI t.data.toList).natAbs : Nat) : Int)) (resE ((Nat.gcd (valI s.data.toList).natAbs (valI t.data.toList).natAbs : Nat) : Int)))) := by
 have l1' := (yL c1).2
 have l2' := (yL c2).2
 rw [yg] at l1' l2'
 have H1 := hide (qN s t (by omega) (by omega) w)
 have hb0 : bothI s.data.toList t.data.toList = 0 := by unfold bothI; rw [if_pos c1, c2]
 rw [hb0] at H1
 have HT := hide hT
 have H2 := hide (fun w => xF s t hl w)
 have R1 := hide (fun w => yU s c1 w)
 have R2 := hide (fun w => yU t c2 w)
 obtain ⟨G, hG⟩ := xe (Nat.gcd (valI s.data.toList).natAbs (valI t.data.toList).natAbs)
 rw [← hG]
 have HG := hide hG
 clear c1 c2 hl hT hb0 l1' l2' hG
 go_enter Tryz.func178, Tryz.ntmps178
 go_wp2_with fail
 refine H1.out.mono ?_
 rintro e w1 ⟨rfl, hb1⟩
 have HB1 := hide hb1
 clear hb1 H1
 go_wp2_with fail
 refine (H2.out _).mono ?_
 rintro e w2 ⟨rfl, hb2⟩
 have HB2 := bt HB1 hb2
 clear hb2 H2 HB1
 go_wp2_with fail
 refine (R1.out _).mono ?_
 rintro e w3 ⟨m1, a1, l1, rfl, hb3, o1, n1, q1, k1⟩
 have HB3 := bt HB2 hb3
 have O1 := hide o1; have N1 := hide n1; have Q1 := hide q1
 obtain ⟨av1, cv1, hvf, _, _⟩ := o1.form
 subst hvf
 clear hb3 HB2 R1 o1 n1 q1
 have hf1 := fun w => wU m1 (.slice av1 l1.length cv1) w
 go_wp2_with fail
 clear hf1
 refine (R2.out _).mono ?_
 rintro e w4 ⟨m2, a2, l2, rfl, hb4, o2, n2, q2, k2⟩
 have HB4 := bt HB3 hb4
 have O1' := hide (O1.out.keep hb4)
 have O2 := hide o2; have N2 := hide n2; have Q2 := hide q2
 obtain ⟨av2, cv2, hvf, _, _⟩ := o2.form
 subst hvf
 clear hb4 HB3 R2 o2 n2 q2 O1
 have hf2 := fun w => wU m2 (.slice av2 l2.length cv2) w
 have HG2 := hide (show Nat.gcd (lv 1000000000 l1) (lv 1000000000 l2) = G by
  rw [HG.out, ← Q1.out, ← Q2.out, jn, jn])
 go_wp2_with fail
 clear hf2
 go_loopw [10, 11] (fun p q wr => ∃ (ap : Option Addr) (cp : Nat) (aq : Option Addr) (cq : Nat) (x y : List Nat), p = .slice ap x.length cp ∧ q = .slice aq y.length cq ∧ x.length ≤ 40 ∧ y.length ≤ 40 ∧ Hid (LimbAt wr.heap.size wr (.slice ap x.length cp) x ∧ LimbAt wr.heap.size wr (.slice aq y.length cq) y ∧ Norm 1000000000 x ∧ Norm 1000000000 y ∧ Nat.gcd (lv 1000000000 x) (lv 1000000000 y) = G ∧ Below w.heap.size w wr)) (fun _ q wr => lv 1000000000 (limbsAt wr q))
 case atStart => exact ⟨av1, cv1, av2, cv2, l1, l2, rfl, rfl, k1, k2, LimbAt.yx O1'.out, LimbAt.yx O2.out, N1.out, N2.out, HG2.out, HB4.out⟩
 case round =>
  clear k1 k2
  obtain ⟨ap, cp, aq, cq, x, y, rfl, rfl, hx, hy, hin⟩ := hrel
  have I1 := hide hin.out.1; have I2 := hide hin.out.2.1; have N3 := hide hin.out.2.2.1; have N4 := hide hin.out.2.2.2.1; have GG := hide hin.out.2.2.2.2.1; have HBW := hide hin.out.2.2.2.2.2
  clear hin
  by_cases hy0 : y = []
  ·subst hy0
   have hz : valS false (lv 1000000000 x) = (G : Int) := by
    have := GG.out
    rw [ycI, Nat.gcd_zero_right] at this
    rw [this]
    rfl
   have HR := hide (zw false (.slice ap x.length cp) x wr.heap.size wr I1.out (Nat.le_refl _) N3.out (by omega) ((HT.out.on HBW.out hB).mono (Nat.le_trans hB HBW.out.size)))
   rw [hz] at HR
   clear hz
   go_wp2_with fail
   refine HR.out.mono ?_
   rintro e w5 ⟨rfl, hb5⟩
   have HB5 := hide (HBW.out.trans (hb5.mono HBW.out.size))
   clear hb5 HR
   go_wp2_with fail
   refine bodyPost_ret (results_tmp2 rfl _ _ _) rfl ?_
   exact ⟨rfl, HB5.out⟩
  ·have hyl : 0 < (y.length : Int) := by
    have := List.length_pos_iff.2 hy0
    omega
   have HD := hide (jU (.slice ap x.length cp) (.slice aq y.length cq) x y wr.heap.size wr I1.out I2.out (Nat.le_refl _) N3.out N4.out hy0 (by omega) (by omega))
   have hyp : 0 < lv 1000000000 y := by
    rcases Nat.eq_zero_or_pos (lv 1000000000 y) with h | h
    ·exact absurd ((N4.out.zero (by omega)).1 h) hy0
    ·exact h
   have HYP := hide hyp
   clear hy0 hyp
   go_wp2_with fail
   refine HD.out.mono ?_
   rintro e w5 ⟨vq, vr, q, r, rfl, hb5, oq, or_, nq, nr, eq, er, lq, lr⟩
   obtain ⟨ar, cr, hvf⟩ := or_.form
   subst hvf
   have hrlt : lv 1000000000 r < lv 1000000000 y := by rw [er]; exact Nat.mod_lt _ HYP.out
   have hrl : r.length ≤ 40 := by
    have := norm_le nr N4.out.lt (Nat.le_of_lt hrlt)
    omega
   have HB5 := hide (HBW.out.trans (hb5.mono HBW.out.size))
   have J2 := hide ((I2.out.below hb5 (Nat.le_refl _)).mono hb5.size)
   have HE := hide (show Nat.gcd (lv 1000000000 y) (lv 1000000000 r) = G by rw [er, ← GG.out, Nat.gcd_comm (lv 1000000000 y), ← Nat.gcd_rec, Nat.gcd_comm])
   have OR := hide or_; have NR := hide nr; have HLT := hide hrlt
   clear hb5 oq or_ nq nr eq er lq lr HD hrlt
   go_wp2_with fail
   go_roundw
   case rel => exact ⟨aq, cq, ar, cr, y, r, rfl, rfl, hy, hrl, J2.out, OR.out, N4.out, NR.out, HE.out, HB5.out⟩
   case measure =>
    rw [zM OR.out, zM I2.out]
    exact HLT.out
theorem yhD {s t r : ByteArray} {x y : Int} (h1 : s.data.toList = Lib.itoa x) (h2 : t.data.toList = Lib.itoa y) (h3 : r.data.toList = Lib.itoa ((Nat.gcd x.natAbs y.natAbs : Nat) : Int)) (f1 : fits x) (f2 : fits y) (B : Nat) (w : World) (hB : B ≤ w.heap.size) (hT : P10 B w) :
 Calls Tryz.prog 178 #[.string s, .string t] w (Ret w (pairT r)) := by
 have c1 : chkI s.data.toList = 0 := by rw [h1]; exact yM f1
 have c2 : chkI t.data.toList = 0 := by rw [h2]; exact yM f2
 have ff : fits ((Nat.gcd x.natAbs y.natAbs : Nat) : Int) := by
  rcases Nat.eq_zero_or_pos x.natAbs with h0 | h0
  ·rw [h0, Nat.gcd_zero_left]
   exact yi f2 (by omega)
  ·exact yi f1 (by rw [Int.natAbs_natCast]; exact Nat.gcd_le_left _ h0)
 by_cases hl : s.size ≤ 18 ∧ t.size ≤ 18
 ·have e := yfj s t B w c1 c2 hl.1 hl.2 hB hT
  rw [h1, h2, ym, ym, pairV, vP h3] at e
  exact e
 ·have e := ygW s t B w c1 c2 hl hB hT
  rw [h1, h2, ym, ym, pairV, (vQ ff).1, (vQ ff).2, vP h3] at e
  exact e

theorem wV {l : List UInt8} (h : digs l = []) : chkI l = 11 := if_pos (.inl h)
theorem yd3 {l : List UInt8} (h : (digs l).head? = some 48) (h2 : l ≠ [48]) : chkI l = 11 := if_pos (.inr (.inl ⟨h, h2⟩))
theorem kV {l : List UInt8} {c : UInt8} (h : c ∈ digs l) (h2 : isDg c = false) : chkI l = 11 := by
 refine if_pos (.inr (.inr (fun e => ?_)))
 rw [List.all_eq_true] at e
 have := e c h
 rw [h2] at this
 cases this
theorem yd4 {l : List UInt8} (h : digs l ≠ []) (h2 : (digs l).head? = some 48 → l = [48]) (h3 : ∀ c ∈ digs l, isDg c = true) : chkI l = if 300 < (digs l).length then 4 else 0 := by
 refine if_neg ?_
 rintro (e | ⟨e, e2⟩ | e)
 ·exact h e
 ·exact e2 (h2 e)
 ·exact e (List.all_eq_true.2 h3)
theorem vd (s : ByteArray) (hs : s.size ≤ 1000000) (w : World) :
 Calls Tryz.prog 208 #[.string s] w (Ret w (.int .i64 (chkI s.data.toList))) := by
 by_cases h45 : s.data.toList.head? = some 45
 ·have hD : digs s.data.toList = s.data.toList.drop 1 := by
   cases hl : s.data.toList with
   |nil => rfl
   |cons c r =>
    rw [hl] at h45
    injection h45 with h45
    subst h45
    rfl
  obtain ⟨hp, hh⟩ := yT (s := s) (fun e => by rw [e] at h45; cases h45)
  have hp0 : (0 : Int) < (s.size : Int) := by omega
  have p2 : ((s[0].toNat : Int) == 45) = true := by
   rw [hh] at h45
   injection h45 with h45
   rw [h45]
   rfl
  clear hh h45
  by_cases hn0 : s.size = 1
  ·have HE := hide (show chkI s.data.toList = 11 from wV (by rw [hD]; exact List.drop_eq_nil_of_le (by rw [yg]; omega)))
   have q1 : ((1 : Int) == (s.size : Int)) = true := by rw [hn0]; rfl
   clear hD hn0
   go_enter Tryz.func208, Tryz.ntmps208
   go_wp2_with fail
   go_ret
   rw [HE.out]
   exact ⟨rfl, Below.refl _ _⟩
  ·have hlt : 1 < s.size := by omega
   have hlti : (1 : Int) < (s.size : Int) := by omega
   have q1 : ((1 : Int) == (s.size : Int)) = false := by
    have : ¬ (1 : Int) = (s.size : Int) := by omega
    simpa using this
   have hat : s.data.toList[1]? = some (s[1]'hlt) := by
    have h1 : s.data.toList[1]? = some s.data[1] := by simp
    exact h1
   have hhd : (digs s.data.toList).head? = some (s[1]'hlt) := by rw [hD, List.head?_drop]; exact hat
   by_cases hz : s[1]'hlt = 48 ∧ 1 < s.size
   ·have HE := hide (show chkI s.data.toList = 11 from yd3 (by rw [hhd, hz.1]) (fun e => by have := yg s; rw [e] at this; have := hz.2; simp at *; omega))
    have q2 : (((s[1]'hlt).toNat : Int) == 48) = true := by rw [hz.1]; rfl
    have q3 : (1 : Int) < (s.size : Int) := by have := hz.2; omega
    clear hD hn0 hz hat hhd
    go_enter Tryz.func208, Tryz.ntmps208
    go_wp2_with fail
    go_ret
    rw [HE.out]
    exact ⟨rfl, Below.refl _ _⟩
   ·have hway : (((s[1]'hlt).toNat : Int) == 48) = false ∨ ((((s[1]'hlt).toNat : Int) == 48) = true ∧ ((1 : Int) < (s.size : Int)) = False) := by
     by_cases h48 : s[1]'hlt = 48
     ·exact .inr ⟨by rw [h48]; rfl, eq_false (by have : ¬ 1 < s.size := fun e => hz ⟨h48, e⟩; omega)⟩
     ·refine .inl ?_
      have : (s[1]'hlt).toNat ≠ 48 := fun h => h48 (UInt8.toNat_inj.1 h)
      simp only [beq_eq_false_iff_ne, ne_eq]
      omega
    have HZ := hide (show (digs s.data.toList).head? = some 48 → s.data.toList = [48] from fun e => by
     rw [hhd] at e
     injection e with e
     have h1 : s.size = 1 := by have : ¬ 1 < s.size := fun h => hz ⟨e, h⟩; omega
     have h2 := yg s
     rw [h1] at h2
     obtain ⟨c, hc⟩ := List.length_eq_one_iff.1 h2
     have h0 : (1 : Nat) = 0 := by omega
     have h3 := hat
     rw [e, hc] at h3
     rw [hc]
     first
      |(simp at h3; done)
      |(injection h3 with h3; rw [h3]))
    have HD := hide hD
    clear hD hn0 hz hat hhd
    rcases hway with q2 | ⟨q2, q3⟩
    case inr => exact absurd hlti (fun h => by rw [q3] at h; exact h)
    all_goals
     go_enter Tryz.func208, Tryz.ntmps208
     go_wp2_with fail
     go_loopw [4] (fun i wr => ∃ k : Nat, 1 ≤ k ∧ k ≤ s.size ∧ i = .int .i64 k ∧ Hid (∀ c ∈ (s.data.toList.take k).drop 1, isDg c = true) ∧ wr = w) (fun i _ => s.size - (intOf i).toNat)
     case' atStart => exact ⟨1, Nat.le_refl _, by omega, rfl, fun c hc => by rw [List.drop_eq_nil_of_le (by rw [List.length_take]; omega)] at hc; simp at hc, rfl⟩
     case' round =>
      obtain ⟨k, hk1, hk2, rfl, hin, rfl⟩ := hrel
      by_cases hlt2 : k < s.size
      ·have hki : (k : Int) < (s.size : Int) := by omega
       have hk0 : (0 : Int) ≤ (k : Int) := by omega
       have hat2 : s.data.toList[k]? = some (s[k]'hlt2) := by
        have h1 : s.data.toList[k]? = some s.data[k] := by simp
        exact h1
       have hmem : s[k]'hlt2 ∈ digs s.data.toList := by
        rw [HD.out]
        refine List.mem_of_getElem? (i := k - 1) ?_
        rw [List.getElem?_drop, show 1 + (k - 1) = k by omega]
        exact hat2
       obtain ⟨y, hyv⟩ : ∃ y : Nat, y = (s[k]'hlt2).toNat := ⟨_, rfl⟩
       have hyv2 : (s[k]'hlt2).toNat = y := hyv.symm
       by_cases hy1 : y < 48
       ·have HE := hide (show chkI s.data.toList = 11 from kV hmem (by unfold isDg; rw [hyv2, decide_eq_false (by omega : ¬ 48 ≤ y)]; rfl))
        have q4 : (y : Int) < 48 := by omega
        clear hat2 hmem hyv hin hy1
        go_wp2_with fail
        go_ret
        rw [HE.out]
        exact ⟨rfl, Below.refl _ _⟩
       ·by_cases hy2 : 57 < y
        ·have HE := hide (show chkI s.data.toList = 11 from kV hmem (by unfold isDg; rw [hyv2, decide_eq_false (by omega : ¬ y ≤ 57), Bool.and_false]))
         have q4 : ((y : Int) < 48) = False := eq_false (by omega)
         have q5 : (57 : Int) < (y : Int) := by omega
         clear hat2 hmem hyv hin hy1 hy2
         go_wp2_with fail
         go_ret
         rw [HE.out]
         exact ⟨rfl, Below.refl _ _⟩
        ·have hdg : isDg (s[k]'hlt2) = true := yH.2 (by omega)
         have HN := hide (show ∀ c ∈ (s.data.toList.take (k + 1)).drop 1, isDg c = true from fun c hc => by
            rw [List.take_add_one, hat2, List.drop_append_of_le_length (by rw [List.length_take, yg]; omega)] at hc
            rcases List.mem_append.1 hc with h | h
            ·exact hin.out c h
            ·simp at h
             rw [h]
             exact hdg)
         have q4 : ((y : Int) < 48) = False := eq_false (by omega)
         have q5 : ((57 : Int) < (y : Int)) = False := eq_false (by omega)
         clear hat2 hmem hyv hin hy1 hy2 hdg
         go_wp2_with fail
         go_roundw
         case rel => exact ⟨k + 1, by omega, by omega, by simp, HN.out, trivial⟩
         case measure => simp [intOf]; omega
      ·obtain rfl : k = s.size := by omega
       have hki : ((s.size : Int) < (s.size : Int)) = False := eq_false (by omega)
       have hlen : (digs s.data.toList).length = s.size - 1 := by rw [HD.out, List.length_drop, yg]
       have hrest := yd4 (l := s.data.toList) (fun e => by rw [e] at hlen; simp at hlen; omega) HZ.out (fun c hc => by
        rw [HD.out] at hc
        refine hin.out c ?_
        rw [List.take_of_length_le (by rw [yg]; exact Nat.le_refl _)]
        exact hc)
       rw [hlen] at hrest
       by_cases h3 : 300 < s.size - 1
       ·rw [if_pos h3] at hrest
        have HE := hide hrest
        have q4 : (300 : Int) < (s.size : Int) - 1 := by omega
        clear hin hlen hrest h3 hlt2
        go_wp2_with fail
        go_ret
        rw [HE.out]
        exact ⟨rfl, Below.refl _ _⟩
       ·rw [if_neg h3] at hrest
        have HE := hide hrest
        have q4 : ((300 : Int) < (s.size : Int) - 1) = False := eq_false (by omega)
        clear hin hlen hrest h3 hlt2
        go_wp2_with fail
        go_ret
        rw [HE.out]
        exact ⟨rfl, Below.refl _ _⟩
 ·have hD : digs s.data.toList = s.data.toList.drop 0 := by
   rw [List.drop_zero]
   cases hl : s.data.toList with
   |nil => rfl
   |cons c r =>
    rw [hl] at h45
    have : c ≠ 45 := fun e => h45 (by rw [e]; rfl)
    simp [digs, this]
  have hway0 : ((0 : Int) < (s.size : Int)) = False ∨ ∃ hp : 0 < s.size, (0 : Int) < (s.size : Int) ∧ ((s[0].toNat : Int) == 45) = false := by
   by_cases h0 : s.data.toList = []
   ·refine .inl (eq_false ?_)
    have := yg s
    rw [h0] at this
    simp at this
    omega
   ·obtain ⟨hp, hh⟩ := yT h0
    refine .inr ⟨hp, by omega, ?_⟩
    have h1 : s[0] ≠ 45 := fun e => h45 (by rw [hh, e])
    have : s[0].toNat ≠ 45 := fun h => h1 (UInt8.toNat_inj.1 h)
    simp only [beq_eq_false_iff_ne, ne_eq]
    omega
  clear h45
  rcases hway0 with p1 | ⟨hp, p1, p2⟩
  ·have hn0 : s.size = 0 := by
    have : ¬ (0 : Int) < (s.size : Int) := fun h => by rw [p1] at h; exact h
    omega
   have HE := hide (show chkI s.data.toList = 11 from wV (by rw [hD]; exact List.drop_eq_nil_of_le (by rw [yg]; omega)))
   have q1 : ((0 : Int) == (s.size : Int)) = true := by rw [hn0]; rfl
   clear hD hn0
   go_enter Tryz.func208, Tryz.ntmps208
   go_wp2_with fail
   go_ret
   rw [HE.out]
   exact ⟨rfl, Below.refl _ _⟩
  have hp0 : (0 : Int) < (s.size : Int) := by omega
  by_cases hn0 : s.size = 0
  ·have HE := hide (show chkI s.data.toList = 11 from wV (by rw [hD]; exact List.drop_eq_nil_of_le (by rw [yg]; omega)))
   have q1 : ((0 : Int) == (s.size : Int)) = true := by rw [hn0]; rfl
   clear hD hn0
   go_enter Tryz.func208, Tryz.ntmps208
   go_wp2_with fail
   go_ret
   rw [HE.out]
   exact ⟨rfl, Below.refl _ _⟩
  ·have hlt : 0 < s.size := by omega
   have hlti : (0 : Int) < (s.size : Int) := by omega
   have q1 : ((0 : Int) == (s.size : Int)) = false := by
    have : ¬ (0 : Int) = (s.size : Int) := by omega
    simpa using this
   have hat : s.data.toList[0]? = some (s[0]'hlt) := by
    have h1 : s.data.toList[0]? = some s.data[0] := by simp
    exact h1
   have hhd : (digs s.data.toList).head? = some (s[0]'hlt) := by rw [hD, List.head?_drop]; exact hat
   by_cases hz : s[0]'hlt = 48 ∧ 1 < s.size
   ·have HE := hide (show chkI s.data.toList = 11 from yd3 (by rw [hhd, hz.1]) (fun e => by have := yg s; rw [e] at this; have := hz.2; simp at *; omega))
    have q2 : (((s[0]'hlt).toNat : Int) == 48) = true := by rw [hz.1]; rfl
    have q3 : (1 : Int) < (s.size : Int) := by have := hz.2; omega
    clear hD hn0 hz hat hhd
    go_enter Tryz.func208, Tryz.ntmps208
    go_wp2_with fail
    go_ret
    rw [HE.out]
    exact ⟨rfl, Below.refl _ _⟩
   ·have hway : (((s[0]'hlt).toNat : Int) == 48) = false ∨ ((((s[0]'hlt).toNat : Int) == 48) = true ∧ ((1 : Int) < (s.size : Int)) = False) := by
     by_cases h48 : s[0]'hlt = 48
     ·exact .inr ⟨by rw [h48]; rfl, eq_false (by have : ¬ 1 < s.size := fun e => hz ⟨h48, e⟩; omega)⟩
     ·refine .inl ?_
      have : (s[0]'hlt).toNat ≠ 48 := fun h => h48 (UInt8.toNat_inj.1 h)
      simp only [beq_eq_false_iff_ne, ne_eq]
      omega
    have HZ := hide (show (digs s.data.toList).head? = some 48 → s.data.toList = [48] from fun e => by
     rw [hhd] at e
     injection e with e
     have h1 : s.size = 1 := by have : ¬ 1 < s.size := fun h => hz ⟨e, h⟩; omega
     have h2 := yg s
     rw [h1] at h2
     obtain ⟨c, hc⟩ := List.length_eq_one_iff.1 h2
     have h0 : (0 : Nat) = 0 := by omega
     have h3 := hat
     rw [e, hc] at h3
     rw [hc]
     first
      |(simp at h3; done)
      |(injection h3 with h3; rw [h3]))
    have HD := hide hD
    clear hD hn0 hz hat hhd
    rcases hway with q2 | ⟨q2, q3⟩
    all_goals
     go_enter Tryz.func208, Tryz.ntmps208
     go_wp2_with fail
     go_loopw [4] (fun i wr => ∃ k : Nat, 0 ≤ k ∧ k ≤ s.size ∧ i = .int .i64 k ∧ Hid (∀ c ∈ (s.data.toList.take k).drop 0, isDg c = true) ∧ wr = w) (fun i _ => s.size - (intOf i).toNat)
     case' atStart => exact ⟨0, Nat.le_refl _, by omega, rfl, fun c hc => by rw [List.drop_eq_nil_of_le (by rw [List.length_take]; omega)] at hc; simp at hc, rfl⟩
     case' round =>
      obtain ⟨k, hk1, hk2, rfl, hin, rfl⟩ := hrel
      by_cases hlt2 : k < s.size
      ·have hki : (k : Int) < (s.size : Int) := by omega
       have hk0 : (0 : Int) ≤ (k : Int) := by omega
       have hat2 : s.data.toList[k]? = some (s[k]'hlt2) := by
        have h1 : s.data.toList[k]? = some s.data[k] := by simp
        exact h1
       have hmem : s[k]'hlt2 ∈ digs s.data.toList := by
        rw [HD.out]
        refine List.mem_of_getElem? (i := k - 0) ?_
        rw [List.getElem?_drop, show 0 + (k - 0) = k by omega]
        exact hat2
       obtain ⟨y, hyv⟩ : ∃ y : Nat, y = (s[k]'hlt2).toNat := ⟨_, rfl⟩
       have hyv2 : (s[k]'hlt2).toNat = y := hyv.symm
       by_cases hy1 : y < 48
       ·have HE := hide (show chkI s.data.toList = 11 from kV hmem (by unfold isDg; rw [hyv2, decide_eq_false (by omega : ¬ 48 ≤ y)]; rfl))
        have q4 : (y : Int) < 48 := by omega
        clear hat2 hmem hyv hin hy1
        go_wp2_with fail
        go_ret
        rw [HE.out]
        exact ⟨rfl, Below.refl _ _⟩
       ·by_cases hy2 : 57 < y
        ·have HE := hide (show chkI s.data.toList = 11 from kV hmem (by unfold isDg; rw [hyv2, decide_eq_false (by omega : ¬ y ≤ 57), Bool.and_false]))
         have q4 : ((y : Int) < 48) = False := eq_false (by omega)
         have q5 : (57 : Int) < (y : Int) := by omega
         clear hat2 hmem hyv hin hy1 hy2
         go_wp2_with fail
         go_ret
         rw [HE.out]
         exact ⟨rfl, Below.refl _ _⟩
        ·have hdg : isDg (s[k]'hlt2) = true := yH.2 (by omega)
         have HN := hide (show ∀ c ∈ (s.data.toList.take (k + 1)).drop 0, isDg c = true from fun c hc => by
            rw [List.take_add_one, hat2, List.drop_append_of_le_length (by rw [List.length_take, yg]; omega)] at hc
            rcases List.mem_append.1 hc with h | h
            ·exact hin.out c h
            ·simp at h
             rw [h]
             exact hdg)
         have q4 : ((y : Int) < 48) = False := eq_false (by omega)
         have q5 : ((57 : Int) < (y : Int)) = False := eq_false (by omega)
         clear hat2 hmem hyv hin hy1 hy2 hdg
         go_wp2_with fail
         go_roundw
         case rel => exact ⟨k + 1, by omega, by omega, by simp, HN.out, trivial⟩
         case measure => simp [intOf]; omega
      ·obtain rfl : k = s.size := by omega
       have hki : ((s.size : Int) < (s.size : Int)) = False := eq_false (by omega)
       have hlen : (digs s.data.toList).length = s.size - 0 := by rw [HD.out, List.length_drop, yg]
       have hrest := yd4 (l := s.data.toList) (fun e => by rw [e] at hlen; simp at hlen; omega) HZ.out (fun c hc => by
        rw [HD.out] at hc
        refine hin.out c ?_
        rw [List.take_of_length_le (by rw [yg]; exact Nat.le_refl _)]
        exact hc)
       rw [hlen] at hrest
       by_cases h3 : 300 < s.size - 0
       ·rw [if_pos h3] at hrest
        have HE := hide hrest
        have q4 : (300 : Int) < (s.size : Int) := by omega
        clear hin hlen hrest h3 hlt2
        go_wp2_with fail
        go_ret
        rw [HE.out]
        exact ⟨rfl, Below.refl _ _⟩
       ·rw [if_neg h3] at hrest
        have HE := hide hrest
        have q4 : ((300 : Int) < (s.size : Int)) = False := eq_false (by omega)
        clear hin hlen hrest h3 hlt2
        go_wp2_with fail
        go_ret
        rw [HE.out]
        exact ⟨rfl, Below.refl _ _⟩

theorem qz (v : Value) (l : List Nat) (i : Nat) (B : Nat) (w : World) (h : LimbAt B w v l) (hi : i ≤ 1000000) :
 Calls Tryz.prog 245 #[v, .int .i64 i] w fun e w' => e = .returned (.int .i64 (lat l i)) ∧ w' = w := by
 have i0 : (0 : Int) ≤ (i : Int) := by omega
 rcases h.cases with ⟨a, c, rfl, rfl⟩ | ⟨b, o, cap, rfl, hb, hc⟩
 ·have hlt : ((i : Int) < 0) = False := eq_false (by omega)
  have hl : lat [] i = 0 := rfl
  rw [hl]
  go_enter Tryz.func245, Tryz.ntmps245
  go_wp2
  go_ret
  exact ⟨rfl, rfl⟩
 ·by_cases hlt : i < l.length
  ·have hcell := hc i hlt
   have hlti : (i : Int) < (l.length : Int) := by omega
   clear hc h
   go_enter Tryz.func245, Tryz.ntmps245
   go_wp2
   go_ret
   exact ⟨rfl, rfl⟩
  ·have hlti : ¬ (i : Int) < (l.length : Int) := by omega
   have hl := kT (l := l) (i := i) (by omega)
   rw [hl]
   clear hc h hl
   go_enter Tryz.func245, Tryz.ntmps245
   go_wp2
   go_ret
   exact ⟨rfl, rfl⟩
theorem zy (a : Option Addr) (c : Nat) (l : List Nat) (B : Nat) (w : World) (h : LimbAt B w (.slice a l.length c) l) (hc : l.length ≤ c) (hl : l.length ≤ 1000000) :
 Calls Tryz.prog 224 #[.slice a l.length c] w fun e w' => e = .returned (.slice a (trimTo l l.length) c) ∧ w = w' := by
 have H := hide h
 obtain ⟨n, hn⟩ := xe l.length
 rw [← hn] at hc hl ⊢
 have HN := hide hn
 clear h hn
 go_enter Tryz.func224, Tryz.ntmps224
 go_wp2_with fail
 go_loopw [3] (fun t wr => ∃ k : Nat, k ≤ n ∧ t = .int .i64 k ∧ Hid (trimTo l k = trimTo l n) ∧ wr = w) (fun t _ => (intOf t).toNat)
 case atStart => exact ⟨n, Nat.le_refl _, rfl, rfl, rfl⟩
 case round =>
  obtain ⟨k, hk, rfl, ht, rfl⟩ := hrel
  rcases Nat.eq_zero_or_pos k with h0 | h0
  ·have hq : (0 < k) = False := eq_false (by omega)
   have HT := hide (show trimTo l n = k by rw [← ht.out, h0]; rfl)
   have hkc : (k : Int) ≤ (c : Int) := by omega
   clear h0 ht
   go_wp2_with fail
   go_ret
   rw [HT.out]
   exact ⟨rfl, rfl⟩
  ·rcases H.out.cases with ⟨a0, c0, hv, hnil⟩ | ⟨b, o, cap, hv, hb, hcl⟩
   ·exfalso
    have := HN.out
    rw [hnil] at this
    simp at this
    omega
   ·have hcell := hcl (k - 1) (by rw [← HN.out]; omega)
    injection hv with hv1 hv2 hv3
    subst hv1; subst hv3
    obtain ⟨m, hm⟩ : ∃ m, k = m + 1 := ⟨k - 1, by omega⟩
    subst hm
    rw [Nat.add_sub_cancel] at hcell
    have hq : decide (((m + 1 : Nat) : Int) > 0) = true := by simp
    have hm1 : ((m + 1 : Nat) : Int) - 1 = (m : Int) := by omega
    have hmn : (m : Int) < (n : Int) := by omega
    by_cases hz : lat l m = 0
    ·have hz1 : ((lat l m : Int) == 0) = true := by rw [hz]; rfl
     have HT := hide (show trimTo l m = trimTo l n from (yep hz).symm.trans ht.out)
     clear hz ht hcl hv2
     go_wp2_with fail
     go_roundw
     case rel => exact ⟨m, by omega, rfl, HT, trivial⟩
     case measure => simp [intOf]
    ·have hz1 : ((lat l m : Int) == 0) = false := by simpa using hz
     have HT := hide (show trimTo l n = m + 1 from ht.out.symm.trans (ydY hz))
     have hkc : ((m + 1 : Nat) : Int) ≤ (c : Int) := by omega
     clear hz ht hcl hv2
     go_wp2_with fail
     go_ret
     rw [HT.out]
     exact ⟨rfl, rfl⟩
theorem qH (s t : ByteArray) (hs : s.size ≤ 1000000) (ht : t.size ≤ 1000000) (w : World) :
 Calls Tryz.prog 185 #[.string s, .string t] w (Ret w (.int .i64 (bothI s.data.toList t.data.toList))) := by
 have H1 := hide (fun w => vd s hs w)
 have H2 := hide (fun w => vd t ht w)
 by_cases h : chkI s.data.toList = 0
 ·have HE := hide (show bothI s.data.toList t.data.toList = chkI t.data.toList from if_pos h)
  rw [h] at H1
  clear h
  go_enter Tryz.func185, Tryz.ntmps185
  go_wp2_with fail
  refine (H1.out _).mono ?_
  rintro e w1 ⟨rfl, hb1⟩
  have HB1 := hide hb1
  clear hb1 H1
  go_wp2_with fail
  refine (H2.out _).mono ?_
  rintro e w2 ⟨rfl, hb2⟩
  have HB2 := bt HB1 hb2
  clear hb2 H2 HB1
  go_wp2_with fail
  go_ret
  rw [HE.out]
  exact ⟨rfl, HB2.out⟩
 ·have HE := hide (show bothI s.data.toList t.data.toList = chkI s.data.toList from if_neg h)
  have hq : (chkI s.data.toList != 0) = true := by simpa using h
  obtain ⟨E, hE⟩ := xe (chkI s.data.toList)
  rw [← hE] at H1 hq HE
  clear h hE
  go_enter Tryz.func185, Tryz.ntmps185
  go_wp2_with fail
  refine (H1.out _).mono ?_
  rintro e w1 ⟨rfl, hb1⟩
  have HB1 := hide hb1
  clear hb1 H1
  go_wp2_with fail
  go_ret
  rw [HE.out]
  exact ⟨rfl, HB1.out⟩
theorem yZ (l : List UInt8) : digs l = l.drop (if l.head? = some 45 then 1 else 0) := by
 cases l with
 |nil => rfl
 |cons c r =>
  by_cases h : c = 45
  ·simp [digs, h]
  ·simp [digs, h]
theorem kg (s : ByteArray) (c1 : chkI s.data.toList = 0) (hs : s.size ≤ 17) (w : World) :
 Calls Tryz.prog 222 #[.string s] w (Ret w (.tuple #[.int .i64 (valI s.data.toList), .bool true])) := by
 obtain ⟨mi, hmi⟩ := xe (decide (s.data.toList.head? = some 45))
 obtain ⟨off, hoff⟩ : ∃ off : Nat, off = if mi then 1 else 0 := ⟨_, rfl⟩
 have hd : digs s.data.toList = s.data.toList.drop off := by
  rw [yZ, hoff, hmi]
  by_cases h : s.data.toList.head? = some 45 <;> simp [h]
 have HD := hide hd
 have HDG := hide (yL c1).1
 have HV := hide (ydS s.data.toList)
 rw [← hmi] at HV
 have hpos := jL c1
 rw [yg] at hpos
 have hsi : (s.size : Int) ≤ 17 := by omega
 have hne : s.data.toList ≠ [] := fun e => by have := yg s; rw [e] at this; simp at this; omega
 obtain ⟨hp, hh⟩ := yT hne
 have hp0 : (0 : Int) < (s.size : Int) := by omega
 have h45 : ((s[0].toNat : Int) == 45) = mi := by
  rw [hmi, hh]
  by_cases h : s[0] = 45
  ·rw [h]; rfl
  ·have : s[0].toNat ≠ 45 := fun e => h (UInt8.toNat_inj.1 e)
   have h2 : ((s[0].toNat : Int) == 45) = false := by
    simp only [beq_eq_false_iff_ne, ne_eq]
    omega
   rw [h2]
   simp [h]
 have hlen : (digs s.data.toList).length = s.size - off := by rw [hd, List.length_drop, yg]
 have hbnd : dv (digs s.data.toList) < 100000000000000000 := by
  have h1 := yay _ (yL c1).1
  have h2 : 10 ^ (digs s.data.toList).length ≤ 10 ^ 17 := Nat.pow_le_pow_right (by omega) (by rw [hlen]; omega)
  have h3 : (10 : Nat) ^ 17 = 100000000000000000 := by decide
  omega
 have HOF := hide hoff; have HMI := hide hmi; have HB := hide hbnd; have H45 := hide h45
 clear hd c1 hne hh hlen hoff hmi hbnd
 go_enter Tryz.func222, Tryz.ntmps222
 go_wp2_with fail
 clear h45
 go_loopw [4, 5] (fun acc i wr => ∃ k A : Nat, k ≤ s.size ∧ i = .int .i64 k ∧ acc = .int .i64 A ∧ Hid (A = dv ((digs s.data.toList).take (k - off))) ∧ wr = w) (fun _ i _ => s.size - (intOf i).toNat)
 case atStart => exact ⟨0, 0, Nat.zero_le _, rfl, rfl, by rw [Nat.zero_sub]; rfl, rfl⟩
 case round =>
  obtain ⟨k, A, hk, rfl, rfl, hA, rfl⟩ := hrel
  by_cases hlt : k < s.size
  ·have hki : (k : Int) < (s.size : Int) := by omega
   have hk0 : (0 : Int) ≤ (k : Int) := by omega
   obtain ⟨y, hyv⟩ : ∃ y : Nat, y = (s[k]'hlt).toNat := ⟨_, rfl⟩
   have hyv2 : (s[k]'hlt).toNat = y := hyv.symm
   have hat : s.data.toList[k]? = some (s[k]'hlt) := by
    have h1 : s.data.toList[k]? = some s.data[k] := by simp
    exact h1
   by_cases hko : k < off
   ·have hk00 : k = 0 ∧ off = 1 := by
     have := HOF.out
     cases hm : mi <;> rw [hm] at this <;> simp at this <;> omega
    have hmt : mi = true := by
     have := HOF.out
     cases hm : mi
     ·rw [hm] at this; simp at this; omega
     ·rfl
    have hy45 : y = 45 := by
     have h1 := HMI.out
     rw [hmt] at h1
     have h2 := of_decide_eq_true h1.symm
     have h3 : s.data.toList[0]? = some 45 := by rw [← List.head?_eq_getElem?]; exact h2
     obtain ⟨rfl, _⟩ := hk00
     rw [h3] at hat
     rw [hyv]
     injection hat with hat
     rw [← hat]
     rfl
    have hq : ((y : Int) != 45) = false := by rw [hy45]; rfl
    have HN := hide (show A = dv ((digs s.data.toList).take (k + 1 - off)) by
     have h1 := hA.out
     rw [show k - off = 0 by omega] at h1
     rw [h1, show k + 1 - off = 0 by omega])
    clear hat hyv hy45 hmt hk00 hko hA
    go_wp2_with fail
    go_roundw
    case rel => exact ⟨k + 1, A, by omega, by go_num, rfl, HN, trivial⟩
    case measure => simp [intOf]; omega
   ·have hat2 : (digs s.data.toList)[k - off]? = some (s[k]'hlt) := by
     rw [HD.out, List.getElem?_drop, show off + (k - off) = k by omega]
     exact hat
    have hdg := yH.1 (HDG.out _ (List.mem_of_getElem? hat2))
    rw [hyv2] at hdg
    have hq : ((y : Int) != 45) = true := by
     have : (y : Int) ≠ 45 := by omega
     simpa using this
    have hnew : dv ((digs s.data.toList).take (k + 1 - off)) = A * 10 + (y - 48) := by
     rw [show k + 1 - off = (k - off) + 1 by omega, List.take_add_one, hat2]
     show dv (_ ++ [s[k]'hlt]) = _
     rw [qV, hyv2, hA.out]
    have hle : A * 10 + (y - 48) < 100000000000000000 := by
     rw [← hnew]
     refine Nat.lt_of_le_of_lt ?_ HB.out
     have h1 := qh ((digs s.data.toList).take (k + 1 - off)) ((digs s.data.toList).drop (k + 1 - off))
     rw [List.take_append_drop] at h1
     rw [h1]
     have h2 : 0 < 10 ^ ((digs s.data.toList).drop (k + 1 - off)).length := Nat.pow_pos (by omega)
     have h3 : dv ((digs s.data.toList).take (k + 1 - off)) * 1 ≤ dv ((digs s.data.toList).take (k + 1 - off)) * 10 ^ ((digs s.data.toList).drop (k + 1 - off)).length := Nat.mul_le_mul_left _ h2
     omega
    have HN := hide hnew.symm
    have y0 : (48 : Int) ≤ (y : Int) := by omega
    have y1 : (y : Int) ≤ 57 := by omega
    have a1 : (A : Int) < 10000000000000000 := by omega
    have HC := hide (show 10 * (A : Int) + ((y : Int) - 48) = ((A * 10 + (y - 48) : Nat) : Int) by omega)
    clear hat hat2 hyv hdg hnew hle hko hA
    go_wp2_with fail
    go_roundw
    case rel => exact ⟨k + 1, A * 10 + (y - 48), by omega, by go_num, by rw [← HC.out], HN, trivial⟩
    case measure => simp [intOf]; omega
  ·obtain rfl : k = s.size := by omega
   have hki : ((s.size : Int) < (s.size : Int)) = False := eq_false (by omega)
   have hA2 : A = dv (digs s.data.toList) := by
    rw [hA.out, List.take_of_length_le]
    rw [HD.out, List.length_drop, yg]
    exact Nat.le_refl _
   have hAb : (A : Int) < 100000000000000000 := by
    have := HB.out
    rw [← hA2] at this
    omega
   rw [← hA2] at HV
   have h45 := H45.out
   clear hlt hA hA2
   cases mi
   ·go_wp2_with fail
    refine bodyPost_ret (results_tmp2 rfl _ _ _) rfl ?_
    exact ⟨by rw [HV.out]; rfl, Below.refl _ _⟩
   ·go_wp2_with fail
    refine bodyPost_ret (results_tmp2 rfl _ _ _) rfl ?_
    exact ⟨by rw [HV.out]; rfl, Below.refl _ _⟩
theorem ycF (s : ByteArray) (hs : 17 < s.size) (w : World) :
 Calls Tryz.prog 222 #[.string s] w (Ret w (.tuple #[.int .i64 0, .bool false])) := by
 have e1 : (17 : Int) < (s.size : Int) := by omega
 go_enter Tryz.func222, Tryz.ntmps222
 go_wp2_with fail
 refine bodyPost_ret (results_tmp2 rfl _ _ _) rfl ?_
 exact ⟨rfl, Below.refl _ _⟩
end Go.Proofs.YtklgpilgalfckaaGreatDoor
