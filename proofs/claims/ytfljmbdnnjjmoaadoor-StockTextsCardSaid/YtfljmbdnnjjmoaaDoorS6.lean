/-
  stock.Fits: the walks.
-/
import Derived.Test.YtfljmbdnnjjmoaaDoorS4
import Derived.Test.YtfljmbdnnjjmoaaDoorS5
import Derived.Test.YtfljmbdnnjjmoaaDoorGen2
namespace Go.Proofs.YtfljmbdnnjjmoaaDoor
open Go.RowKit Go.KP Go.Shelf
attribute [local go_sem] Oper.semAt_some

theorem info3 : (Tryd.prog.info? 3).map (fun i => (i.zero, i.size, i.bytes)) = some (some (.int .i64 0), 1, 8) := by kernel_rfl

set_option maxRecDepth 100000 in
set_option maxHeartbeats 1000000 in
theorem fits_err (wd dp ln ct cs kerf : Int) (gv : Value) (gs : List (Int × Int)) (A : Option Addr) (n c : Nat) (ls : List Int) (B : Nat) (w : World) (hg : SlAt B w 2 gv gs.length (pcells gs)) (hB : B ≤ w.heap.size)
    (hn : ls.length = n) (hls : ∀ k, k < n → ∃ b o, A = some ⟨b, o, none⟩ ∧ b < B ∧ w.cell? ⟨b, o + k, none⟩ = some (.int .i64 (ls[k]?.getD 0))) (he : fitErr (chk wd dp ln ct cs gs) kerf ls ≠ 0) :
    Calls Tryd.prog 17 #[barV wd dp ln ct cs gv, .slice A n c, .int .i64 kerf] w (Ret w (.tuple #[.slice none 0 0, .bool false, .int .i64 (fitErr (chk wd dp ln ct cs gs) kerf ls)])) := by
  have HG := hide hg; have HLS := hide hls; have HN := hide hn; have HE := hide he
  clear hg hls hn he
  refine (callsIn_wide (n := 0)).1 ?_
  refine callsIn_of_wp_marks Tryd.func17 rfl trivial ?_ rfl
  simp only [Tryd.ntmps17, List.size_toArray, List.length_cons, List.length_nil, Nat.reduceAdd, Nat.reduceSub, Array.replicate_succ, Array.replicate_zero, List.push_toArray, List.append_toArray, List.nil_append, List.cons_append]
  gi_wp2_with fail
  obtain ⟨b0, b1, b2, hs0, hB0⟩ := heap3 w (.cells #[.int .i64 wd, .int .i64 dp, .int .i64 ln, .int .i64 ct, .int .i64 cs, gv] 24) (.cells #[.slice A n c] 34) (.cells #[.int .i64 kerf] 3)
  obtain ⟨w0, hw0⟩ : ∃ w0, ((w.alloc (.cells #[.int .i64 wd, .int .i64 dp, .int .i64 ln, .int .i64 ct, .int .i64 cs, gv] 24)).alloc (.cells #[.slice A n c] 34)).alloc (.cells #[.int .i64 kerf] 3) = w0 := ⟨_, rfl⟩
  rw [hw0] at b0 b1 b2 hs0 hB0 ⊢
  clear hw0
  refine ⟨trivial, rfl, (callsIn_wide.2 (checkKerf_any wd dp ln ct cs kerf gv gs B w0 (HG.out.below hB0 hB) (by omega))).mono ?_⟩
  rintro e w1 ⟨rfl, hb1⟩
  have d0 := below_blk hb1 b0 (by omega)
  have d1 := below_blk hb1 b1 (by omega)
  have d2 := below_blk hb1 b2 (by omega)
  have hB1 := below_left hB0 hb1 (by omega)
  have hs1 : w.heap.size + 3 ≤ w1.heap.size := by have := hb1.size; omega
  have c0 := fun o => cell_blk d0 o
  have c1 := fun o => cell_blk d1 o
  by_cases hke : kerfErr (chk wd dp ln ct cs gs) kerf = 0
  · have D0 := hide d0; have D1 := hide d1; have D2 := hide d2; have HB1 := hide hB1
    clear b0 b1 b2 hs0 hB0 hb1 d0 d1 d2 hB1
    rw [hke]
    have HK := hide hke
    clear hke
    by_cases h64 : 64 < ls.length
    · have hn64 : 64 < (n : Int) := by have := HN.out; omega
      gi_wp2
      refine ⟨_, results_tmp3 rfl _ _ _, ?_, HB1.out⟩
      have hfe : fitErr (chk wd dp ln ct cs gs) kerf ls = 4 := by
        unfold fitErr
        rw [if_pos HK.out, if_pos h64]
      rw [hfe]
      rfl
    · have hn64 : (n : Int) ≤ 64 := by have := HN.out; omega
      have hany : ls.any (fun x => !btw x 1 65536) = true := by
        have := HE.out
        unfold fitErr at this
        rw [if_pos HK.out, if_neg h64] at this
        exact Decidable.byContradiction fun hx => this (by rw [if_neg hx])
      have HA := hide hany
      have hfe : fitErr (chk wd dp ln ct cs gs) kerf ls = 2 := by
        unfold fitErr
        rw [if_pos HK.out, if_neg h64, if_pos hany]
      have HF := hide hfe
      have hd64 : decide ((64 : Int) < (n : Int)) = false := by simpa using hn64
      clear hany hfe hn64
      gi_wp2_with fail
      refine ⟨trivial, rfl, (callsIn_wide.2 (containsInt_any 51 #[] (fun x => !btw x 1 65536) A n c ls w1 HN.out (by have := HN.out; omega) (fun k hk => ?_) (fits1_answers w1))).mono ?_⟩
      · obtain ⟨b, o, h1, h2, h3⟩ := HLS.out k hk
        exact ⟨b, o, h1, by omega, (HB1.out.cell (p := ⟨b, o + k, none⟩) (by simp; omega)).trans h3⟩
      rintro e w2 ⟨rfl, hb2⟩
      have hB2 := below_left HB1.out hb2 (by omega)
      rw [HA.out]
      clear c0 c1 D0 D1 D2 HB1 hb2
      have HB2 := hide hB2
      clear hB2
      gi_wp2
      refine ⟨_, results_tmp3 rfl _ _ _, ?_, HB2.out⟩
      rw [HF.out]
      rfl
  · have hfe : fitErr (chk wd dp ln ct cs gs) kerf ls = kerfErr (chk wd dp ln ct cs gs) kerf := by
      unfold fitErr
      rw [if_neg hke]
    have hk1 : (kerfErr (chk wd dp ln ct cs gs) kerf != 0) = true := by simpa using hke
    have HKE := hide hke; have HB1 := hide hB1; have HF := hide hfe
    clear b0 b1 b2 hs0 hB0 hb1 d0 d1 d2 hB1 hke hfe
    gi_wp2
    refine ⟨_, results_tmp3 rfl _ _ _, ?_, HB1.out⟩
    rw [HF.out]
    rfl

set_option maxRecDepth 100000 in
set_option maxHeartbeats 2000000 in
/-- Fits, where nothing is wrong with its arguments. -/
theorem fits_ok (wd dp ln ct cs kerf : Int) (gv : Value) (gs : List (Int × Int)) (A : Option Addr) (n c : Nat) (ls : List Int) (B : Nat) (w : World) (hg : SlAt B w 2 gv gs.length (pcells gs)) (hB : B ≤ w.heap.size)
    (hn : ls.length = n) (hls : ∀ k, k < n → ∃ b o, A = some ⟨b, o, none⟩ ∧ b < B ∧ w.cell? ⟨b, o + k, none⟩ = some (.int .i64 (ls[k]?.getD 0))) (hc : chk wd dp ln ct cs gs = 0) (hk0 : 0 ≤ kerf) (hk1 : kerf ≤ 100)
    (h64 : n ≤ 64) (hv : ls.any (fun x => !btw x 1 65536) = false) :
    Calls Tryd.prog 17 #[barV wd dp ln ct cs gv, .slice A n c, .int .i64 kerf] w (RetEx w fun r w' => ∃ v, r = .tuple #[v, .bool ((fits kerf (parts ln gs) ls).2.isEmpty), .int .i64 0] ∧
      (if (fits kerf (parts ln gs) ls).2.isEmpty then w'.ownsRow w.heap.size 3 1 v (fits kerf (parts ln gs) ls).1.length ((fits kerf (parts ln gs) ls).1.map (Value.int .i64)) else v = .slice none 0 0)) := by
  have hke : kerfErr (chk wd dp ln ct cs gs) kerf = 0 := by
    unfold kerfErr
    rw [hc, if_pos rfl, if_pos (btw_iff.2 ⟨hk0, hk1⟩)]
  have hpl := parts_len ln gs
  have hl := freeFn_ok hc
  have hlen := chk_len hc
  have hat := partsOk_at (parts ln gs) ln 0 (parts_ok (by omega) (chk_zero.1 hc).2.2)
  have hval : ∀ k, k < n → 1 ≤ ls[k]?.getD 0 ∧ ls[k]?.getD 0 ≤ 65536 := fun k hk => by
    have hkl : k < ls.length := by omega
    have h1 := (List.any_eq_false.1 hv) ls[k] (List.getElem_mem hkl)
    simp only [Bool.not_eq_true, Bool.not_eq_false'] at h1
    have h2 := btw_iff.1 h1
    simpa [hkl] using h2
  have HG := hide hg; have HLS := hide hls; have HN := hide hn; have HC := hide hc; have HV := hide hv; have HVal := hide hval; have HKE := hide hke; have HAT := hide hat
  clear hg hls hn hc hv hval hke hat
  obtain ⟨T, hT⟩ : ∃ T, T = fits kerf (parts ln gs) ls := ⟨_, rfl⟩
  rw [← hT]
  have HT := hide hT
  clear hT
  refine (callsIn_wide (n := 0)).1 ?_
  refine callsIn_of_wp_marks Tryd.func17 rfl trivial ?_ rfl
  simp only [Tryd.ntmps17, List.size_toArray, List.length_cons, List.length_nil, Nat.reduceAdd, Nat.reduceSub, Array.replicate_succ, Array.replicate_zero, List.push_toArray, List.append_toArray, List.nil_append, List.cons_append]
  gi_wp2_with fail
  obtain ⟨b0, b1, b2, hs0, hB0⟩ := heap3 w (.cells #[.int .i64 wd, .int .i64 dp, .int .i64 ln, .int .i64 ct, .int .i64 cs, gv] 24) (.cells #[.slice A n c] 34) (.cells #[.int .i64 kerf] 3)
  obtain ⟨w0, hw0⟩ : ∃ w0, ((w.alloc (.cells #[.int .i64 wd, .int .i64 dp, .int .i64 ln, .int .i64 ct, .int .i64 cs, gv] 24)).alloc (.cells #[.slice A n c] 34)).alloc (.cells #[.int .i64 kerf] 3) = w0 := ⟨_, rfl⟩
  rw [hw0] at b0 b1 b2 hs0 hB0 ⊢
  clear hw0
  refine ⟨trivial, rfl, (callsIn_wide.2 (checkKerf_any wd dp ln ct cs kerf gv gs B w0 (HG.out.below hB0 hB) (by omega))).mono ?_⟩
  rintro e w1 ⟨rfl, hb1⟩
  have d0 := below_blk hb1 b0 (by omega)
  have d1 := below_blk hb1 b1 (by omega)
  have d2 := below_blk hb1 b2 (by omega)
  have hB1 := below_left hB0 hb1 (by omega)
  have hs1 : w.heap.size + 3 ≤ w1.heap.size := by have := hb1.size; omega
  have c0 := fun o => cell_blk d0 o
  have c1 := fun o => cell_blk d1 o
  rw [HKE.out]
  have D0 := hide d0; have D1 := hide d1; have D2 := hide d2; have HB1 := hide hB1
  clear b0 b1 b2 hs0 hB0 hb1 d0 d1 d2 hB1
  gi_wp2_with fail
  refine ⟨trivial, rfl, (callsIn_wide.2 (containsInt_any 51 #[] (fun x => !btw x 1 65536) A n c ls w1 HN.out (by omega) (fun k hk => ?_) (fits1_answers w1))).mono ?_⟩
  · obtain ⟨b, o, h1, h2, h3⟩ := HLS.out k hk
    exact ⟨b, o, h1, by omega, (HB1.out.cell (p := ⟨b, o + k, none⟩) (by simp; omega)).trans h3⟩
  rintro e w2 ⟨rfl, hb2⟩
  have d0 := below_blk hb2 D0.out (by omega)
  have d1 := below_blk hb2 D1.out (by omega)
  have d2 := below_blk hb2 D2.out (by omega)
  have hB2 := below_left HB1.out hb2 (by omega)
  have hs2 : w.heap.size + 3 ≤ w2.heap.size := by have := hb2.size; omega
  rw [HV.out]
  clear c0 c1 D0 D1 D2 HB1 hb2
  have c0 := fun o => cell_blk d0 o
  have hlt0 : w.heap.size < w2.heap.size := by omega
  have D0 := hide d0; have D1 := hide d1; have D2 := hide d2; have HB2 := hide hB2
  clear d0 d1 d2 hB2
  gi_wp2_with fail
  refine ⟨trivial, rfl, (callsIn_wide.2 (free_any _ _)).mono ?_⟩
  rintro e w3 ⟨rfl, rfl⟩
  gi_wp2_with fail
  obtain ⟨e0, e1, hs3, hB3⟩ := heap2 w2 (.cells #[.slice none 0 0] 34) (.cells #[.int .i64 wd, .int .i64 dp, .int .i64 ln, .int .i64 ct, .int .i64 cs, gv] 24)
  obtain ⟨w3, hw3⟩ : ∃ w3, (w2.alloc (.cells #[.slice none 0 0] 34)).alloc (.cells #[.int .i64 wd, .int .i64 dp, .int .i64 ln, .int .i64 ct, .int .i64 cs, gv] 24) = w3 := ⟨_, rfl⟩
  rw [hw3] at e0 e1 hs3 hB3 ⊢
  clear hw3 c0
  have hBw := below_left HB2.out hB3 (by omega)
  have e2 := below_blk hB3 D1.out (by omega)
  have e3 := below_blk hB3 D2.out (by omega)
  have hseq := freeSeq_some B (w2.heap.size + 1) wd dp ln ct cs gv gs w3 (HG.out.below hBw hB) hl e1
  obtain ⟨i0, hi0, hz0, hz1, hz2⟩ := info_parts info3
  have HSeq := hide hseq
  clear hseq
  refine wp_iter (gf := 67) (lb := #[.pointer (some ⟨w2.heap.size + 1, 0, none⟩)]) rfl (enters_of Tryd.func67 (by kernel_rfl) rfl) HSeq.out (fun b hb => ⟨by omega, rfl⟩) (fun _ => rfl)
    (fun k S W => ∃ (v : Value) (j : Nat) (ats : List Int), S = OwnOf v ∧ W.heap[w2.heap.size]? = some (.cells #[v] 34 (0, 0)) ∧ W.heap[w.heap.size + 1]? = some (.cells #[.slice A n c] 34 (0, 0)) ∧ W.heap[w.heap.size + 2]? = some (.cells #[.int .i64 kerf] 3 (0, 0)) ∧
      W.ownsRow w3.heap.size 3 1 v j (ats.map (Value.int .i64)) ∧ j ≤ n ∧ Below w.heap.size w W ∧ ats ++ (fits kerf ((parts ln gs).drop k) (ls.drop j)).1 = T.1 ∧ (fits kerf ((parts ln gs).drop k) (ls.drop j)).2 = T.2)
    (fun _ _ _ => False) ?hI (fun _ _ _ _ h _ => h) ?h0
    (fun k S a1 W => ∃ Bx, w3.heap.size ≤ Bx ∧ ¬ S Bx ∧ W.heap[Bx]? = some (.cells #[.int .i64 (gF (parts ln gs) k), .int .i64 (gT (parts ln gs) k)] 31 (0, 0)) ∧ a1 = { tmps := #[barV wd dp ln ct cs gv, .slice A n c, .int .i64 kerf, .pointer (some ⟨w.heap.size, 0, none⟩), .pointer (some ⟨w.heap.size + 1, 0, none⟩), .pointer (some ⟨w.heap.size + 1 + 1, 0, none⟩), .slice none 0 0, .bool false, .int .i64 0, .int .i64 0, .pointer (some ⟨w2.heap.size, 0, none⟩), .pointer (some ⟨Bx, 0, none⟩), undef, undef, .agg #[.int .i64 wd, .int .i64 dp, .int .i64 ln, .int .i64 ct, .int .i64 cs, gv], .int .i64 kerf, .int .i64 0, .int .i64 0, .bool false, undef, .slice A n c, .int .i64 n, .bool (decide ((64 : Int) < (n : Int))), .slice A n c, .bool false, .agg #[.int .i64 wd, .int .i64 dp, .int .i64 ln, .int .i64 ct, .int .i64 cs, gv], .func (.func 67) #[] #[.pointer (some ⟨w2.heap.size + 1, 0, none⟩)], .agg #[.int .i64 (gF (parts ln gs) k), .int .i64 (gT (parts ln gs) k)], undef, undef, undef, undef, undef, undef, undef, undef, undef, undef, undef, undef, undef, undef, undef, undef, undef, undef, undef, undef, undef, undef, undef, undef, undef, undef, undef, undef, undef, undef, undef, undef, undef, undef, undef, undef, undef, undef, undef], defers := [] })
    ?hAx ?hassign ?hS ?hbody ?hdone ?hstop
  case hI =>
    rintro k S W W2 ⟨v, j, ats, rfl, h1, h2, h3, hown, hj, hb, r⟩ hq
    exact ⟨v, j, ats, rfl, hq.at_ h1 (.inl (by omega)), hq.at_ h2 (.inl (by omega)), hq.at_ h3 (.inl (by omega)), owns_stay hown (fun r hr => hq.block r (.inr hr) (hown.lt r hr).2), hj, Quiet.below hb hq (by omega) hb.size, r⟩
  case h0 =>
    refine ⟨.slice none 0 0, 0, [], by funext b; simp [OwnOf, Value.ownBlock], e0, e2, e3, World.ownsRow_nil _ _ _ _, Nat.zero_le _, hBw, ?_⟩
    rw [HT.out]
    simp
  case hAx =>
    rintro k S a1 W l r r2 ⟨Bx, h1, h2, h3, h4⟩ hl
    refine ⟨Bx, h1, h2, (World.putObj_heap_other (fun e => ?_)).trans h3, h4⟩
    subst e
    rw [hl] at h3
    cases h3
  case hassign =>
    intro l k S W K hsz hSlt hK
    gi_wp2
    refine hK _ _ ((Quiet.refl _ _ _).alloc _) ((Upd.refl _ _ _).alloc _) ⟨W.heap.size, by omega, fun h => ?_, World.alloc_heap_new W _, rfl⟩
    have := hSlt _ h
    omega
  case hS =>
    rintro k S W ⟨v, j, ats, rfl, _, _, _, hown, _⟩
    exact owns_lt hown
  case hbody =>
    rintro l k S a1 W hk ⟨v, j, ats, rfl, h1, h2, h3, hown, hj, hb, hr1, hr2⟩ hpr ⟨Bx, g1, g2, g3, rfl⟩ hsz
    have c1 := fun o => cell_blk h1 o; have c2 := fun o => cell_blk h2 o; have c3 := fun o => cell_blk h3 o; have c4 := fun o => cell_blk g3 o
    have f1 := froz_blk h1 0
    have l1 : w2.heap.size < W.heap.size := lt_blk h1
    have l2 : Bx < W.heap.size := lt_blk g3
    obtain ⟨q1, q2, q3⟩ := HAT.out k hk
    rw [fits_at kerf (parts ln gs) k hk] at hr1 hr2
    have HR := hide (And.intro hr1 hr2); have H1 := hide h1; have H2 := hide h2; have H3 := hide h3; have HO := hide hown; have HB := hide hb; have HPR := hide hpr; have G2 := hide g2; have G3 := hide g3
    clear h1 h2 h3 hown hb hr1 hr2 hpr g2 g3
    gi_wp2
    have hB3' := HB.out
    gi_loopw [12] (fun p wr => ∃ (at_ : Int) (va : Option Addr) (vc j2 : Nat) (ats2 : List Int), p = .int .i64 at_ ∧ 0 ≤ at_ ∧ at_ ≤ 200000 ∧ j2 ≤ n ∧ Hid (Upd w3.heap.size (OwnOf v) (OwnOf (.slice va j2 vc)) W wr ∧ wr.heap[w2.heap.size]? = some (.cells #[.slice va j2 vc] 34 (0, 0)) ∧ wr.heap[w.heap.size + 1]? = some (.cells #[.slice A n c] 34 (0, 0)) ∧ wr.heap[w.heap.size + 2]? = some (.cells #[.int .i64 kerf] 3 (0, 0)) ∧
        wr.ownsRow w3.heap.size 3 1 (.slice va j2 vc) j2 (ats2.map (Value.int .i64)) ∧ Below w.heap.size w wr ∧ (∀ b, b = w2.heap.size + 1 ∨ b < B → wr.heap[b]? = w3.heap[b]?) ∧ wr.heap[Bx]? = some (.cells #[.int .i64 (gF (parts ln gs) k), .int .i64 (gT (parts ln gs) k)] 31 (0, 0)) ∧
        ats2 ++ ((fill (gT (parts ln gs) k) kerf at_ (ls.drop j2)).1 ++ (fits kerf ((parts ln gs).drop (k + 1)) (fill (gT (parts ln gs) k) kerf at_ (ls.drop j2)).2).1) = T.1 ∧ (fits kerf ((parts ln gs).drop (k + 1)) (fill (gT (parts ln gs) k) kerf at_ (ls.drop j2)).2).2 = T.2)) (fun _ wr => n - lenAt wr w2.heap.size)
    case atStart =>
      obtain ⟨va, vc, rfl⟩ := owns_form HO.out
      exact ⟨_, va, vc, j, ats, rfl, q1, by omega, hj, Upd.refl _ _ _, H1.out, H2.out, H3.out, HO.out, HB.out, HPR.out, G3.out, HR.out.1, HR.out.2⟩
    case round =>
      obtain ⟨at_, va, vc, j2, ats2, rfl, p1, p2, p3, hinv⟩ := hrel
      have r1 := fun o => cell_blk hinv.out.2.1 o; have r2 := fun o => cell_blk hinv.out.2.2.1 o; have r3 := fun o => cell_blk hinv.out.2.2.2.1 o; have r4 := fun o => cell_blk hinv.out.2.2.2.2.2.2.2.1 o
      have rf := froz_blk hinv.out.2.1 0
      clear c1 c2 c3 c4 f1 hB3'
      by_cases hlt : j2 < n
      · obtain ⟨b, o, rfl, hbB, hcell⟩ := HLS.out j2 hlt
        have r5 := (hinv.out.2.2.2.2.2.1.cell (p := ⟨b, o + j2, none⟩) (by simp; omega)).trans hcell
        have hv := HVal.out j2 hlt
        clear hcell
        have hfa := fill_at (gT (parts ln gs) k) kerf at_ ls j2 (by have := HN.out; omega)
        have HFA := hide hfa
        clear hfa
        have x2 : (j2 : Int) < (n : Int) := by omega
        by_cases hfit : at_ + ls[j2]?.getD 0 ≤ gT (parts ln gs) k
        · have x1 : IntKind.i64.wrap (at_ + ls[j2]?.getD 0) = at_ + ls[j2]?.getD 0 := IntWalk.i64_in _ (by omega)
          gi_wp2
          refine round_quiet (by kernel_rfl) (by kernel_rfl) (by kernel_rfl) ?_
          repeat (go_big_quiet_step (fail))
          refine wpQuiet_nil ?_
          intro _ hw'
          obtain ⟨nq, hw''⟩ := hw'
          subst hw''
          have hl1 : w2.heap.size < wr.heap.size := lt_blk hinv.out.2.1
          have hwz : w3.heap.size ≤ wr.heap.size := Nat.le_trans hsz hinv.out.1.size
          have HO5 := hide (show ((wr.drewN nq).alloc (.cells #[.int .i64 at_] 3)).ownsRow w3.heap.size 3 1 (.slice va j2 vc) j2 (ats2.map (Value.int .i64)) from World.ownsRow.alloc (w := wr.drewN nq) hinv.out.2.2.2.2.1 _)
          have HN5 := hide (show ∀ j u, ([.int .i64 at_] : List Value)[j]? = some u → ((wr.drewN nq).alloc (.cells #[.int .i64 at_] 3)).cell? ((⟨wr.heap.size, 0, none⟩ : Addr).add j) = some u from World.news_of_block (cs := #[.int .i64 at_]) (t := 3) (fr := (0, 0)) (heap_alloc_new (wr.drewN nq) _))
          have hb7 := hinv.out.2.1
          have hb8 := hinv.out.2.2.2.1
          have y1 : IntKind.i64.wrap (ls[j2]?.getD 0 + kerf) = ls[j2]?.getD 0 + kerf := IntWalk.i64_in _ (by omega)
          have y2 : IntKind.i64.wrap (at_ + (ls[j2]?.getD 0 + kerf)) = at_ + (ls[j2]?.getD 0 + kerf) := IntWalk.i64_in _ (by omega)
          have y3 : IntKind.i64.wrap ((j2 : Int) + 1) = ((j2 + 1 : Nat) : Int) := by rw [IntWalk.i64_in _ (by omega)]; simp
          have HB7 := hide hb7; have HB8 := hide hb8
          clear hb7 hb8 x1
          gi_wp2_with (gi_at_builtin; refine in_append _ rfl (.tmp 52) (.tmp 54) 34 rfl w3.heap.size 3 i0 (.int .i64 0) 1 8 Tryd.underlying34 hi0 hz0 hz1 hz2 rfl (by decide) (.slice va j2 vc) j2 (ats2.map (Value.int .i64)) rfl HO5.out ⟨wr.heap.size, 0, none⟩ 1 1 [.int .i64 at_] rfl rfl HN5.out (by simp [Value.oneCell']) (by omega) (by simp only [maxLen]; omega) (by omega) (by simp; omega) ?_; intro g2 cap2 w5 hown2 hg2 hat2 hlt2; have hblk := (hg2.block w2.heap.size (by simp; omega) (owns_ne HO5.out (by omega))).trans ((Below.heap_alloc (wr.drewN nq) _ _ hl1).trans HB7.out); have hblk3 := (hg2.block (w.heap.size + 2) (by simp; omega) (owns_ne HO5.out (by omega))).trans ((Below.heap_alloc (wr.drewN nq) _ _ (lt_blk HB8.out)).trans HB8.out); have d7 := fun o => cell_blk hblk o; have d8 := fun o => cell_blk hblk3 o; have df := froz_blk hblk 0; have HBk := hide hblk; have HB3k := hide hblk3; have HO2 := hide hown2; have HG2 := hide hg2; have HA2 := hide hat2; clear hblk hblk3 hown2 hg2 hat2)
          obtain ⟨s1, s2, s3, s4, s5, s6, s7, s8, s9, s10⟩ := hinv.out
          rw [if_pos hfit] at HFA
          have U2 := upd_append (B := w3.heap.size) (v := .slice va j2 vc) (g := g2) (k := j2 + 1) (cap := cap2) (W := wr) (w1 := (wr.drewN nq).alloc (.cells #[.int .i64 at_] 3)) (w2 := w5) (b := w2.heap.size) (u := .slice (some ⟨g2, 0, none⟩) (j2 + 1) cap2) (by omega) (((Upd.refl _ _ wr).drewN nq).alloc _) HG2.out HA2.out
          have hset := Boxed.set (.slice (some ⟨g2, 0, none⟩) (j2 + 1) cap2) (show Boxed w5 w2.heap.size 34 _ from HBk.out)
          have keep : ∀ b, b < wr.heap.size → b ≠ w2.heap.size → some b ≠ (Value.slice va j2 vc).ownBlock → (w5.setCell ⟨w2.heap.size, 0, none⟩ (.slice (some ⟨g2, 0, none⟩) (j2 + 1) cap2)).heap[b]? = wr.heap[b]? := by
            intro b hb1 hb2 hb3
            exact ((Below.heap_setCell _ _ _ _ hb2).trans (HG2.out.block b (by simp; omega) hb3)).trans (Below.heap_alloc (wr.drewN nq) _ _ hb1)
          refine ⟨⟨_, some ⟨g2, 0, none⟩, cap2, j2 + 1, ats2 ++ [at_], rfl, by omega, by omega, by omega, hide ⟨s1.trans U2, hset, ?_, ?_, ?_, ?_, ?_, ?_, ?_, ?_⟩⟩, ?_⟩
          · exact (keep (w.heap.size + 1) (by omega) (by omega) (owns_ne s5 (by omega))).trans s3
          · exact (keep (w.heap.size + 2) (by omega) (by omega) (owns_ne s5 (by omega))).trans s4
          · rw [List.map_append]
            exact owns_stay HO2.out (fun r hr => Below.heap_setCell _ _ _ _ (by have := (HO2.out.lt r hr).1; show _ ≠ w2.heap.size; omega))
          · exact (((below_drewN s6 nq).alloc s6.size _).grown HG2.out (by simp; have := s6.size; omega) (owns_ge HO5.out (by omega))).setCell (p := ⟨w2.heap.size, 0, none⟩) (show w.heap.size ≤ w2.heap.size by omega) _
          · intro b hb
            exact (keep b (by omega) (by omega) (owns_ne s5 (by omega))).trans (s7 b hb)
          · have := s1.size
            refine (keep Bx (by omega) (by omega) (fun e => ?_)).trans s8
            exact (s1.block Bx g1 l2 G2.out).2 e.symm
          · rw [HFA.out] at s9
            rw [← s9]
            simp
          · rw [HFA.out] at s10
            rw [← s10]
          · rw [lenAt_eq hset, lenAt_eq s2]
            omega
        · have x3 : decide (at_ + ls[j2]?.getD 0 ≤ gT (parts ln gs) k) = false := by simpa using hfit
          have x1 : IntKind.i64.wrap (at_ + ls[j2]?.getD 0) = at_ + ls[j2]?.getD 0 := IntWalk.i64_in _ (by omega)
          rw [if_neg hfit] at HFA
          gi_wp2
          refine round_quiet (by kernel_rfl) (by kernel_rfl) (by kernel_rfl) ?_
          repeat (go_big_quiet_step (fail))
          refine wpQuiet_nil ?_
          intro _ hw'
          obtain ⟨nq, hw''⟩ := hw'
          subst hw''
          gi_wp2
          obtain ⟨g1, g2, g3, g4, g5, g6, g7, g8, g9, g10⟩ := hinv.out
          rw [HFA.out] at g9 g10
          exact ⟨OwnOf (.slice va j2 vc), g1.drewN nq, g7, .slice va j2 vc, j2, ats2, rfl, g2, g3, g4, g5, p3, below_drewN g6 nq, g9, g10⟩
      · obtain rfl : j2 = n := by omega
        have x3 : decide ((j2 : Int) < (j2 : Int)) = false := by simp
        gi_wp2
        refine round_quiet (by kernel_rfl) (by kernel_rfl) (by kernel_rfl) ?_
        repeat (go_big_quiet_step (fail))
        refine wpQuiet_nil ?_
        intro _ hw'
        obtain ⟨nq, hw''⟩ := hw'
        subst hw''
        gi_wp2
        obtain ⟨s1, s2, s3, s4, s5, s6, s7, s8, s9, s10⟩ := hinv.out
        have HFA : fill (gT (parts ln gs) k) kerf at_ (ls.drop j2) = ([], ls.drop j2) := by
          have hj := HN.out
          rw [fill_end _ _ _ _ _ (by omega), List.drop_eq_nil_of_le (by omega)]
        rw [HFA] at s9 s10
        exact ⟨OwnOf (.slice va j2 vc), s1.drewN nq, s7, .slice va j2 vc, j2, ats2, rfl, s2, s3, s4, s5, p3, below_drewN s6 nq, s9, s10⟩
  case hdone =>
    rintro D S W hD ⟨v, j, ats, rfl, h1, h2, h3, hown, hj, hb, hr1, hr2⟩ hK
    obtain ⟨va, vc, rfl⟩ := owns_form hown
    have c1 := fun o => cell_blk h1 o; have c2 := fun o => cell_blk h2 o; have c3 := fun o => cell_blk h3 o
    have hlen : T.2.isEmpty = decide (n ≤ j) := by
      rw [← hr2, List.drop_eq_nil_of_le (show (parts ln gs).length ≤ (parts ln gs).length from Nat.le_refl _)]
      have := HN.out
      simp only [fits]
      by_cases hx : n ≤ j
      · simp [hx]; omega
      · simp [hx]; omega
    have H1 := hide h1; have H2 := hide h2; have H3 := hide h3; have HO := hide hown; have HB := hide hb; have HR := hide (And.intro hr1 hr2); have HK := hide hK
    clear h1 h2 h3 hown hb hr1 hr2 hK
    gi_wp2
    all_goals refine ⟨by simp, .inl ⟨_, _, rfl, run_takeDeferred HK.out, ?_⟩⟩
    all_goals refine ⟨_, results_tmp3 rfl _ _ _, ?_⟩
    all_goals first
      | exact ⟨_, rfl, HB.out.trans (belowK_b (w := w) (Nat.le_refl _) W D _ _ (by omega) HK.out rfl rfl), rfl⟩
      | (refine ⟨_, rfl, HB.out.trans (belowK_b (w := w) (Nat.le_refl _) W D _ _ (by omega) HK.out rfl rfl), _, rfl, ?_⟩
         have hz := HR.out.1
         rw [List.drop_eq_nil_of_le (show (parts ln gs).length ≤ (parts ln gs).length from Nat.le_refl _)] at hz
         simp only [fits, List.append_nil] at hz
         have hzl : T.1.length = j := by
           have h := HO.out.1
           rw [← hz]
           simpa using h
         rw [hzl, ← hz]
         exact ownsRow_putObj (owns_mono HO.out (by omega)) _ HK.out rfl)
      | fail
  case hstop =>
    intro D c S W _ h
    exact h.elim
end Go.Proofs.YtfljmbdnnjjmoaaDoor
