/-
  Integers: compare walked.
-/
import Derived.Test.YthkioajalhglfaaGreatDoorPd
namespace Go.Proofs.YthkioajalhglfaaGreatDoor
open Go.RowKit Go.KP Go.KI Go.Shelf
attribute [local go_sem] Oper.semAt_some

theorem upper_cmp {x y : List Nat} (hx : Lt 1000000000 x) (hy : Lt 1000000000 y) (hl : x.length = y.length) {k : Nat} (hk : k < x.length) (hs : ∀ j, j < k → lat x (x.length - 1 - j) = lat y (x.length - 1 - j)) (hne : lat x (x.length - 1 - k) ≠ lat y (x.length - 1 - k)) :
    CmpRes ((lat x (x.length - 1 - k) : Int) - lat y (x.length - 1 - k)) (lv 1000000000 x) (lv 1000000000 y) := by
  have hd : x.drop (x.length - 1 - k + 1) = y.drop (x.length - 1 - k + 1) := by
    apply List.ext_getElem?
    intro i
    rw [List.getElem?_drop, List.getElem?_drop]
    by_cases hi : x.length - 1 - k + 1 + i < x.length
    · have h1 := hs (k - 1 - i) (by omega)
      rw [show x.length - 1 - (k - 1 - i) = x.length - 1 - k + 1 + i by omega] at h1
      rw [lat_some hi, lat_some (l := y) (by omega), h1]
    · rw [List.getElem?_eq_none (by omega), List.getElem?_eq_none (by omega)]
  rcases Nat.lt_or_gt_of_ne hne with h | h
  · have h1 := lv_top_lt (b := 1000000000) (by omega) hx hl (i := x.length - 1 - k) (by omega) hd h
    exact ⟨by omega, by omega⟩
  · have h1 := lv_top_lt (b := 1000000000) (by omega) hy hl.symm (i := x.length - 1 - k) (by omega) hd.symm h
    exact ⟨by omega, by omega⟩
theorem all_cmp {x y : List Nat} (hl : x.length = y.length) (hs : ∀ j, j < x.length → lat x (x.length - 1 - j) = lat y (x.length - 1 - j)) : x = y := by
  apply List.ext_getElem?
  intro i
  by_cases hi : i < x.length
  · have h1 := hs (x.length - 1 - i) (by omega)
    rw [show x.length - 1 - (x.length - 1 - i) = i by omega] at h1
    rw [lat_some hi, lat_some (l := y) (by omega), h1]
  · rw [List.getElem?_eq_none (by omega), List.getElem?_eq_none (by omega)]
/-- What compare returns. -/
def CompRes (x y : List Nat) (w : World) (e : Ending) (w2 : World) : Prop := ∃ r : Int, e = .returned (.int .i64 r) ∧ CmpRes r (lv 1000000000 x) (lv 1000000000 y) ∧ Below w.heap.size w w2
set_option maxRecDepth 100000 in
set_option maxHeartbeats 2000000 in
theorem compare_any (va vb : Value) (x y : List Nat) (B : Nat) (w : World) (ha : LimbAt B w va x) (hb : LimbAt B w vb y) (hB : B ≤ w.heap.size) (hx : Norm 1000000000 x) (hy : Norm 1000000000 y) (lx : x.length ≤ 100000) (ly : y.length ≤ 100000) :
    Calls Tryz.prog 55 #[va, vb] w (CompRes x y w) := by
  obtain ⟨a0, c0, hva⟩ := ha.form
  obtain ⟨a1, c1, hvb⟩ := hb.form
  subst hva; subst hvb
  have HA := hide ha; have HB := hide hb; have HX := hide hx; have HY := hide hy
  clear ha hb hx hy
  obtain ⟨b0, b1, hs0, hB0⟩ := heap2 w (.cells #[.slice a1 y.length c1] 46) (.cells #[.int .i64 0] 3)
  obtain ⟨w0, hw0⟩ : ∃ w0, (w.alloc (.cells #[.slice a1 y.length c1] 46)).alloc (.cells #[.int .i64 0] 3) = w0 := ⟨_, rfl⟩
  rw [hw0] at b0 b1 hs0 hB0
  have c0' := cell_blk b0 0
  have c1' := cell_blk b1 0
  have f1' := froz_blk b1 0
  have HB0 := hide hB0; have H0 := hide b0; have H1 := hide b1
  have hs0' : w.heap.size + 2 ≤ w0.heap.size := by omega
  clear b0 b1 hs0 hB0
  refine (callsIn_wide (n := 0)).1 ?_
  refine callsIn_of_wp_marks Tryz.func55 rfl trivial ?_ rfl
  simp only [Tryz.ntmps55, List.size_toArray, List.length_cons, List.length_nil, Nat.reduceAdd, Nat.reduceSub, Array.replicate_succ, Array.replicate_zero, List.push_toArray, List.append_toArray, List.nil_append, List.cons_append]
  by_cases hlen : x.length = y.length
  · have hq : ((x.length : Int) != (y.length : Int)) = false := by rw [hlen]; simp
    have HL := hide hlen
    clear hlen
    gi_wp2_with fail
    refine ⟨trivial, rfl, (callsIn_wide.2 (backward_any a0 x.length c0 w0)).mono ?_⟩
    rintro e w1 ⟨rfl, hw1⟩
    obtain ⟨g1, gs1, gb1⟩ := heap1 w0 (.cells #[.slice a0 x.length c0] 46)
    rw [hw1] at g1 gs1 gb1
    have d0 := below_blk gb1 H0.out (by omega)
    have d1 := below_blk gb1 H1.out (by omega)
    have HB1 := hide (HB0.out.trans (gb1.mono (by omega))); have G1 := hide g1; have D0 := hide d0; have D1 := hide d1
    have hs1 : w0.heap.size + 1 = w1.heap.size := by omega
    clear hw1 g1 gs1 gb1 d0 d1 c0' c1' f1' HB0 H0 H1 hq hw0
    gi_wp2_with fail
    refine wp_iter_on (gf := 102) (lb := #[.pointer (some ⟨w0.heap.size, 0, none⟩)]) rfl (enters_of Tryz.func102 (by kernel_rfl) rfl) (backSeq_any w0.heap.size x.length c0 a0 (fun k => ((lat x (x.length - 1 - k) : Nat) : Int)) (by omega)) (fun _ => rfl)
      (fun k S W => S = (fun _ => False) ∧ W.heap[w.heap.size]? = some (.cells #[.slice a1 y.length c1] 46 (0, 0)) ∧ W.heap[w.heap.size + 1]? = some (.cells #[.int .i64 0] 3 (0, 0)) ∧ W.heap[w0.heap.size]? = some (.cells #[.slice a0 x.length c0] 46 (0, 0)) ∧ Below w.heap.size w W ∧ ∀ j, j < k → lat x (x.length - 1 - j) = lat y (x.length - 1 - j))
      (fun c S W => c = .ret ∧ S = (fun _ => False) ∧ Below w.heap.size w W ∧ ∃ r : Int, W.heap[w.heap.size + 1]? = some (.cells #[.int .i64 r] 3 (0, 0)) ∧ CmpRes r (lv 1000000000 x) (lv 1000000000 y)) ?hI ?hIx ?h0 ?hke
      (fun k S a1' W => a1' = { tmps := #[.slice a0 x.length c0, .slice a1 y.length c1, undef, .pointer (some ⟨w.heap.size, 0, none⟩), .pointer (some ⟨w.heap.size + 1, 0, none⟩), .int .i64 ((x.length : Int) - 1 - k), .int .i64 ((lat x (x.length - 1 - k) : Nat) : Int), .slice a0 x.length c0, .int .i64 x.length, .slice a1 y.length c1, .int .i64 y.length, .bool false, undef, undef, undef, undef, undef, .slice a0 x.length c0, .func (.func 102) #[] #[.pointer (some ⟨w0.heap.size, 0, none⟩)], .int .i64 ((x.length : Int) - 1 - k), .int .i64 ((lat x (x.length - 1 - k) : Nat) : Int), undef, undef, undef, undef, undef, undef, undef, undef, undef, undef, undef, undef], defers := [] })
      ?hAx ?hassign ?hS ?hbody ?hdone ?hstop
    case hI =>
      rintro k S W W2 ⟨rfl, e1, e2, e3, hb, hp⟩ hq
      exact ⟨rfl, hq.at_ e1 (.inl (by omega)), hq.at_ e2 (.inl (by omega)), hq.at_ e3 (.inl (by omega)), Quiet.below hb hq (by omega) hb.size, hp⟩
    case hIx =>
      rintro c S W W2 ⟨rfl, rfl, hb, r, e1, hr⟩ hq
      exact ⟨rfl, rfl, Quiet.below hb hq (by omega) hb.size, r, hq.at_ e1 (.inl (by omega)), hr⟩
    case h0 => exact ⟨rfl, D0.out, D1.out, G1.out, HB1.out, fun j hj => by omega⟩
    case hke =>
      rintro k S W hk ⟨rfl, e1, e2, e3, hb, hp⟩
      refine ⟨e3, fun hlt => ?_⟩
      rcases (HA.out.below hb hB).cases with ⟨_, _, _, hnil⟩ | ⟨g, o, cap, hv, hg, hc⟩
      · rw [hnil] at hlt
        simp at hlt
      · injection hv with hv1 hv2 hv3
        exact ⟨g, o, hv1, hc _ (by omega)⟩
    case hAx =>
      rintro k S a1' W l r r2 h _
      exact h
    case hassign =>
      intro l k S W K hsz hSlt hK
      gi_wp2
      exact hK _ _ (Quiet.refl _ _ _) (Upd.refl _ _ _) rfl
    case hS =>
      rintro k S W ⟨rfl, _⟩ b hb
      exact hb.elim
    case hbody =>
      rintro l k S a1' W hk ⟨rfl, e1, e2, e3, hb, hp⟩ rfl hsz
      have q1 := cell_blk e1 0
      have q2 := cell_blk e2 0
      have q3 := froz_blk e2 0
      obtain ⟨m, hm⟩ : ∃ m : Nat, (x.length : Int) - 1 - (k : Int) = m := ⟨x.length - 1 - k, by omega⟩
      have hm2 : x.length - 1 - k = m := by omega
      have hml : m < y.length := by have := HL.out; omega
      have hyc : ∃ g o, a1 = some ⟨g, o, none⟩ ∧ W.cell? ⟨g, o + m, none⟩ = some (.int .i64 (lat y m)) := by
        rcases (HB.out.below hb hB).cases with ⟨_, _, _, hnil⟩ | ⟨g, o, cap, hv, hg, hc⟩
        · rw [hnil] at hml
          simp at hml
        · injection hv with hv1 hv2 hv3
          exact ⟨g, o, hv1, hc _ hml⟩
      obtain ⟨g, o, rfl, q4⟩ := hyc
      have hm0 : (0 : Int) ≤ (m : Int) := by omega
      have hmi : (m : Int) < (y.length : Int) := by omega
      rw [hm, hm2]
      have HP := hide hp; have HBW := hide hb; have E1 := hide e1; have E2 := hide e2; have E3 := hide e3; have HM := hide hm2
      by_cases hne : lat x m = lat y m
      · have hq : ((lat x m : Int) != (lat y m : Int)) = false := by rw [hne]; simp
        have HNE := hide hne
        clear hm hm2 hp hb e1 e2 e3 hne
        gi_wp2
        refine ⟨fun _ => False, Upd.refl _ _ _, rfl, E1.out, E2.out, E3.out, HBW.out, fun j hj => ?_⟩
        rcases Nat.lt_or_ge j k with h | h
        · exact HP.out j h
        · obtain rfl : j = k := by omega
          rw [HM.out]
          exact HNE.out
      · have hq : ((lat x m : Int) != (lat y m : Int)) = true := by
          have : (lat x m : Int) ≠ (lat y m : Int) := by omega
          simpa using this
        have HC := hide (upper_cmp HX.out.lt HY.out.lt HL.out hk hp (by rw [hm2]; exact hne))
        rw [hm2] at HC
        have lx1 := lat_lt (by omega) HX.out.lt m
        have ly1 := lat_lt (by omega) HY.out.lt m
        clear hm hm2 hp hb e1 e2 e3 hne
        gi_wp2
        refine ⟨fun _ => False, (Upd.refl _ _ _).setBox (by simp; omega) _, rfl, rfl, HBW.out.setCell (p := ⟨w.heap.size + 1, 0, none⟩) (by simp) _, _, Boxed.set _ E2.out, HC.out⟩
    case hdone =>
      rintro D S W hD ⟨rfl, e1, e2, e3, hb, hp⟩ hK
      have q2 := cell_blk e2 0
      have q3 := froz_blk e2 0
      have HBW := hide hb; have HK := hide hK; have E2 := hide e2
      have HXY := hide (all_cmp HL.out hp)
      clear hb hK e1 e2 e3 hp
      gi_wp2
      refine ⟨by simp, .inl ⟨_, _, rfl, run_takeDeferred (b := D) ((Below.heap_setCell _ _ _ _ (by simp; omega)).trans HK.out), ?_⟩⟩
      have hK2 : (W.setCell ⟨w.heap.size + 1, 0, none⟩ (.int .i64 0)).heap[D]? = some (.deferred (some [])) := (Below.heap_setCell _ _ _ _ (by simp; omega)).trans HK.out
      have hE : ((W.setCell ⟨w.heap.size + 1, 0, none⟩ (.int .i64 0)).putObj D (.deferred none)).heap[w.heap.size + 1]? = some (.cells #[.int .i64 0] 3 (0, 0)) := (World.putObj_heap_other (by omega)).trans (Boxed.set _ E2.out)
      have hc := cell_blk hE 0
      refine ⟨.int .i64 0, by simp [results, go_sem, hc], 0, rfl, ⟨by rw [HXY.out]; omega, by rw [HXY.out]; simp⟩, (HBW.out.setCell (p := ⟨w.heap.size + 1, 0, none⟩) (by simp) _).trans (belowK_b (w := w) (Nat.le_refl _) _ D _ _ (by omega) hK2 rfl rfl)⟩
    case hstop =>
      rintro D c S W hD ⟨rfl, rfl, hb, r, e1, hr⟩ hK
      have q2 := cell_blk e1 0
      have HBW := hide hb; have HK := hide hK; have E1 := hide e1; have HR := hide hr
      clear hb hK e1 hr
      gi_wp2
      refine ⟨by simp, .inl ⟨_, _, rfl, run_takeDeferred HK.out, ?_⟩⟩
      have hE : (W.putObj D (.deferred none)).heap[w.heap.size + 1]? = some (.cells #[.int .i64 r] 3 (0, 0)) := (World.putObj_heap_other (by omega)).trans E1.out
      have hc := cell_blk hE 0
      refine ⟨.int .i64 r, by simp [results, go_sem, hc], r, rfl, HR.out, HBW.out.trans (belowK_b (w := w) (Nat.le_refl _) _ D _ _ (by omega) HK.out rfl rfl)⟩
  · have hq : ((x.length : Int) != (y.length : Int)) = true := by
      have : (x.length : Int) ≠ (y.length : Int) := by omega
      simpa using this
    have HC := hide (show CmpRes ((x.length : Int) - y.length) (lv 1000000000 x) (lv 1000000000 y) by
      rcases Nat.lt_or_gt_of_ne hlen with h | h
      · have := norm_len_lt (b := 1000000000) (by omega) HX.out.lt HY.out h
        exact ⟨by omega, by omega⟩
      · have := norm_len_lt (b := 1000000000) (by omega) HY.out.lt HX.out h
        exact ⟨by omega, by omega⟩)
    clear hlen
    gi_wp2_with fail
    have hc := cell_blk (Boxed.set (.int .i64 ((x.length : Int) - y.length)) H1.out) 0
    refine ⟨.int .i64 ((x.length : Int) - y.length), by simp [results, go_sem, hc], ⟨_, rfl, HC.out, HB0.out.setCell (p := ⟨w.heap.size + 1, 0, none⟩) (by simp) _⟩⟩
end Go.Proofs.YthkioajalhglfaaGreatDoor
