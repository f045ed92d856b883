/-
  stock.Capacity, stock.Fits: the walks.
-/
import Derived.Test.YtfljmbdnnjjmoaaDoorS3
namespace Go.Proofs.YtfljmbdnnjjmoaaDoor
open Go.RowKit Go.KP Go.Shelf
attribute [local go_sem] Oper.semAt_some

set_option maxRecDepth 100000 in
set_option maxHeartbeats 1000000 in
theorem capacity_ok (wd dp ln ct cs kerf : Int) (gv : Value) (gs : List (Int × Int)) (B : Nat) (w : World) (hg : SlAt B w 2 gv gs.length (pcells gs)) (hB : B ≤ w.heap.size) (hc : chk wd dp ln ct cs gs = 0) (hk0 : 0 ≤ kerf) (hk1 : kerf ≤ 100) :
    Calls Tryd.prog 21 #[barV wd dp ln ct cs gv, .int .i64 kerf] w (Ret w (.tuple #[.int .i64 (capOf kerf (parts ln gs)), .int .i64 0])) := by
  have HG := hide hg
  have hke : kerfErr (chk wd dp ln ct cs gs) kerf = 0 := by
    unfold kerfErr
    rw [hc, if_pos rfl, if_pos (btw_iff.2 ⟨hk0, hk1⟩)]
  have HC := hide hc; have HKE := hide hke
  have hpl := parts_len ln gs
  have hl := freeFn_ok hc
  clear hg hc hke
  refine (callsIn_wide (n := 0)).1 ?_
  refine callsIn_of_wp_marks Tryd.func21 rfl trivial ?_ rfl
  simp only [Tryd.ntmps21, List.size_toArray, List.length_cons, List.length_nil, Nat.reduceAdd, Nat.reduceSub, Array.replicate_succ, Array.replicate_zero, List.push_toArray, List.append_toArray, List.nil_append, List.cons_append]
  gi_wp2_with fail
  have hg0 := HG.out.below (n0 := w.heap.size) (w2 := (w.alloc (.cells #[.int .i64 wd, .int .i64 dp, .int .i64 ln, .int .i64 ct, .int .i64 cs, gv] 24)).alloc (.cells #[.int .i64 kerf] 3)) (((Below.refl _ _).alloc (Nat.le_refl _) _).alloc (by simp) _) hB
  have HG0 := hide hg0
  obtain ⟨w0, hw0⟩ : ∃ w0, (w.alloc (.cells #[.int .i64 wd, .int .i64 dp, .int .i64 ln, .int .i64 ct, .int .i64 cs, gv] 24)).alloc (.cells #[.int .i64 kerf] 3) = w0 := ⟨_, rfl⟩
  have b0 : w0.heap[w.heap.size]? = some (.cells #[.int .i64 wd, .int .i64 dp, .int .i64 ln, .int .i64 ct, .int .i64 cs, gv] 24 (0, 0)) := by rw [← hw0]; exact (Below.heap_alloc _ _ _ (by simp)).trans (World.alloc_heap_new w _)
  have b1 : w0.heap[w.heap.size + 1]? = some (.cells #[.int .i64 kerf] 3 (0, 0)) := by rw [← hw0]; have h := World.alloc_heap_new (w.alloc (.cells #[.int .i64 wd, .int .i64 dp, .int .i64 ln, .int .i64 ct, .int .i64 cs, gv] 24)) (.cells #[.int .i64 kerf] 3); rwa [World.size_alloc] at h
  have hB0 : Below w.heap.size w w0 := by rw [← hw0]; exact ((Below.refl _ _).alloc (Nat.le_refl _) _).alloc (by simp) _
  have hs0 : w0.heap.size = w.heap.size + 2 := by rw [← hw0]; simp
  rw [hw0] at HG0 ⊢
  refine ⟨trivial, rfl, (callsIn_wide.2 (checkKerf_any wd dp ln ct cs kerf gv gs B w0 HG0.out (by omega))).mono ?_⟩
  rintro e w1 ⟨rfl, hb1⟩
  have c2 : ∀ o, w1.cell? ⟨w.heap.size, o, none⟩ = (#[.int .i64 wd, .int .i64 dp, .int .i64 ln, .int .i64 ct, .int .i64 cs, gv] : Array Value)[o]? := fun o => (hb1.cell (p := ⟨w.heap.size, o, none⟩) (by simp; omega)).trans (by simp [World.cell?, b0])
  have HB1 := hide hb1; have HB0 := hide hB0; have Hb1 := hide b1; have HS0 := hide hs0
  have hle : w.heap.size + 1 < w1.heap.size := by have := hb1.size; omega
  have hle0 : w.heap.size < w1.heap.size := by omega
  rw [HKE.out]
  clear hg0 hw0 b0 b1 hB0 hs0 hb1
  gi_wp2_with fail
  refine ⟨trivial, rfl, (callsIn_wide.2 (free_any _ _)).mono ?_⟩
  rintro e w3 ⟨rfl, rfl⟩
  gi_wp2_with fail
  obtain ⟨w2, hw2⟩ : ∃ w2, (w1.alloc (.cells #[.int .i64 0] 3)).alloc (.cells #[.int .i64 wd, .int .i64 dp, .int .i64 ln, .int .i64 ct, .int .i64 cs, gv] 24) = w2 := ⟨_, rfl⟩
  have hs2 : w2.heap.size = w1.heap.size + 2 := by rw [← hw2]; simp
  have hBw1 : Below w.heap.size w w1 := HB0.out.trans (HB1.out.mono (by have := HS0.out; omega))
  have hB2 : Below w.heap.size w w2 := by rw [← hw2]; exact (hBw1.alloc (by omega) _).alloc (by simp; omega) _
  have d0 : w2.heap[w1.heap.size]? = some (.cells #[.int .i64 0] 3 (0, 0)) := by rw [← hw2]; exact (Below.heap_alloc _ _ _ (by simp)).trans (World.alloc_heap_new w1 _)
  have d1 : w2.heap[w1.heap.size + 1]? = some (.cells #[.int .i64 wd, .int .i64 dp, .int .i64 ln, .int .i64 ct, .int .i64 cs, gv] 24 (0, 0)) := by rw [← hw2]; have h := World.alloc_heap_new (w1.alloc (.cells #[.int .i64 0] 3)) (.cells #[.int .i64 wd, .int .i64 dp, .int .i64 ln, .int .i64 ct, .int .i64 cs, gv] 24); rwa [World.size_alloc] at h
  have d2 : w2.heap[w.heap.size + 1]? = some (.cells #[.int .i64 kerf] 3 (0, 0)) := by rw [← hw2]; exact (Below.heap_alloc _ _ _ (by simp; omega)).trans ((Below.heap_alloc _ _ _ (by omega)).trans ((HB1.out.block _ (by have := HS0.out; omega)).trans Hb1.out))
  have hseq := freeSeq_some B (w1.heap.size + 1) wd dp ln ct cs gv gs w2 (HG.out.below hB2 hB) hl d1
  have hbd := fun k hk => capOf_bound (parts ln gs) ln 0 kerf (parts_ok (by have := chk_len HC.out; omega) (chk_zero.1 HC.out).2.2) (Int.le_refl _) hk0 hk1 k hk
  have hln := chk_len HC.out
  have hat := partsOk_at (parts ln gs) ln 0 (parts_ok (by omega) (chk_zero.1 HC.out).2.2)
  have HBD := hide hbd; have HAT := hide hat
  clear hbd hat
  rw [hw2]
  refine wp_iter (gf := 67) (lb := #[.pointer (some ⟨w1.heap.size + 1, 0, none⟩)]) rfl (enters_of Tryd.func67 (by kernel_rfl) rfl) hseq (fun b hb => ⟨by omega, rfl⟩) (fun _ => rfl)
    (fun k S W => S = (fun _ => False) ∧ W.heap[w1.heap.size]? = some (.cells #[.int .i64 (capOf kerf ((parts ln gs).take k))] 3 (0, 0)) ∧ W.heap[w.heap.size + 1]? = some (.cells #[.int .i64 kerf] 3 (0, 0)) ∧ Below w.heap.size w W)
    (fun _ _ _ => False) ?hI (fun _ _ _ _ h _ => h) ?h0
    (fun k S a1 W => ∃ Bx, w2.heap.size ≤ Bx ∧ W.heap[Bx]? = some (.cells #[.int .i64 (gF (parts ln gs) k), .int .i64 (gT (parts ln gs) k)] 31 (0, 0)) ∧ a1 = { tmps := #[barV wd dp ln ct cs gv, .int .i64 kerf, .pointer (some ⟨w.heap.size, 0, none⟩), .pointer (some ⟨w.heap.size + 1, 0, none⟩), .int .i64 0, .int .i64 0, .int .i64 0, .pointer (some ⟨w1.heap.size, 0, none⟩), .pointer (some ⟨Bx, 0, none⟩), .agg #[.int .i64 wd, .int .i64 dp, .int .i64 ln, .int .i64 ct, .int .i64 cs, gv], .int .i64 kerf, .int .i64 0, .int .i64 0, .bool false, undef, .agg #[.int .i64 wd, .int .i64 dp, .int .i64 ln, .int .i64 ct, .int .i64 cs, gv], .func (.func 67) #[] #[.pointer (some ⟨w1.heap.size + 1, 0, none⟩)], .agg #[.int .i64 (gF (parts ln gs) k), .int .i64 (gT (parts ln gs) k)], undef, undef, undef, undef, undef, undef, undef, undef, undef, undef], defers := [] })
    ?hAx ?hassign ?hS ?hbody ?hdone ?hstop
  case hI =>
    rintro k S W W2 ⟨rfl, e1, e2, hb⟩ hq
    exact ⟨rfl, hq.at_ e1 (.inl (by omega)), hq.at_ e2 (.inl (by omega)), Quiet.below hb hq (by omega) hb.size⟩
  case h0 => exact ⟨rfl, d0, d2, hB2⟩
  case hAx =>
    rintro k S a1 W l r r2 ⟨Bx, h1, h3, h4⟩ hl
    refine ⟨Bx, h1, (World.putObj_heap_other (fun e => ?_)).trans h3, h4⟩
    subst e
    rw [hl] at h3
    cases h3
  case hassign =>
    intro l k S W K hsz hSlt hK
    gi_wp2
    exact hK _ _ ((Quiet.refl _ _ _).alloc _) ((Upd.refl _ _ _).alloc _) ⟨W.heap.size, by omega, World.alloc_heap_new W _, rfl⟩
  case hS =>
    rintro k S W ⟨rfl, _⟩ b hb
    exact hb.elim
  case hbody =>
    rintro l k S a1 W hk ⟨rfl, e1, e2, hb⟩ hpr ⟨Bx, h1, h3, rfl⟩ hsz
    have c1 : W.cell? ⟨w1.heap.size, 0, none⟩ = some (.int .i64 (capOf kerf ((parts ln gs).take k))) := by simp [World.cell?, e1]
    have f1 : W.frozen? ⟨w1.heap.size, 0, none⟩ = false := by simp [World.frozen?, e1]
    have ck : W.cell? ⟨w.heap.size + 1, 0, none⟩ = some (.int .i64 kerf) := by simp [World.cell?, e2]
    have c2 : W.cell? ⟨Bx, 0, none⟩ = some (.int .i64 (gF (parts ln gs) k)) := by simp [World.cell?, h3]
    have c3 : W.cell? ⟨Bx, 1, none⟩ = some (.int .i64 (gT (parts ln gs) k)) := by simp [World.cell?, h3]
    obtain ⟨g1, g2⟩ := HBD.out k (by omega)
    obtain ⟨g3, g4, g5⟩ := HAT.out k hk
    have g6 : capOf kerf ((parts ln gs).take k) ≤ 65636 * 17 := by
      have : (ln + 100) * (k : Int) ≤ 65636 * 17 := Int.mul_le_mul (by omega) (by omega) (by omega) (by omega)
      omega
    have HE := hide (show Boxed W w1.heap.size 3 (.int .i64 (capOf kerf ((parts ln gs).take k))) from e1); have HE2 := hide e2; have HB := hide hb; have HPR := hide hpr
    have hcs := capOf_take kerf (parts ln gs) k hk
    have HCS := hide hcs
    clear e1 e2 hb hpr h3 hcs
    gi_wp2
    refine ⟨fun _ => False, (Upd.refl _ _ _).setBox (by simp; omega) _, fun b hb => (Below.heap_setCell _ _ _ _ (by simp; omega)).trans (HPR.out b hb), rfl, ?_, (Below.heap_setCell _ _ _ _ (by simp; omega)).trans HE2.out, HB.out.setCell (p := ⟨w1.heap.size, 0, none⟩) (by simp; omega) _⟩
    rw [HCS.out]
    exact HE.out.set _
  case hdone =>
    rintro D S W hD ⟨rfl, e1, e2, hb⟩ hK
    have c1 : W.cell? ⟨w1.heap.size, 0, none⟩ = some (.int .i64 (capOf kerf ((parts ln gs).take (parts ln gs).length))) := by simp [World.cell?, e1]
    have HB := hide hb; have HK := hide hK
    clear e1 e2 hb hK
    gi_wp2
    refine ⟨by simp, .inl ⟨_, _, rfl, run_takeDeferred HK.out, ?_⟩⟩
    refine ⟨_, results_tmp2 rfl _ _ _, ?_, HB.out.trans (belowK_b (w := w) (Nat.le_refl _) W D _ _ (by omega) HK.out rfl rfl)⟩
    rfl
  case hstop =>
    intro D c S W _ h
    exact h.elim
end Go.Proofs.YtfljmbdnnjjmoaaDoor
