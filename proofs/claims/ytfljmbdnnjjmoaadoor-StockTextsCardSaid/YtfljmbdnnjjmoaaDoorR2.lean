/-
  The reference's Free and Capacity, and Capacity's errors: the walks.
-/
import Derived.Test.YtfljmbdnnjjmoaaDoorR1
import Derived.Test.YtfljmbdnnjjmoaaDoorS4
namespace Go.Proofs.YtfljmbdnnjjmoaaDoor
open Go.RowKit Go.KP Go.Shelf

theorem emit_drop (ln p : Int) (gs : List (Int × Int)) (k : Nat) (h : k < gs.length) :
    emit p (gs.drop k ++ [(ln, ln)]) = if p < gF gs k then (p, gF gs k) :: emit (gT gs k) (gs.drop (k + 1) ++ [(ln, ln)]) else emit (gT gs k) (gs.drop (k + 1) ++ [(ln, ln)]) := by
  rw [List.drop_eq_getElem_cons h]
  have e : gs[k]?.getD (0, 0) = gs[k] := by simp [h]
  simp only [gF, gT, e]
  rfl
/-- What the reference's Free has done. -/
structure RFree (w : World) (wd dp ln ct cs : Int) (gv : Value) (gs : List (Int × Int)) (wr : World) (v : Value) (fr : Int) (k : Nat) (O : List (Int × Int)) : Prop where
  own : wr.ownsRow (w.heap.size + 1) 31 2 v O.length (pcells O)
  below : Below w.heap.size w wr
  box : wr.heap[w.heap.size]? = some (.cells #[.int .i64 wd, .int .i64 dp, .int .i64 ln, .int .i64 ct, .int .i64 cs, gv] 24 (0, 0))
  todo : O ++ emit fr (gs.drop k ++ [(ln, ln)]) = parts ln gs
  few : O.length ≤ k
theorem RFree.step {w wr w1 : World} {wd dp ln ct cs : Int} {gv v v1 : Value} {gs : List (Int × Int)} {fr f : Int} {k : Nat} {O : List (Int × Int)} (h : RFree w wd dp ln ct cs gv gs wr v fr k O) {t : Int} {k2 : Nat} {o : Obj}
    (hown : w1.ownsRow (w.heap.size + 1) 31 2 v1 (O.length + 1) (pcells O ++ [.int .i64 fr, .int .i64 f])) (hg : (wr.alloc o).grownBy w1 v.ownBlock) (ht : (O ++ [(fr, f)]) ++ emit t (gs.drop k2 ++ [(ln, ln)]) = parts ln gs) (hk : O.length + 1 ≤ k2) :
    RFree w wd dp ln ct cs gv gs w1 v1 t k2 (O ++ [(fr, f)]) := by
  have hb := h.below
  have hs := hb.size
  have hlt := lt_blk h.box
  refine ⟨?_, ?_, ?_, ht, by simpa using hk⟩
  · have e : pcells (O ++ [(fr, f)]) = pcells O ++ [.int .i64 fr, .int .i64 f] := by rw [pcells_append]; rfl
    rw [e]
    simpa using hown
  · exact (hb.alloc hs o).grown hg (by simp; omega) (owns_ge h.own (by omega))
  · have hne : some w.heap.size ≠ v.ownBlock := owns_ne h.own (by omega)
    exact (hg.block _ (by simp; omega) hne).trans ((Below.heap_alloc _ _ _ hlt).trans h.box)
set_option maxRecDepth 100000 in
set_option maxHeartbeats 1000000 in
theorem rfree_any (wd dp ln ct cs : Int) (gv : Value) (gs : List (Int × Int)) (B : Nat) (w : World) (hg : SlAt B w 2 gv gs.length (pcells gs)) (hB : B ≤ w.heap.size) :
    Calls Tryd.prog 24 #[barV wd dp ln ct cs gv] w (RetEx w fun r w' => ∃ v, r = .tuple #[v, .int .i64 (if chk wd dp ln ct cs gs = 0 then 0 else 1)] ∧ (if chk wd dp ln ct cs gs = 0 then w'.ownsRow w.heap.size 31 2 v (parts ln gs).length (pcells (parts ln gs)) else v = .slice none 0 0)) := by
  obtain ⟨ga, gc, hgv⟩ := SlAt.form hg
  subst hgv
  have HG := hide hg
  clear hg
  have hfirst : ∀ w0 : World, Below w.heap.size w w0 → Calls Tryd.prog 54 #[barV wd dp ln ct cs (.slice ga gs.length gc)] w0 fun e w' => e = .returned (.int .i64 (chk wd dp ln ct cs gs)) ∧ Below w0.heap.size w0 w' :=
    fun w0 h0 => rbar_any wd dp ln ct cs (.slice ga gs.length gc) gs B w0 (HG.out.below h0 hB) (by have := h0.size; omega)
  have HF := hide hfirst
  clear hfirst
  by_cases hc : chk wd dp ln ct cs gs = 0
  · simp only [hc, if_true]
    have hl := freeFn_ok hc
    have HC := hide hc
    clear hc
    go_enter Tryd.func24, Tryd.ntmps24
    go_wp2_with fail
    obtain ⟨m1, m2, m3⟩ := heap1 w (.cells #[.int .i64 wd, .int .i64 dp, .int .i64 ln, .int .i64 ct, .int .i64 cs, .slice ga gs.length gc] 24)
    obtain ⟨w0, hw0⟩ : ∃ w0, w.alloc (.cells #[.int .i64 wd, .int .i64 dp, .int .i64 ln, .int .i64 ct, .int .i64 cs, .slice ga gs.length gc] 24) = w0 := ⟨_, rfl⟩
    rw [hw0] at m1 m2 m3 ⊢
    clear hw0
    refine (HF.out w0 m3).mono ?_
    rintro e w1 ⟨rfl, hb1⟩
    have hs1 := hb1.size
    have M4 := hide (below_blk hb1 m1 (by omega))
    have HB1 := hide (below_left m3 hb1 (by omega))
    rw [HC.out]
    clear hb1 m1 m3
    go_wp2_with fail
    obtain ⟨i0, hi0, hz0, hz1, hz2⟩ := info_parts info31
    go_loopw [4, 5, 6] (fun v fr i wr => ∃ (k : Nat) (f : Int) (O : List (Int × Int)), k ≤ gs.length ∧ i = .int .i64 k ∧ fr = .int .i64 f ∧ Hid (RFree w wd dp ln ct cs (.slice ga gs.length gc) gs wr v f k O)) (fun _ _ i _ => gs.length - (intOf i).toNat)
    case atStart => exact ⟨0, 0, [], Nat.zero_le _, rfl, rfl, World.ownsRow_nil _ _ _ _, HB1.out, M4.out, rfl, Nat.le_refl _⟩
    case round =>
      obtain ⟨k, f, O, hk, rfl, rfl, hin⟩ := hrel
      have c5 := cell_blk hin.out.box 5
      have c2 := cell_blk hin.out.box 2
      have l5 := lt_blk hin.out.box
      simp at c5 c2
      have hsz : w.heap.size + 1 ≤ wr.heap.size := l5
      have hfew := hin.out.few
      have HN := hide (show ∀ (a b : Int), ∀ j u, ([.int .i64 a, .int .i64 b] : List Value)[j]? = some u → (wr.alloc (.cells #[.int .i64 a, .int .i64 b] 31)).cell? ((⟨wr.heap.size, 0, none⟩ : Addr).add j) = some u from fun a b => World.news_of_block (cs := #[.int .i64 a, .int .i64 b]) (t := 31) (fr := (0, 0)) (heap_alloc_new wr _))
      have HO := hide (show ∀ (a b : Int), (wr.alloc (.cells #[.int .i64 a, .int .i64 b] 31)).ownsRow (w.heap.size + 1) 31 2 u4 O.length (pcells O) from fun a b => hin.out.own.alloc _)
      by_cases hlt : k < gs.length
      · rcases (HG.out.below hin.out.below hB).pairs with ⟨_, _, _, h0⟩ | ⟨b, o, cap, hv, hb, hcell⟩
        · exfalso
          rw [h0] at hlt
          simp at hlt
        · cases hv
          obtain ⟨q1, q2⟩ := hcell k hlt
          have e3 : (k : Int) < (gs.length : Int) := by omega
          have hbl : b < wr.heap.size := by have := hin.out.below.size; omega
          have hst := emit_drop ln f gs k hlt
          have HST := hide hst
          clear hcell hst
          have hn5 : some w.heap.size ≠ u4.ownBlock := owns_ne hin.out.own (by omega)
          have hnb : some b ≠ u4.ownBlock := owns_ne hin.out.own (by omega)
          by_cases hlf : f < gF gs k
          · go_wp2_with (at_builtin; go_must (refine wpList_append_own _ rfl (.tmp 25) (.tmp 34) 22 rfl (w.heap.size + 1) 31 i0 _ 2 16 Tryd.underlying22 hi0 hz0 hz1 hz2 rfl (by decide) u4 _ _ rfl (HO.out _ _) ⟨wr.heap.size, 0, none⟩ 1 1 [.int .i64 f, .int .i64 (gF gs k)] rfl rfl (HN.out _ _) (by simp [Value.oneCell']) (by simp only [maxLen]; omega) (by omega) (by simp; omega) ?_); intro v1 w1 hown hg1 _; have HOW := hide hown; have HGR := hide hg1; have k5 := hg1.cell ((World.cell?_alloc_past _ _ _ l5).trans c5) hn5; have k6 := hg1.cell ((World.cell?_alloc_past _ _ _ hbl).trans q2) hnb; have k7 : w.heap.size < w1.heap.size := Nat.lt_of_lt_of_le l5 (Nat.le_trans (by simp) hg1.size); have k8 : b < w1.heap.size := Nat.lt_of_lt_of_le hbl (Nat.le_trans (by simp) hg1.size); clear hown hg1)
            go_roundw
            case rel =>
              refine ⟨k + 1, gT gs k, O ++ [(f, gF gs k)], by omega, by go_num, rfl, RFree.step hin.out HOW.out HGR.out ?_ (by omega)⟩
              have h1 := hin.out.todo
              rw [HST.out, if_pos hlf] at h1
              simpa using h1
            case measure => simp [intOf]; omega
          · have hst2 := HST.out
            rw [if_neg hlf] at hst2
            have HST2 := hide hst2
            clear hst2
            go_wp2_with fail
            go_roundw
            case rel =>
              refine ⟨k + 1, gT gs k, O, by omega, by go_num, rfl, hin.out.own, hin.out.below, hin.out.box, ?_, by omega⟩
              have h1 := hin.out.todo
              rw [HST2.out] at h1
              exact h1
            case measure => simp [intOf]; omega
      · obtain rfl : k = gs.length := by omega
        have htd := hin.out.todo
        rw [List.drop_length] at htd
        simp only [List.nil_append, emit] at htd
        by_cases hlf : f < ln
        · rw [if_pos hlf] at htd
          have HTD := hide htd
          have HIN := hide hin.out
          clear htd
          go_wp2_with (at_builtin; go_must (refine wpList_append_own _ rfl (.tmp 46) (.tmp 51) 22 rfl (w.heap.size + 1) 31 i0 _ 2 16 Tryd.underlying22 hi0 hz0 hz1 hz2 rfl (by decide) u4 _ _ rfl (HO.out _ _) ⟨wr.heap.size, 0, none⟩ 1 1 [.int .i64 f, .int .i64 ln] rfl rfl (HN.out _ _) (by simp [Value.oneCell']) (by simp only [maxLen]; omega) (by omega) (by simp; omega) ?_); intro v1 w1 hown hg1 _; have HOW := hide hown; have HGR := hide hg1; clear hown hg1)
          go_ret2
          refine ⟨_, rfl, (HIN.out.below.alloc (by omega) _).grown HGR.out (by simp; omega) (owns_ge HIN.out.own (by omega)), v1, rfl, ?_⟩
          have hp : parts ln gs = O ++ [(f, ln)] := HTD.out.symm
          rw [hp, pcells_append]
          have h2 := owns_mono (base2 := w.heap.size) HOW.out (by omega)
          simpa [pcells] using h2
        · rw [if_neg hlf, List.append_nil] at htd
          have HTD := hide htd
          have HIN := hide hin.out
          clear htd
          go_wp2_with fail
          go_ret2
          refine ⟨_, rfl, HIN.out.below, u4, rfl, ?_⟩
          rw [← HTD.out]
          exact owns_mono HIN.out.own (by omega)
  · simp only [hc, if_false]
    have hc0 : (chk wd dp ln ct cs gs != 0) = true := by simp [hc]
    clear hc
    go_enter Tryd.func24, Tryd.ntmps24
    go_wp2_with fail
    obtain ⟨m1, m2, m3⟩ := heap1 w (.cells #[.int .i64 wd, .int .i64 dp, .int .i64 ln, .int .i64 ct, .int .i64 cs, .slice ga gs.length gc] 24)
    obtain ⟨w0, hw0⟩ : ∃ w0, w.alloc (.cells #[.int .i64 wd, .int .i64 dp, .int .i64 ln, .int .i64 ct, .int .i64 cs, .slice ga gs.length gc] 24) = w0 := ⟨_, rfl⟩
    rw [hw0] at m1 m2 m3 ⊢
    clear hw0
    refine (HF.out w0 m3).mono ?_
    rintro e w1 ⟨rfl, hb1⟩
    have HB1 := hide (below_left m3 hb1 (by omega))
    clear hb1 m1 m3
    go_wp2_with fail
    go_ret2
    exact ⟨_, rfl, HB1.out, .slice none 0 0, rfl, rfl⟩
end Go.Proofs.YtfljmbdnnjjmoaaDoor
