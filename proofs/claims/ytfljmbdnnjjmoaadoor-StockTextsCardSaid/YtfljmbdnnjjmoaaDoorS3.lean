/-
  stock.Free, stock.Capacity, stock.Fits and what they call: the walks.
-/
import Derived.Test.YtfljmbdnnjjmoaaDoorS2
import Derived.Shelf.Abstract
namespace Go.Proofs.YtfljmbdnnjjmoaaDoor
open Go.RowKit Go.KP Go.Shelf
attribute [local go_sem] Oper.semAt_some

set_option maxRecDepth 100000 in
set_option maxHeartbeats 1000000 in
/-- slices.AppendSeq at gaps, from nil: all that comes is collected. -/
theorem appendSeq_any (gf : Nat) (lb : Array Value) (xs : List (Int × Int)) (Prot : Nat → Prop) (w0 w : World) (hl : xs.length ≤ 65536) (eg : ∀ args w, (callFunc gf args).run Tryd.prog w = .ok (.enter gf args) w)
    (hseq : IterAt Tryd.prog gf lb (fun k => #[.agg #[.int .i64 (gF xs k), .int .i64 (gT xs k)]]) xs.length Prot w0) (hprot : ∀ b, Prot b → b < w.heap.size ∧ w.heap[b]? = w0.heap[b]?) :
    Calls Tryd.prog 66 #[.slice none 0 0, .func (.func gf) #[] lb] w fun e w' => ∃ v, e = .returned v ∧ w'.ownsRow w.heap.size 31 2 v xs.length (pcells xs) ∧ Below w.heap.size w w' := by
  refine (callsIn_wide (n := 0)).1 ?_
  refine callsIn_of_wp_marks Tryd.func66 rfl trivial ?_ rfl
  simp only [Tryd.ntmps66, List.size_toArray, List.length_cons, List.length_nil, Nat.reduceAdd, Nat.reduceSub, Array.replicate_succ, Array.replicate_zero, List.push_toArray, List.append_toArray, List.nil_append, List.cons_append]
  have HQ := hide hseq; have HP := hide hprot; have HE := hide eg
  clear hseq hprot eg
  gi_wp2
  obtain ⟨w1, hw1⟩ : ∃ w1, w.alloc (.cells #[.slice none 0 0] 22) = w1 := ⟨_, rfl⟩
  have hs1 : w1.heap.size = w.heap.size + 1 := by rw [← hw1]; simp
  have hbx1 : w1.heap[w.heap.size]? = some (.cells #[.slice none 0 0] 22 (0, 0)) := by rw [← hw1]; exact World.alloc_heap_new w _
  have hB1 : Below w.heap.size w w1 := by rw [← hw1]; exact (Below.refl _ _).alloc (Nat.le_refl _) _
  rw [hw1]
  obtain ⟨i0, hi0, hz0, hz1, hz2⟩ := info_parts info31
  refine wp_iter (gf := gf) (lb := lb) rfl HE.out HQ.out (fun b hb => ⟨by have := (HP.out b hb).1; omega, (hB1.block b (HP.out b hb).1).trans (HP.out b hb).2⟩) (fun _ => rfl)
    (fun k S W => ∃ v, S = OwnOf v ∧ W.heap[w.heap.size]? = some (.cells #[v] 22 (0, 0)) ∧ W.ownsRow w1.heap.size 31 2 v k (pcells (xs.take k)) ∧ Below w.heap.size w W)
    (fun _ _ _ => False) ?hI (fun _ _ _ _ h _ => h) ?h0
    (fun k S a1 W => ∃ Bx, w1.heap.size ≤ Bx ∧ ¬ S Bx ∧ W.heap[Bx]? = some (.cells #[.int .i64 (gF xs k), .int .i64 (gT xs k)] 31 (0, 0)) ∧
      a1 = { tmps := #[.slice none 0 0, .func (.func gf) #[] lb, .pointer (some ⟨w.heap.size, 0, none⟩), undef, .slice none 0 0, .pointer (some ⟨Bx, 0, none⟩), .func (.func gf) #[] lb, .agg #[.int .i64 (gF xs k), .int .i64 (gT xs k)], undef, undef, undef, undef, undef], defers := [] }) ?hAx ?hassign ?hS ?hbody ?hdone ?hstop
  case hI =>
    rintro k S W W2 ⟨v, rfl, hbx, hown, hb⟩ hq
    exact ⟨v, rfl, hq.at_ hbx (.inl (by omega)), owns_stay hown (fun r hr => hq.block r (.inr hr) (hown.lt r hr).2), Quiet.below hb hq (by omega) hb.size⟩
  case h0 => exact ⟨.slice none 0 0, by funext b; simp [OwnOf, Value.ownBlock], hbx1, World.ownsRow_nil _ _ _ _, hB1⟩
  case hAx =>
    rintro k S a1 W l r r2 ⟨Bx, h1, h2, h3, h4⟩ hl
    refine ⟨Bx, h1, h2, (World.putObj_heap_other (fun e => ?_)).trans h3, h4⟩
    subst e
    rw [hl] at h3
    cases h3
  case hassign =>
    intro l k S W K hsz hSlt hK
    gi_wp2
    refine hK _ _ ((Quiet.refl _ _ _).alloc _) ((Upd.refl _ _ _).alloc _) ⟨W.heap.size, by omega, fun h => ?_, World.alloc_heap_new W _, rfl⟩
    have := hSlt _ h
    omega
  case hS =>
    rintro k S W ⟨v, rfl, _, hown, _⟩
    exact owns_lt hown
  case hbody =>
    rintro l k S a1 W hk ⟨v, rfl, hbx, hown, hb⟩ hpr ⟨Bx, h1, h2, h3, rfl⟩ hsz
    have c1 : W.cell? ⟨w.heap.size, 0, none⟩ = some v := by simp [World.cell?, hbx]
    have f1 : W.frozen? ⟨w.heap.size, 0, none⟩ = false := by simp [World.frozen?, hbx]
    have c2 : W.cell? ⟨Bx, 0, none⟩ = some (.int .i64 (gF xs k)) := by simp [World.cell?, h3]
    have c3 : W.cell? ⟨Bx, 1, none⟩ = some (.int .i64 (gT xs k)) := by simp [World.cell?, h3]
    have HO := hide hown; have HB := hide hb; have H2 := hide h2; have HBx := hide hbx; have H3 := hide h3
    have hl1 : w.heap.size < W.heap.size := by omega
    have hl2 : Bx < W.heap.size := (Array.getElem?_eq_some_iff.1 h3).1
    clear hown hb h2 hbx h3 hpr
    gi_wp2_with (gi_at_builtin; refine in_append _ rfl (.tmp 8) (.tmp 10) 22 rfl w1.heap.size 31 i0 (.agg #[.int .i64 0, .int .i64 0]) 2 16 Tryd.underlying22 hi0 hz0 hz1 hz2 rfl (by decide) _ _ _ rfl (HO.out.alloc _) ⟨W.heap.size, 0, none⟩ 1 1 [.int .i64 (gF xs k), .int .i64 (gT xs k)] rfl rfl (World.news_of_block (cs := #[.int .i64 (gF xs k), .int .i64 (gT xs k)]) (t := 31) (fr := (0, 0)) (heap_alloc_new W _)) (by simp [Value.oneCell']) (by omega) (by simp only [maxLen]; omega) (by omega) (by simp; omega) ?_; intro g2 cap2 w2 hown2 hg2 hat2 hlt2; have hblk := (hg2.block w.heap.size (by simp; omega) (owns_ne HO.out (by omega))).trans (Below.heap_alloc _ _ _ hl1); have c4 := (World.cell?_of_block (a := ⟨w.heap.size, 0, none⟩) hblk).trans c1; have f4 := (World.frozen?_of_block (a := ⟨w.heap.size, 0, none⟩) hblk).trans f1; have HBk := hide hblk; have HO2 := hide hown2; have HG2 := hide hg2; have HA2 := hide hat2; clear hblk hown2 hg2 hat2)
    have hcell : w2.heap[w.heap.size]? = some (.cells #[v] 22 (0, 0)) := HBk.out.trans HBx.out
    have htk : pcells (xs.take (k + 1)) = pcells (xs.take k) ++ [.int .i64 (gF xs k), .int .i64 (gT xs k)] := by
      rw [List.take_succ_eq_append_getElem hk, pcells_append]
      simp [pcells, gF, gT, hk]
    have hBf : Below w.heap.size w (w2.setCell ⟨w.heap.size, 0, none⟩ (.slice (some ⟨g2, 0, none⟩) (k + 1) cap2)) := ((HB.out.alloc HB.out.size _).grown HG2.out (by simp; omega) (owns_ge HO.out (by omega))).setCell (p := ⟨w.heap.size, 0, none⟩) (Nat.le_refl _) _
    have hgB := HO2.out.lt g2 rfl
    refine ⟨OwnOf (.slice (some ⟨g2, 0, none⟩) (k + 1) cap2), upd_append (w1 := W.alloc (.cells #[.int .i64 (gF xs k), .int .i64 (gT xs k)] 31)) (by omega) ((Upd.refl _ _ _).alloc _) HG2.out HA2.out,
      fun b hb => (hBf.block b (HP.out b hb).1).trans (HP.out b hb).2, .slice (some ⟨g2, 0, none⟩) (k + 1) cap2, rfl, Boxed.set _ hcell, ?_, hBf⟩
    rw [htk]
    exact owns_stay HO2.out (fun r hr => Below.heap_setCell _ _ _ _ (by have := (HO2.out.lt r hr).1; simp; omega))
  case hdone =>
    rintro D S W hD ⟨v, rfl, hbx, hown, hb⟩ hK
    have c1 : W.cell? ⟨w.heap.size, 0, none⟩ = some v := by simp [World.cell?, hbx]
    have HO := hide hown; have HB := hide hb; have HK := hide hK
    clear hbx hown hb hK
    gi_wp2
    refine ⟨by simp, .inl ⟨_, _, rfl, run_takeDeferred HK.out, ?_⟩⟩
    refine ⟨_, results_tmp rfl _ _ _, v, rfl, ?_, ?_⟩
    · rw [List.take_length] at HO
      exact ownsRow_putObj (owns_mono HO.out (by omega)) _ HK.out rfl
    · exact HB.out.trans (belowK_b (w := w) (Nat.le_refl _) W D _ _ (by omega) HK.out rfl rfl)
  case hstop =>
    intro D c S W _ h
    exact h.elim

theorem collect_any (gf : Nat) (lb : Array Value) (xs : List (Int × Int)) (Prot : Nat → Prop) (w0 w : World) (hl : xs.length ≤ 65536) (eg : ∀ args w, (callFunc gf args).run Tryd.prog w = .ok (.enter gf args) w)
    (hseq : IterAt Tryd.prog gf lb (fun k => #[.agg #[.int .i64 (gF xs k), .int .i64 (gT xs k)]]) xs.length Prot w0) (hprot : ∀ b, Prot b → b < w.heap.size ∧ w.heap[b]? = w0.heap[b]?) :
    Calls Tryd.prog 46 #[.func (.func gf) #[] lb] w fun e w' => ∃ v, e = .returned v ∧ w'.ownsRow w.heap.size 31 2 v xs.length (pcells xs) ∧ Below w.heap.size w w' := by
  have HQ := hide hseq; have HP := hide hprot; have HE := hide eg
  clear hseq hprot eg
  go_enter Tryd.func46, Tryd.ntmps46
  go_wp2_with (go_at_call 66; refine (appendSeq_any gf lb xs Prot w0 w hl HE.out HQ.out HP.out).mono ?_; rintro e w1 ⟨v1, rfl, ho1, hb1⟩; have HO := hide ho1; have HB := hide hb1; clear ho1 hb1)
  go_ret
  exact ⟨v1, rfl, HO.out, HB.out⟩

/-- A bar as a value. -/
abbrev barV (wd dp ln ct cs : Int) (gv : Value) : Value := .agg #[.int .i64 wd, .int .i64 dp, .int .i64 ln, .int .i64 ct, .int .i64 cs, gv]

set_option maxHeartbeats 400000 in
theorem freeFn_any (wd dp ln ct cs : Int) (gv : Value) (gs : List (Int × Int)) (B : Nat) (w : World) (hg : SlAt B w 2 gv gs.length (pcells gs)) (hB : B ≤ w.heap.size) :
    Calls Tryd.prog 13 #[barV wd dp ln ct cs gv] w (RetEx w fun r w' => ∃ v, r = .tuple #[v, .int .i64 (if chk wd dp ln ct cs gs = 0 then 0 else 1)] ∧ (if chk wd dp ln ct cs gs = 0 then w'.ownsRow w.heap.size 31 2 v (parts ln gs).length (pcells (parts ln gs)) else v = .slice none 0 0)) := by
  have HG := hide hg
  clear hg
  by_cases hc : chk wd dp ln ct cs gs = 0
  · simp only [hc, if_true]
    have hc0 : (chk wd dp ln ct cs gs != 0) = false := by simp [hc]
    have hl : gs.length ≤ 16 := by
      unfold chk at hc
      split at hc
      · split at hc
        · omega
        · omega
      · omega
    have hpl := parts_len ln gs
    have HC := hide hc
    clear hc
    go_enter Tryd.func13, Tryd.ntmps13
    go_wp2_with (first
      | (go_at_call 45; refine (check_any wd dp ln ct cs gv gs B _ (HG.out.below (n0 := w.heap.size) ((Below.refl _ _).alloc (Nat.le_refl _) _) hB) (by simp; omega)).mono ?_; rintro e w1 ⟨rfl, hb1⟩; have HB1 := hide hb1; have hcl : ∀ o, w1.cell? ⟨w.heap.size, o, none⟩ = (w.alloc (.cells #[.int .i64 wd, .int .i64 dp, .int .i64 ln, .int .i64 ct, .int .i64 cs, gv] 24)).cell? ⟨w.heap.size, o, none⟩ := fun o => hb1.cell (p := ⟨w.heap.size, o, none⟩) (by simp); clear hb1)
      | (go_at_call 47; refine (free_any _ _).mono ?_; rintro e w2 ⟨rfl, rfl⟩)
      | fail)
    have hbb : Below w.heap.size w (w1.alloc (.cells #[.int .i64 wd, .int .i64 dp, .int .i64 ln, .int .i64 ct, .int .i64 cs, gv] 24)) := below_two HB1.out _
    have hsq := freeSeq_some B w1.heap.size wd dp ln ct cs gv gs _ (HG.out.below hbb hB) hl (World.alloc_heap_new w1 _)
    have HS := hide hsq
    have HBB := hide hbb
    clear hsq hbb
    refine (collect_any 67 _ (parts ln gs) _ _ _ (by omega) (enters_of Tryd.func67 (by kernel_rfl) rfl) HS.out (fun b hb => ⟨?_, rfl⟩)).mono ?_
    · have := HBB.out.size
      simp at this ⊢
      rcases hb with hb | hb <;> omega
    rintro e w3 ⟨v3, rfl, ho3, hb3⟩
    have HO3 := hide ho3
    have HB3 := hide hb3
    clear ho3 hb3
    go_wp2_with fail
    go_ret2
    exact ⟨_, rfl, HBB.out.trans (HB3.out.mono HBB.out.size), v3, rfl, owns_mono HO3.out HBB.out.size⟩
  · simp only [hc, if_false]
    have hc0 : (chk wd dp ln ct cs gs != 0) = true := by simp [hc]
    clear hc
    go_enter Tryd.func13, Tryd.ntmps13
    go_wp2_with (first
      | (go_at_call 45; refine (check_any wd dp ln ct cs gv gs B _ (HG.out.below (n0 := w.heap.size) ((Below.refl _ _).alloc (Nat.le_refl _) _) hB) (by simp; omega)).mono ?_; rintro e w1 ⟨rfl, hb1⟩; have HB1 := hide hb1; clear hb1))
    go_ret2
    exact ⟨_, rfl, below_one HB1.out, .slice none 0 0, rfl, rfl⟩

theorem freeFn_ok {wd dp ln ct cs : Int} {gs : List (Int × Int)} (hc : chk wd dp ln ct cs gs = 0) : gs.length ≤ 16 := by
  unfold chk at hc
  split at hc
  · split at hc <;> omega
  · omega

set_option maxHeartbeats 400000 in
theorem checkKerf_any (wd dp ln ct cs kerf : Int) (gv : Value) (gs : List (Int × Int)) (B : Nat) (w : World) (hg : SlAt B w 2 gv gs.length (pcells gs)) (hB : B ≤ w.heap.size) :
    Calls Tryd.prog 50 #[barV wd dp ln ct cs gv, .int .i64 kerf] w (Ret w (.int .i64 (kerfErr (chk wd dp ln ct cs gs) kerf))) := by
  have HG := hide hg
  clear hg
  unfold kerfErr
  by_cases hc : chk wd dp ln ct cs gs = 0
  · simp only [hc, if_true]
    have hc0 : (chk wd dp ln ct cs gs != 0) = false := by simp [hc]
    clear hc
    cases hk : btw kerf 0 100
    all_goals
      go_enter Tryd.func50, Tryd.ntmps50
      go_wp2_with (first
        | (go_at_call 45; refine (check_any wd dp ln ct cs gv gs B _ (HG.out.below (n0 := w.heap.size) ((Below.refl _ _).alloc (Nat.le_refl _) _) hB) (by simp; omega)).mono ?_; rintro e w1 ⟨rfl, hb1⟩; have HB1 := hide hb1; clear hb1)
        | (go_at_call 52; refine (between_any _ _ _ _).mono ?_; rintro e w' ⟨rfl, rfl⟩)
        | fail)
      go_ret
      exact ⟨rfl, below_one HB1.out⟩
  · simp only [hc, if_false]
    have hc0 : (chk wd dp ln ct cs gs != 0) = true := by simp [hc]
    clear hc
    go_enter Tryd.func50, Tryd.ntmps50
    go_wp2_with (first
      | (go_at_call 45; refine (check_any wd dp ln ct cs gv gs B _ (HG.out.below (n0 := w.heap.size) ((Below.refl _ _).alloc (Nat.le_refl _) _) hB) (by simp; omega)).mono ?_; rintro e w1 ⟨rfl, hb1⟩; have HB1 := hide hb1; clear hb1)
      | fail)
    go_ret
    exact ⟨rfl, below_one HB1.out⟩
end Go.Proofs.YtfljmbdnnjjmoaaDoor
