/-
  Texts laid together.
-/
import Derived.Test.YtklgpilgalfckaaGreatDoorMN2
import Derived.Deep.RegionHeld3
import Derived.BigQuiet
import Derived.Deep.AppendLies
import Derived.Deep.QuietTactic
import Derived.KernelRfl
import Derived.Orders
import Derived.OwnWalk
set_option maxRecDepth 100000
set_option maxHeartbeats 4000000
namespace Go.Proofs.YtklgpilgalfckaaGreatDoor
open Go.RowKit Go.KP Go.KI Go.Shelf
attribute [local go_sem] Oper.semAt_some

theorem upper_cmp {x y : List Nat} (hx : Lt 1000000000 x) (hy : Lt 1000000000 y) (hl : x.length = y.length) {k : Nat} (hk : k < x.length) (hs : ∀ j, j < k → lat x (x.length - 1 - j) = lat y (x.length - 1 - j)) (hne : lat x (x.length - 1 - k) ≠ lat y (x.length - 1 - k)) :
    CmpRes ((lat x (x.length - 1 - k) : Int) - lat y (x.length - 1 - k)) (lv 1000000000 x) (lv 1000000000 y) := by
  have hd : x.drop (x.length - 1 - k + 1) = y.drop (x.length - 1 - k + 1) := by
    apply List.ext_getElem?
    intro i
    rw [List.getElem?_drop, List.getElem?_drop]
    by_cases hi : x.length - 1 - k + 1 + i < x.length
    · have h1 := hs (k - 1 - i) (by omega)
      rw [show x.length - 1 - (k - 1 - i) = x.length - 1 - k + 1 + i by omega] at h1
      rw [lat_some hi, lat_some (l := y) (by omega), h1]
    · rw [List.getElem?_eq_none (by omega), List.getElem?_eq_none (by omega)]
  rcases Nat.lt_or_gt_of_ne hne with h | h
  · have h1 := lv_top_lt (b := 1000000000) (by omega) hx hl (i := x.length - 1 - k) (by omega) hd h
    exact ⟨by omega, by omega⟩
  · have h1 := lv_top_lt (b := 1000000000) (by omega) hy hl.symm (i := x.length - 1 - k) (by omega) hd.symm h
    exact ⟨by omega, by omega⟩
theorem all_cmp {x y : List Nat} (hl : x.length = y.length) (hs : ∀ j, j < x.length → lat x (x.length - 1 - j) = lat y (x.length - 1 - j)) : x = y := by
  apply List.ext_getElem?
  intro i
  by_cases hi : i < x.length
  · have h1 := hs (x.length - 1 - i) (by omega)
    rw [show x.length - 1 - (x.length - 1 - i) = i by omega] at h1
    rw [lat_some hi, lat_some (l := y) (by omega), h1]
  · rw [List.getElem?_eq_none (by omega), List.getElem?_eq_none (by omega)]
def CompRes (x y : List Nat) (w : World) (e : Ending) (w2 : World) : Prop := ∃ r : Int, e = .returned (.int .i64 r) ∧ CmpRes r (lv 1000000000 x) (lv 1000000000 y) ∧ Below w.heap.size w w2
theorem compare_any (va vb : Value) (x y : List Nat) (B : Nat) (w : World) (ha : LimbAt B w va x) (hb : LimbAt B w vb y) (hB : B ≤ w.heap.size) (hx : Norm 1000000000 x) (hy : Norm 1000000000 y) (lx : x.length ≤ 100000) (ly : y.length ≤ 100000) :
    Calls Tryz.prog 199 #[va, vb] w (CompRes x y w) := by
  obtain ⟨a0, c0, hva⟩ := ha.form
  obtain ⟨a1, c1, hvb⟩ := hb.form
  subst hva; subst hvb
  have HA := hide ha; have HB := hide hb; have HX := hide hx; have HY := hide hy
  clear ha hb hx hy
  obtain ⟨b0, b1, hs0, hB0⟩ := heap2 w (.cells #[.slice a1 y.length c1] 199) (.cells #[.int .i64 0] 3)
  obtain ⟨w0, hw0⟩ : ∃ w0, (w.alloc (.cells #[.slice a1 y.length c1] 199)).alloc (.cells #[.int .i64 0] 3) = w0 := ⟨_, rfl⟩
  rw [hw0] at b0 b1 hs0 hB0
  have c0' := cell_blk b0 0
  have c1' := cell_blk b1 0
  have f1' := froz_blk b1 0
  have HB0 := hide hB0; have H0 := hide b0; have H1 := hide b1
  have hs0' : w.heap.size + 2 ≤ w0.heap.size := by omega
  clear b0 b1 hs0 hB0
  refine (callsIn_wide (n := 0)).1 ?_
  refine callsIn_of_wp_marks Tryz.func199 rfl trivial ?_ rfl
  simp only [Tryz.ntmps199, List.size_toArray, List.length_cons, List.length_nil, Nat.reduceAdd, Nat.reduceSub, Array.replicate_succ, Array.replicate_zero, List.push_toArray, List.append_toArray, List.nil_append, List.cons_append]
  by_cases hlen : x.length = y.length
  · have hq : ((x.length : Int) != (y.length : Int)) = false := by rw [hlen]; simp
    have HL := hide hlen
    clear hlen
    gi_wp2_with fail
    refine ⟨trivial, rfl, (callsIn_wide.2 (backward_any a0 x.length c0 w0)).mono ?_⟩
    rintro e w1 ⟨rfl, hw1⟩
    obtain ⟨g1, gs1, gb1⟩ := heap1 w0 (.cells #[.slice a0 x.length c0] 199)
    rw [hw1] at g1 gs1 gb1
    have d0 := below_blk gb1 H0.out (by omega)
    have d1 := below_blk gb1 H1.out (by omega)
    have HB1 := hide (HB0.out.trans (gb1.mono (by omega))); have G1 := hide g1; have D0 := hide d0; have D1 := hide d1
    have hs1 : w0.heap.size + 1 = w1.heap.size := by omega
    clear hw1 g1 gs1 gb1 d0 d1 c0' c1' f1' HB0 H0 H1 hq hw0
    gi_wp2_with fail
    refine wp_iter_on (gf := 269) (lb := #[.pointer (some ⟨w0.heap.size, 0, none⟩)]) rfl (enters_of Tryz.func269 (by kernel_rfl) rfl) (backSeq_any w0.heap.size x.length c0 a0 (fun k => ((lat x (x.length - 1 - k) : Nat) : Int)) (by omega)) (fun _ => rfl)
      (fun k S W => S = (fun _ => False) ∧ W.heap[w.heap.size]? = some (.cells #[.slice a1 y.length c1] 199 (0, 0)) ∧ W.heap[w.heap.size + 1]? = some (.cells #[.int .i64 0] 3 (0, 0)) ∧ W.heap[w0.heap.size]? = some (.cells #[.slice a0 x.length c0] 199 (0, 0)) ∧ Below w.heap.size w W ∧ ∀ j, j < k → lat x (x.length - 1 - j) = lat y (x.length - 1 - j))
      (fun c S W => c = .ret ∧ S = (fun _ => False) ∧ Below w.heap.size w W ∧ ∃ r : Int, W.heap[w.heap.size + 1]? = some (.cells #[.int .i64 r] 3 (0, 0)) ∧ CmpRes r (lv 1000000000 x) (lv 1000000000 y)) ?hI ?hIx ?h0 ?hke
      (fun k S a1' W => a1' = { tmps := #[.slice a0 x.length c0, .slice a1 y.length c1, undef, .pointer (some ⟨w.heap.size, 0, none⟩), .pointer (some ⟨w.heap.size + 1, 0, none⟩), .int .i64 ((x.length : Int) - 1 - k), .int .i64 ((lat x (x.length - 1 - k) : Nat) : Int), .slice a0 x.length c0, .int .i64 x.length, .slice a1 y.length c1, .int .i64 y.length, .bool false, undef, undef, undef, undef, undef, .slice a0 x.length c0, .func (.func 269) #[] #[.pointer (some ⟨w0.heap.size, 0, none⟩)], .int .i64 ((x.length : Int) - 1 - k), .int .i64 ((lat x (x.length - 1 - k) : Nat) : Int), undef, undef, undef, undef, undef, undef, undef, undef, undef, undef, undef, undef], defers := [] })
      ?hAx ?hassign ?hS ?hbody ?hdone ?hstop
    case hI =>
      rintro k S W W2 ⟨rfl, e1, e2, e3, hb, hp⟩ hq
      exact ⟨rfl, hq.at_ e1 (.inl (by omega)), hq.at_ e2 (.inl (by omega)), hq.at_ e3 (.inl (by omega)), Quiet.below hb hq (by omega) hb.size, hp⟩
    case hIx =>
      rintro c S W W2 ⟨rfl, rfl, hb, r, e1, hr⟩ hq
      exact ⟨rfl, rfl, Quiet.below hb hq (by omega) hb.size, r, hq.at_ e1 (.inl (by omega)), hr⟩
    case h0 => exact ⟨rfl, D0.out, D1.out, G1.out, HB1.out, fun j hj => by omega⟩
    case hke =>
      rintro k S W hk ⟨rfl, e1, e2, e3, hb, hp⟩
      refine ⟨e3, fun hlt => ?_⟩
      rcases (HA.out.below hb hB).cases with ⟨_, _, _, hnil⟩ | ⟨g, o, cap, hv, hg, hc⟩
      · rw [hnil] at hlt
        simp at hlt
      · injection hv with hv1 hv2 hv3
        exact ⟨g, o, hv1, hc _ (by omega)⟩
    case hAx =>
      rintro k S a1' W l r r2 h _
      exact h
    case hassign =>
      intro l k S W K hsz hSlt hK
      gi_wp2
      exact hK _ _ (Quiet.refl _ _ _) (Upd.refl _ _ _) rfl
    case hS =>
      rintro k S W ⟨rfl, _⟩ b hb
      exact hb.elim
    case hbody =>
      rintro l k S a1' W hk ⟨rfl, e1, e2, e3, hb, hp⟩ rfl hsz
      have q1 := cell_blk e1 0
      have q2 := cell_blk e2 0
      have q3 := froz_blk e2 0
      obtain ⟨m, hm⟩ : ∃ m : Nat, (x.length : Int) - 1 - (k : Int) = m := ⟨x.length - 1 - k, by omega⟩
      have hm2 : x.length - 1 - k = m := by omega
      have hml : m < y.length := by have := HL.out; omega
      have hyc : ∃ g o, a1 = some ⟨g, o, none⟩ ∧ W.cell? ⟨g, o + m, none⟩ = some (.int .i64 (lat y m)) := by
        rcases (HB.out.below hb hB).cases with ⟨_, _, _, hnil⟩ | ⟨g, o, cap, hv, hg, hc⟩
        · rw [hnil] at hml
          simp at hml
        · injection hv with hv1 hv2 hv3
          exact ⟨g, o, hv1, hc _ hml⟩
      obtain ⟨g, o, rfl, q4⟩ := hyc
      have hm0 : (0 : Int) ≤ (m : Int) := by omega
      have hmi : (m : Int) < (y.length : Int) := by omega
      rw [hm, hm2]
      have HP := hide hp; have HBW := hide hb; have E1 := hide e1; have E2 := hide e2; have E3 := hide e3; have HM := hide hm2
      by_cases hne : lat x m = lat y m
      · have hq : ((lat x m : Int) != (lat y m : Int)) = false := by rw [hne]; simp
        have HNE := hide hne
        clear hm hm2 hp hb e1 e2 e3 hne
        gi_wp2
        refine ⟨fun _ => False, Upd.refl _ _ _, rfl, E1.out, E2.out, E3.out, HBW.out, fun j hj => ?_⟩
        rcases Nat.lt_or_ge j k with h | h
        · exact HP.out j h
        · obtain rfl : j = k := by omega
          rw [HM.out]
          exact HNE.out
      · have hq : ((lat x m : Int) != (lat y m : Int)) = true := by
          have : (lat x m : Int) ≠ (lat y m : Int) := by omega
          simpa using this
        have HC := hide (upper_cmp HX.out.lt HY.out.lt HL.out hk hp (by rw [hm2]; exact hne))
        rw [hm2] at HC
        have lx1 := lat_lt (by omega) HX.out.lt m
        have ly1 := lat_lt (by omega) HY.out.lt m
        clear hm hm2 hp hb e1 e2 e3 hne
        gi_wp2
        refine ⟨fun _ => False, (Upd.refl _ _ _).setBox (by simp; omega) _, rfl, rfl, HBW.out.setCell (p := ⟨w.heap.size + 1, 0, none⟩) (by simp) _, _, Boxed.set _ E2.out, HC.out⟩
    case hdone =>
      rintro D S W hD ⟨rfl, e1, e2, e3, hb, hp⟩ hK
      have q2 := cell_blk e2 0
      have q3 := froz_blk e2 0
      have HBW := hide hb; have HK := hide hK; have E2 := hide e2
      have HXY := hide (all_cmp HL.out hp)
      clear hb hK e1 e2 e3 hp
      gi_wp2
      refine ⟨by simp, .inl ⟨_, _, rfl, run_takeDeferred (b := D) ((Below.heap_setCell _ _ _ _ (by simp; omega)).trans HK.out), ?_⟩⟩
      have hK2 : (W.setCell ⟨w.heap.size + 1, 0, none⟩ (.int .i64 0)).heap[D]? = some (.deferred (some [])) := (Below.heap_setCell _ _ _ _ (by simp; omega)).trans HK.out
      have hE : ((W.setCell ⟨w.heap.size + 1, 0, none⟩ (.int .i64 0)).putObj D (.deferred none)).heap[w.heap.size + 1]? = some (.cells #[.int .i64 0] 3 (0, 0)) := (World.putObj_heap_other (by omega)).trans (Boxed.set _ E2.out)
      have hc := cell_blk hE 0
      refine ⟨.int .i64 0, by simp [results, go_sem, hc], 0, rfl, ⟨by rw [HXY.out]; omega, by rw [HXY.out]; simp⟩, (HBW.out.setCell (p := ⟨w.heap.size + 1, 0, none⟩) (by simp) _).trans (belowK_b (w := w) (Nat.le_refl _) _ D _ _ (by omega) hK2 rfl rfl)⟩
    case hstop =>
      rintro D c S W hD ⟨rfl, rfl, hb, r, e1, hr⟩ hK
      have q2 := cell_blk e1 0
      have HBW := hide hb; have HK := hide hK; have E1 := hide e1; have HR := hide hr
      clear hb hK e1 hr
      gi_wp2
      refine ⟨by simp, .inl ⟨_, _, rfl, run_takeDeferred HK.out, ?_⟩⟩
      have hE : (W.putObj D (.deferred none)).heap[w.heap.size + 1]? = some (.cells #[.int .i64 r] 3 (0, 0)) := (World.putObj_heap_other (by omega)).trans E1.out
      have hc := cell_blk hE 0
      refine ⟨.int .i64 r, by simp [results, go_sem, hc], r, rfl, HR.out, HBW.out.trans (belowK_b (w := w) (Nat.le_refl _) _ D _ _ (by omega) HK.out rfl rfl)⟩
  · have hq : ((x.length : Int) != (y.length : Int)) = true := by
      have : (x.length : Int) ≠ (y.length : Int) := by omega
      simpa using this
    have HC := hide (show CmpRes ((x.length : Int) - y.length) (lv 1000000000 x) (lv 1000000000 y) by
      rcases Nat.lt_or_gt_of_ne hlen with h | h
      · have := norm_len_lt (b := 1000000000) (by omega) HX.out.lt HY.out h
        exact ⟨by omega, by omega⟩
      · have := norm_len_lt (b := 1000000000) (by omega) HY.out.lt HX.out h
        exact ⟨by omega, by omega⟩)
    clear hlen
    gi_wp2_with fail
    have hc := cell_blk (Boxed.set (.int .i64 ((x.length : Int) - y.length)) H1.out) 0
    refine ⟨.int .i64 ((x.length : Int) - y.length), by simp [results, go_sem, hc], ⟨_, rfl, HC.out, HB0.out.setCell (p := ⟨w.heap.size + 1, 0, none⟩) (by simp) _⟩⟩
open Go.RowKit Go.KP Go.KI Go.Shelf

abbrev numV (m : Bool) (v : Value) : Value := .agg #[.bool m, v]
theorem plus_lv {x y : List Nat} (hx : Lt 1000000000 x) (hy : Lt 1000000000 y) : Norm 1000000000 (trimL (combL plusP x y)) ∧ lv 1000000000 (trimL (combL plusP x y)) = lv 1000000000 x + lv 1000000000 y ∧ (trimL (combL plusP x y)).length ≤ max x.length y.length + 1 := by
  have hf := combTo_facts plusFn.small hx hy
  have key : ∀ i, lv 1000000000 (combTo plusP x y i).1 + 1000000000 ^ i * (combTo plusP x y i).2 = lvT 1000000000 x i + lvT 1000000000 y i := by
    intro i
    induction i with
    | zero => simp [combTo, lv, lvT]
    | succ i ih =>
      have h := plus_step (b := 1000000000) (n := (plusP (lat x i) (lat y i) (combTo plusP x y i).2).1) (c2 := (plusP (lat x i) (lat y i) (combTo plusP x y i).2).2) (x := lat x i) (y := lat y i) ih (by unfold plusP; simp only; omega)
      rw [lvT_succ, lvT_succ, ← h]
      simp only [combTo]
      rw [lv_snoc, (hf i).1]
  obtain ⟨n, hn⟩ : ∃ n, n = max x.length y.length + 1 := ⟨_, rfl⟩
  have h1 := key n
  rw [lvT_all (l := x) (by omega), lvT_all (l := y) (by omega)] at h1
  have hc : (combTo plusP x y n).2 = 0 := by
    rcases Nat.eq_zero_or_pos (combTo plusP x y n).2 with h | h
    · exact h
    · exfalso
      have hx1 := lv_lt hx
      have hy1 := lv_lt hy
      have e1 : 1000000000 ^ x.length ≤ 1000000000 ^ (n - 1) := Nat.pow_le_pow_right (by omega) (by omega)
      have e2 : 1000000000 ^ y.length ≤ 1000000000 ^ (n - 1) := Nat.pow_le_pow_right (by omega) (by omega)
      have e3 : 1000000000 ^ n = 1000000000 ^ (n - 1) * 1000000000 := by rw [← Nat.pow_succ]; congr 1; omega
      have e4 : 1000000000 ^ n * 1 ≤ 1000000000 ^ n * (combTo plusP x y n).2 := Nat.mul_le_mul_left _ h
      omega
  rw [hc] at h1
  unfold combL
  rw [← hn]
  refine ⟨trimL_norm (hf n).2.1, by rw [trimL_lv]; omega, ?_⟩
  rw [trimL_len]
  have := trimTo_le (combTo plusP x y n).1 (combTo plusP x y n).1.length
  have := (hf n).1
  omega
theorem minusP_eq {x y c : Nat} (hx : x < 1000000000) (hy : y < 1000000000) (hc : c ≤ 1) : (minusP x y c).1 + y + c = x + 1000000000 * (minusP x y c).2 := by
  unfold minusP
  split <;> simp only <;> omega
theorem minus_lv {x y : List Nat} (hx : Lt 1000000000 x) (hy : Lt 1000000000 y) (hle : lv 1000000000 y ≤ lv 1000000000 x) : Norm 1000000000 (trimL (combL minusP x y)) ∧ lv 1000000000 (trimL (combL minusP x y)) = lv 1000000000 x - lv 1000000000 y ∧ (trimL (combL minusP x y)).length ≤ max x.length y.length + 1 := by
  have hf := combTo_facts minusFn.small hx hy
  have key : ∀ i, lv 1000000000 (combTo minusP x y i).1 + lvT 1000000000 y i = lvT 1000000000 x i + 1000000000 ^ i * (combTo minusP x y i).2 := by
    intro i
    induction i with
    | zero => simp [combTo, lv, lvT]
    | succ i ih =>
      have hb := lat_lt (by omega) hx i
      have hb2 := lat_lt (by omega) hy i
      have hb3 := (hf i).2.2
      have h := minus_step (b := 1000000000) (n := (minusP (lat x i) (lat y i) (combTo minusP x y i).2).1) (c2 := (minusP (lat x i) (lat y i) (combTo minusP x y i).2).2) (x := lat x i) (y := lat y i) ih (minusP_eq hb hb2 hb3)
      rw [lvT_succ, lvT_succ]
      simp only [combTo]
      rw [lv_snoc, (hf i).1]
      exact h
  obtain ⟨n, hn⟩ : ∃ n, n = max x.length y.length + 1 := ⟨_, rfl⟩
  have h1 := key n
  rw [lvT_all (l := x) (by omega), lvT_all (l := y) (by omega)] at h1
  have hl := lv_lt (hf n).2.1
  rw [(hf n).1] at hl
  have hc : (combTo minusP x y n).2 = 0 := by
    rcases Nat.eq_zero_or_pos (combTo minusP x y n).2 with h | h
    · exact h
    · exfalso
      have e4 : 1000000000 ^ n * 1 ≤ 1000000000 ^ n * (combTo minusP x y n).2 := Nat.mul_le_mul_left _ h
      omega
  rw [hc] at h1
  unfold combL
  rw [← hn]
  refine ⟨trimL_norm (hf n).2.1, by rw [trimL_lv]; omega, ?_⟩
  rw [trimL_len]
  have := trimTo_le (combTo minusP x y n).1 (combTo minusP x y n).1.length
  have := (hf n).1
  omega
def NumOf (z : Int) (r : Value) (w2 : World) : Prop := ∃ (m : Bool) (v : Value) (l : List Nat), r = numV m v ∧ OwnL 0 w2 v l ∧ Norm 1000000000 l ∧ valS m (lv 1000000000 l) = z ∧ l.length ≤ 90000
theorem exit_add {R : Ending → World → Prop} {a : Act} {W : World} {b : Nat} {m : Bool} {v : Value} (hb : W.heap[b]? = some (.cells #[.bool m, v] 207 (0, 0)))
    (h2 : a.tmps[4]? = some (.pointer (some ⟨b, 0, none⟩))) (hd : a.defers = []) (hR : R (.returned (numV m v)) W) : bodyPost Tryz.prog Tryz.f171 R .ret a W := by
  have hcell := fun o => cell_blk hb o
  refine bodyPost_ret ?_ hd hR
  simp [results, go_sem, hcell, h2]
theorem set2 {w : World} {b : Nat} {u0 u1 : Value} {t : TypeId} (h : w.heap[b]? = some (.cells #[u0, u1] t (0, 0))) (v0 v1 : Value) :
    ((w.setCell ⟨b, 0, none⟩ v0).setCell ⟨b, 1, none⟩ v1).heap[b]? = some (.cells #[v0, v1] t (0, 0)) ∧ Below b w ((w.setCell ⟨b, 0, none⟩ v0).setCell ⟨b, 1, none⟩ v1) := by
  refine ⟨?_, ((Below.refl b w).setCell (p := ⟨b, 0, none⟩) (Nat.le_refl _) _).setCell (p := ⟨b, 1, none⟩) (Nat.le_refl _) _⟩
  simp only [World.setCell, Array.getElem?_modify, h]
  simp
theorem valS_add (m : Bool) (a b : Nat) : valS m a + valS m b = valS m (a + b) := by
  cases m <;> simp [valS] <;> omega
theorem valS_sub (m : Bool) {a b : Nat} (h : b ≤ a) : valS m a + valS (!m) b = valS m (a - b) := by
  cases m <;> simp [valS] <;> omega
theorem valS_sub2 (m : Bool) {a b : Nat} (h : a ≤ b) : valS m a + valS (!m) b = valS (!m) (b - a) := by
  cases m <;> simp [valS] <;> omega
structure AddSt (w : World) (m1 m2 : Bool) (v1 v2 : Value) (W : World) : Prop where
  one : W.heap[w.heap.size]? = some (.cells #[.bool m1, v1] 207 (0, 0))
  two : W.heap[w.heap.size + 1]? = some (.cells #[.bool m2, v2] 207 (0, 0))
  res : W.heap[w.heap.size + 2]? = some (.cells #[.bool false, .slice none 0 0] 207 (0, 0))
  below : Below w.heap.size w W
theorem AddSt.on {w : World} {m1 m2 : Bool} {v1 v2 : Value} {W W2 : World} (h : AddSt w m1 m2 v1 v2 W) (hb : Below W.heap.size W W2) : AddSt w m1 m2 v1 v2 W2 :=
  ⟨below_blk hb h.one (lt_blk h.one), below_blk hb h.two (lt_blk h.two), below_blk hb h.res (lt_blk h.res), h.below.trans (hb.mono h.below.size)⟩
theorem AddSt.cells {w : World} {m1 m2 : Bool} {v1 v2 : Value} {W : World} (h : AddSt w m1 m2 v1 v2 W) :
    (W.cell? ⟨w.heap.size, 0, none⟩ = some (.bool m1) ∧ W.cell? ⟨w.heap.size, 1, none⟩ = some v1) ∧ (W.cell? ⟨w.heap.size + 1, 0, none⟩ = some (.bool m2) ∧ W.cell? ⟨w.heap.size + 1, 1, none⟩ = some v2) ∧
    (W.cell? ⟨w.heap.size + 2, 0, none⟩ = some (.bool false) ∧ W.cell? ⟨w.heap.size + 2, 1, none⟩ = some (.slice none 0 0)) ∧ W.frozen? ⟨w.heap.size + 2, 0, none⟩ = false ∧ W.frozen? ⟨w.heap.size + 2, 1, none⟩ = false ∧ w.heap.size + 2 < W.heap.size :=
  ⟨⟨cell_blk h.one 0, cell_blk h.one 1⟩, ⟨cell_blk h.two 0, cell_blk h.two 1⟩, ⟨cell_blk h.res 0, cell_blk h.res 1⟩, froz_blk h.res 0, froz_blk h.res 1, lt_blk h.res⟩
theorem add_any (m1 m2 : Bool) (va vb : Value) (x y : List Nat) (B : Nat) (w : World) (ha : LimbAt B w va x) (hb : LimbAt B w vb y) (hB : B ≤ w.heap.size) (hx : Norm 1000000000 x) (hy : Norm 1000000000 y) (lx : x.length ≤ 80000) (ly : y.length ≤ 80000) :
    Calls Tryz.prog 171 #[numV m1 va, numV m2 vb] w (RetEx w (NumOf (valS m1 (lv 1000000000 x) + valS m2 (lv 1000000000 y)))) := by
  obtain ⟨a0, c0, hva⟩ := ha.form
  obtain ⟨a1, c1, hvb⟩ := hb.form
  subst hva; subst hvb
  have HA := hide ha; have HB := hide hb; have HX := hide hx; have HY := hide hy
  clear ha hb hx hy
  obtain ⟨b0, b1, b2, hs0, hB0⟩ := heap3 w (.cells #[.bool m1, .slice a0 x.length c0] 207) (.cells #[.bool m2, .slice a1 y.length c1] 207) (.cells #[.bool false, .slice none 0 0] 207)
  obtain ⟨w0, hw0⟩ : ∃ w0, ((w.alloc (.cells #[.bool m1, .slice a0 x.length c0] 207)).alloc (.cells #[.bool m2, .slice a1 y.length c1] 207)).alloc (.cells #[.bool false, .slice none 0 0] 207) = w0 := ⟨_, rfl⟩
  rw [hw0] at b0 b1 b2 hs0 hB0
  have HS := hide (AddSt.mk b0 b1 b2 hB0)
  have HW0 := hide hw0
  clear b0 b1 b2 hs0 hB0 hw0
  by_cases hm : m1 = m2
  · subst hm
    go_enter Tryz.func171, Tryz.ntmps171
    go_wp2_with fail
    rw [HW0.out]
    obtain ⟨⟨c1', c2'⟩, ⟨c3', c4'⟩, ⟨c5', c6'⟩, f1', f2', l0⟩ := HS.out.cells
    have n1 : (w.heap.size + 1 + 1 = w.heap.size) = False := eq_false (by omega)
    have n2 : (w.heap.size = w.heap.size + 1 + 1) = False := eq_false (by omega)
    go_region_held3 (fun w' => w'.cell? ⟨w.heap.size, 0, none⟩ = some (.bool m1) ∧ w'.cell? ⟨w.heap.size, 1, none⟩ = some (.slice a0 x.length c0) ∧ w'.cell? ⟨w.heap.size + 1, 1, none⟩ = some (.slice a1 y.length c1)) (first | go_keep)
      (first
        | (go_at_call 197
           refine (combine_any 198 plusP plusFn _ _ x y B _ (HA.out.below (HS.out.below.drew) hB) (HB.out.below (HS.out.below.drew) hB) (by have := HS.out.below.size; simp; omega) HX.out.lt HY.out.lt (by omega) (by omega)).mono ?_
           rintro e w1 ⟨v, rfl, hb1, ho1⟩
           obtain ⟨av, cv, hvf, _, _⟩ := ho1.form
           subst hvf
           have HS1 := hide (HS.out.on (below_ahead hb1))
           have HO1 := hide ho1
           obtain ⟨⟨d1, d2⟩, ⟨d3, d4⟩, ⟨d5, d6⟩, g1, g2, l1⟩ := HS1.out.cells
           clear hb1 ho1)
        | fail)
    clear n1 n2
    go_wp2_with fail
    obtain ⟨s1, s2⟩ := set2 HS1.out.res (.bool m1) (.slice av (trimL (combL plusP x y)).length cv)
    obtain ⟨p1, p2, p3⟩ := plus_lv HX.out.lt HY.out.lt
    refine exit_add s1 rfl rfl ⟨_, rfl, HS1.out.below.trans (s2.mono (by omega)), m1, _, _, rfl, ?_, p1, by rw [p2, valS_add], by omega⟩
    exact owns_stay (HO1.out.mono (Nat.zero_le _)) (fun r hr => (by
      have := (HO1.out.lt r hr).1
      have h2 := HS.out.cells
      rw [setCell_other (by simp at this; omega), setCell_other (by simp at this; omega)]))
  · obtain rfl : m2 = !m1 := by cases m1 <;> cases m2 <;> simp_all
    have hq : (m1 == !m1) = false := by cases m1 <;> rfl
    have HCMP := hide (compare_any (.slice a0 x.length c0) (.slice a1 y.length c1) x y B w0 (HA.out.below HS.out.below hB) (HB.out.below HS.out.below hB) (by have := HS.out.below.size; omega) HX.out HY.out (by omega) (by omega))
    go_enter Tryz.func171, Tryz.ntmps171
    go_wp2_with fail
    rw [HW0.out]
    refine HCMP.out.mono ?_
    rintro e w1 ⟨r, rfl, hr, hb1⟩
    have HS0 := hide (HS.out.on hb1)
    clear hb1 HCMP
    obtain ⟨⟨c1', c2'⟩, ⟨c3', c4'⟩, ⟨c5', c6'⟩, f1', f2', l0⟩ := HS0.out.cells
    have n1 : (w.heap.size + 1 + 1 = w.heap.size) = False := eq_false (by omega)
    have n2 : (w.heap.size = w.heap.size + 1 + 1) = False := eq_false (by omega)
    by_cases h0 : 0 ≤ r
    · have hle : lv 1000000000 y ≤ lv 1000000000 x := by
        have h1 := hr.1
        have h2 : ¬ lv 1000000000 x < lv 1000000000 y := fun h => by have := h1.2 h; omega
        omega
      have HLE := hide hle
      clear hr hle hm hq
      go_wp2_with fail
      go_region_held3 (fun w' => w'.cell? ⟨w.heap.size, 0, none⟩ = some (.bool m1) ∧ w'.cell? ⟨w.heap.size, 1, none⟩ = some (.slice a0 x.length c0) ∧ w'.cell? ⟨w.heap.size + 1, 1, none⟩ = some (.slice a1 y.length c1)) (first | go_keep)
        (first
          | (go_at_call 197
             refine (combine_any 217 minusP minusFn _ _ x y B _ (HA.out.below (HS0.out.below.drew) hB) (HB.out.below (HS0.out.below.drew) hB) (by have := HS0.out.below.size; simp; omega) HX.out.lt HY.out.lt (by omega) (by omega)).mono ?_
             rintro e w2 ⟨v, rfl, hb2, ho1⟩
             obtain ⟨av, cv, hvf, _, _⟩ := ho1.form
             subst hvf
             have HS1 := hide (HS0.out.on (below_ahead hb2))
             have HO1 := hide ho1
             obtain ⟨⟨d1, d2⟩, ⟨d3, d4⟩, ⟨d5, d6⟩, g1, g2, l1⟩ := HS1.out.cells
             clear hb2 ho1)
          | fail)
      clear n1 n2
      go_wp2_with fail
      obtain ⟨s1, s2⟩ := set2 HS1.out.res (.bool m1) (.slice av (trimL (combL minusP x y)).length cv)
      obtain ⟨p1, p2, p3⟩ := minus_lv HX.out.lt HY.out.lt HLE.out
      refine exit_add s1 rfl rfl ⟨_, rfl, HS1.out.below.trans (s2.mono (by omega)), m1, _, _, rfl, ?_, p1, by rw [p2, valS_sub m1 HLE.out], by omega⟩
      exact owns_stay (HO1.out.mono (Nat.zero_le _)) (fun r hr => (by
        have := (HO1.out.lt r hr).1
        rw [setCell_other (by simp at this; omega), setCell_other (by simp at this; omega)]))
    · have hle : lv 1000000000 x ≤ lv 1000000000 y := by
        have h1 := hr.1.1 (by omega)
        omega
      have HLE := hide hle
      have h0' : ¬ (0 : Int) ≤ r := h0
      clear hr hle hm hq
      go_wp2_with fail
      go_region_held3 (fun w' => w'.cell? ⟨w.heap.size + 1, 0, none⟩ = some (.bool !m1) ∧ w'.cell? ⟨w.heap.size, 1, none⟩ = some (.slice a0 x.length c0) ∧ w'.cell? ⟨w.heap.size + 1, 1, none⟩ = some (.slice a1 y.length c1)) (first | go_keep)
        (first
          | (go_at_call 197
             refine (combine_any 217 minusP minusFn _ _ y x B _ (HB.out.below (HS0.out.below.drew) hB) (HA.out.below (HS0.out.below.drew) hB) (by have := HS0.out.below.size; simp; omega) HY.out.lt HX.out.lt (by omega) (by omega)).mono ?_
             rintro e w2 ⟨v, rfl, hb2, ho1⟩
             obtain ⟨av, cv, hvf, _, _⟩ := ho1.form
             subst hvf
             have HS1 := hide (HS0.out.on (below_ahead hb2))
             have HO1 := hide ho1
             obtain ⟨⟨d1, d2⟩, ⟨d3, d4⟩, ⟨d5, d6⟩, g1, g2, l1⟩ := HS1.out.cells
             clear hb2 ho1)
          | fail)
      clear n1 n2
      go_wp2_with fail
      obtain ⟨s1, s2⟩ := set2 HS1.out.res (.bool !m1) (.slice av (trimL (combL minusP y x)).length cv)
      obtain ⟨p1, p2, p3⟩ := minus_lv HY.out.lt HX.out.lt HLE.out
      refine exit_add s1 rfl rfl ⟨_, rfl, HS1.out.below.trans (s2.mono (by omega)), !m1, _, _, rfl, ?_, p1, by rw [p2, valS_sub2 m1 HLE.out], by omega⟩
      exact owns_stay (HO1.out.mono (Nat.zero_le _)) (fun r hr => (by
        have := (HO1.out.lt r hr).1
        rw [setCell_other (by simp at this; omega), setCell_other (by simp at this; omega)]))
end Go.Proofs.YtklgpilgalfckaaGreatDoor
namespace Go.KP
open Go

structure Of (C : World → Prop) where
  w : World
  h : C w
abbrev Cls (C : World → Prop) (w : World) : Prop := ∃ x : Of C, w = x.w
theorem Cls.mk {C : World → Prop} {w : World} (h : C w) : Cls C w := ⟨⟨w, h⟩, rfl⟩
theorem Cls.out {C : World → Prop} {w : World} (h : Cls C w) : C w := by
  obtain ⟨x, rfl⟩ := h
  exact x.h

section
variable {P : Program} {md : Region.Mode} {C : World → Prop}

def waits (md : Region.Mode) (ops : Array Oper) (i j : Nat) : Prop := ∃ o, ops[i]? = some o ∧ ∃ e ∈ o.after, Region.binds md e = true ∧ e.on = j
theorem ready_iff {ops : Array Oper} {listed : Array Bool} {i : Nat} : i ∈ Region.ready md ops listed ↔ i < ops.size ∧ listed.getD i true = false ∧ ∀ j, waits md ops i j → listed.getD j false = true := by
  unfold Region.ready
  rw [List.mem_filter, List.mem_range]
  constructor
  · rintro ⟨h1, h2⟩
    simp only [Bool.and_eq_true, Bool.not_eq_true'] at h2
    refine ⟨h1, h2.1, ?_⟩
    rintro j ⟨o, ho, e, he, hb, rfl⟩
    have h3 := h2.2
    rw [ho] at h3
    simp only [Option.map_some, Option.getD_some, Array.all_eq_true_iff_forall_mem] at h3
    have h4 := h3 e he
    rw [hb] at h4
    simpa using h4
  · rintro ⟨h1, h2, h3⟩
    refine ⟨h1, ?_⟩
    simp only [Bool.and_eq_true, Bool.not_eq_true']
    refine ⟨h2, ?_⟩
    rw [Array.getElem?_eq_getElem h1]
    simp only [Option.map_some, Option.getD_some, Array.all_eq_true_iff_forall_mem]
    intro e he
    by_cases hb : Region.binds md e = true
    · rw [h3 e.on ⟨_, Array.getElem?_eq_getElem h1, e, he, hb, rfl⟩]
      simp
    · simp [hb]

def waitsB (md : Region.Mode) (l : List Oper) (i j : Nat) : Bool := match l[i]? with
  | some o => o.after.any fun e => Region.binds md e && e.on == j
  | none => false
theorem waitsB_iff {l : List Oper} {i j : Nat} : waitsB md l i j = true ↔ waits md l.toArray i j := by
  unfold waitsB waits
  rw [List.getElem?_toArray]
  cases l[i]? with
  | none => simp
  | some o =>
    simp only [Option.some.injEq, exists_eq_left']
    rw [Array.any_eq_true]
    simp only [Bool.and_eq_true, beq_iff_eq]
    constructor
    · rintro ⟨i, h, h1, h2⟩
      exact ⟨_, Array.getElem_mem h, h1, h2⟩
    · rintro ⟨e, he, h1, h2⟩
      obtain ⟨i, h, rfl⟩ := Array.mem_iff_getElem.1 he
      exact ⟨i, h, h1, h2⟩

def gateB (md : Region.Mode) (l : List Oper) (k n : Nat) : Bool :=
  ((List.range n).all fun i => match l[i]? with
    | some o => o.guard.isNone && o.after.all fun e => !Region.binds md e || decide (e.on < i)
    | none => false) &&
  ((List.range l.length).all fun r => decide (r < n) || (List.range l.length).any (fun j => decide (n ≤ j) && waitsB md l r j) ||
    (List.range n).all fun j => decide (j < k) || waitsB md l r j || (List.range n).any fun m => decide (j < m) && waitsB md l m j)
theorem gate_before {l : List Oper} {k n : Nat} (h : gateB md l k n = true) (i : Nat) (hi : i < n) : i < l.length ∧ (∀ o, l[i]? = some o → o.guard = none) ∧ ∀ j, waits md l.toArray i j → j < i := by
  unfold gateB at h
  rw [Bool.and_eq_true] at h
  have h1 := (List.all_eq_true.1 h.1) i (List.mem_range.2 hi)
  cases ho : l[i]? with
  | none => rw [ho] at h1; cases h1
  | some o =>
    rw [ho] at h1
    simp only [Bool.and_eq_true, Option.isNone_iff_eq_none, Array.all_eq_true_iff_forall_mem] at h1
    refine ⟨(List.getElem?_eq_some_iff.1 ho).1, fun o2 h2 => by cases h2; exact h1.1, ?_⟩
    rintro j ⟨o2, ho2, e, he, hb, rfl⟩
    rw [List.getElem?_toArray, ho] at ho2
    cases ho2
    have h4 := h1.2 e he
    rw [hb] at h4
    simpa using h4
theorem gate_behind {l : List Oper} {k n : Nat} (h : gateB md l k n = true) (r : Nat) (hr : r < l.length) (hn : n ≤ r) : (∃ j, n ≤ j ∧ waits md l.toArray r j) ∨ ∀ j, j < n → j < k ∨ waits md l.toArray r j ∨ ∃ m, m < n ∧ j < m ∧ waits md l.toArray m j := by
  unfold gateB at h
  rw [Bool.and_eq_true] at h
  have h1 := (List.all_eq_true.1 h.2) r (List.mem_range.2 hr)
  simp only [Bool.or_eq_true, decide_eq_true_eq, List.any_eq_true, List.all_eq_true, List.mem_range, Bool.and_eq_true] at h1
  rcases h1 with (h1 | ⟨j, _, h2, h3⟩) | h1
  · omega
  · exact .inl ⟨j, h2, waitsB_iff.1 h3⟩
  · refine .inr fun j hj => ?_
    rcases h1 j hj with (h2 | h2) | ⟨m, h2, h3, h4⟩
    · exact .inl h2
    · exact .inr (.inl (waitsB_iff.1 h2))
    · exact .inr (.inr ⟨m, h2, h3, waitsB_iff.1 h4⟩)

def padded (L : Array Bool) (m : Nat) : Array Bool := L ++ Array.replicate m false
theorem padded_f {L : Array Bool} {m j : Nat} : (padded L m).getD j false = L.getD j false := by
  unfold padded
  simp only [Array.getD_eq_getD_getElem?]
  by_cases h : j < L.size
  · rw [Array.getElem?_append_left h]
  · rw [Array.getElem?_append_right (by omega), Array.getElem?_eq_none (xs := L) (by omega)]
    by_cases h2 : j - L.size < m
    · simp [h2]
    · simp [h2]
theorem padded_t {L : Array Bool} {m j : Nat} (h : j < L.size) : (padded L m).getD j true = L.getD j true := by
  unfold padded
  simp only [Array.getD_eq_getD_getElem?]
  rw [Array.getElem?_append_left h]
theorem padded_set {L : Array Bool} {m j : Nat} (h : j < L.size) : (padded L m).setIfInBounds j true = padded (L.setIfInBounds j true) m := by
  unfold padded
  rw [Array.setIfInBounds_append_left h]
theorem getD_tf {L : Array Bool} {j : Nat} (h : j < L.size) : L.getD j true = L.getD j false := by
  simp [h]
def down (md : Region.Mode) (ops : Array Oper) (L : Array Bool) : Prop := ∀ i j, L.getD i false = true → waits md ops i j → L.getD j false = true
theorem waits_take {l : List Oper} {n i j : Nat} (hi : i < n) : waits md (l.take n).toArray i j ↔ waits md l.toArray i j := by
  unfold waits
  simp only [List.getElem?_toArray, List.getElem?_take, hi, if_true]

theorem some_ready {l : List Oper} {k n : Nat} (hg : gateB md l k n = true) {L : Array Bool} (hL : L.size = n) : ∀ j, j < n → L.getD j false = false → ∃ i, i ∈ Region.ready md (l.take n).toArray L := by
  intro j
  induction j using Nat.strongRecOn with
  | _ j ih =>
    intro hj hf
    by_cases hall : ∀ m, waits md (l.take n).toArray j m → L.getD m false = true
    · refine ⟨j, ready_iff.2 ⟨by simp; have := (gate_before hg j hj).1; omega, ?_, hall⟩⟩
      rw [getD_tf (by omega)]
      exact hf
    · obtain ⟨m, hm⟩ := Classical.not_forall.1 hall
      obtain ⟨h1, h2⟩ := Classical.not_imp.1 hm
      have h3 := (gate_before hg j hj).2.2 m ((waits_take hj).1 h1)
      exact ih m h3 (by omega) (by simpa using h2)

theorem count_set {L : Array Bool} {i : Nat} (hi : i < L.size) (hf : L.getD i false = false) : (L.setIfInBounds i true).toList.count false + 1 = L.toList.count false := by
  have hi' : i < L.toList.length := by simpa using hi
  have h1 : L.toList[i]? = some false := by
    rw [List.getElem?_eq_getElem hi']
    simpa [hi] using hf
  rw [Array.toList_setIfInBounds]
  clear hf hi
  generalize L.toList = l at *
  induction l generalizing i with
  | nil => simp at hi'
  | cons b r ih =>
    cases i with
    | zero =>
      simp at h1
      subst h1
      simp
    | succ i =>
      simp only [List.set_cons_succ, List.count_cons]
      have := ih (i := i) (by simpa using hi') (by simpa using h1)
      omega

theorem any_prefix {l : List Oper} {Q : Exit → Act → World → Prop} {k n f : Nat} {Qf : Act → Prop} (hg : gateB md l k n = true) (hn : n ≤ l.length)
    (hQf : ∀ a w, C w → Qf a → wpAny P md l.toArray Q f (padded (Array.replicate n true) (l.length - n)) a w) : ∀ (fuel : Nat) (L : Array Bool) (a : Act), L.size = n → down md l.toArray L → (∀ j, j < k → j < n → L.getD j false = true) → L.toList.count false = fuel →
    wpAnyQ P md (l.take n).toArray C Qf fuel L a → ∀ w, C w → wpAny P md l.toArray Q (fuel + f) (padded L (l.length - n)) a w := by
  intro fuel
  induction fuel with
  | zero =>
    intro L a hL hd hk hc h w hw
    have : L = Array.replicate n true := by
      have hne := List.count_eq_zero.1 hc
      apply Array.ext
      · simp [hL]
      · intro i h1 h2
        rw [Array.getElem_replicate]
        cases hx : L[i] with
        | true => rfl
        | false => exact absurd (by rw [← hx]; simp) hne
    subst this
    rw [Nat.zero_add]
    exact hQf a w hw h.2
  | succ fuel ih =>
    intro L a hL hd hk hc h w hw
    obtain ⟨j0, hj0, hjf⟩ : ∃ j, j < n ∧ L.getD j false = false := by
      have hmem : false ∈ L.toList := List.count_pos_iff.1 (by omega)
      obtain ⟨j, hj, hx⟩ := List.mem_iff_getElem.1 hmem
      refine ⟨j, by simpa [hL] using hj, ?_⟩
      have : j < L.size := by simpa using hj
      simpa [this] using hx
    have hpre : ∀ i, i ∈ Region.ready md l.toArray (padded L (l.length - n)) → i < n ∧ i ∈ Region.ready md (l.take n).toArray L := by
      intro i hi
      obtain ⟨h1, h2, h3⟩ := ready_iff.1 hi
      have hin : i < n := by
        rcases Nat.lt_or_ge i n with h | h
        · exact h
        · exfalso
          have hil : i < l.length := by simpa using h1
          rcases gate_behind hg i hil h with ⟨j, hj, hw⟩ | hall
          · have := h3 j hw
            rw [padded_f, Array.getD_eq_getD_getElem?, Array.getElem?_eq_none (by omega)] at this
            simp at this
          · have key : ∀ d j, n - j = d → j < n → L.getD j false = true := by
              intro d
              induction d using Nat.strongRecOn with
              | _ d ihd =>
                intro j hdj hj
                rcases hall j hj with h4 | h4 | ⟨m, h4, h5, h6⟩
                · exact hk j h4 hj
                · have := h3 j h4
                  rwa [padded_f] at this
                · exact hd m j (ihd (n - m) (by omega) m rfl h4) h6
            have := key _ j0 rfl hj0
            rw [hjf] at this
            cases this
      refine ⟨hin, ready_iff.2 ⟨by simp; omega, ?_, fun j hj => ?_⟩⟩
      · rwa [padded_t (by omega)] at h2
      · have := h3 j ((waits_take hin).1 hj)
        rwa [padded_f] at this
    have hback : ∀ i, i ∈ Region.ready md (l.take n).toArray L → i ∈ Region.ready md l.toArray (padded L (l.length - n)) := by
      intro i hi
      obtain ⟨h1, h2, h3⟩ := ready_iff.1 hi
      have hin : i < n := by simp at h1; omega
      refine ready_iff.2 ⟨by simp; omega, ?_, fun j hj => ?_⟩
      · rwa [padded_t (by omega)]
      · rw [padded_f]
        exact h3 j ((waits_take hin).2 hj)
    rw [Nat.add_right_comm]
    refine ⟨fun h0 => ?_, fun i hi => ?_⟩
    · obtain ⟨i, hi⟩ := some_ready hg hL j0 hj0 hjf
      have := hback i hi
      rw [h0] at this
      cases this
    · obtain ⟨hin, hr⟩ := hpre i hi
      have hq := h.2 i hr
      obtain ⟨r1, r2, r3⟩ := ready_iff.1 hr
      have hiL : i < L.size := by omega
      have hfi : L.getD i false = false := by rw [← getD_tf hiL]; exact r2
      obtain ⟨b1, b2, b3⟩ := gate_before hg i hin
      have hd' : down md l.toArray (L.setIfInBounds i true) := by
        intro x y hx hxy
        have hmono : ∀ y, L.getD y false = true → (L.setIfInBounds i true).getD y false = true := by
          intro y hy
          by_cases hyi : y = i
          · subst hyi; rw [hfi] at hy; cases hy
          · simpa [Array.getD_eq_getD_getElem?, Array.getElem?_setIfInBounds_ne (Ne.symm hyi)] using hy
        by_cases hxi : x = i
        · subst hxi
          exact hmono y (r3 y ((waits_take hin).2 hxy))
        · have hx' : L.getD x false = true := by simpa [Array.getD_eq_getD_getElem?, Array.getElem?_setIfInBounds_ne (Ne.symm hxi)] using hx
          exact hmono y (hd x y hx' hxy)
      have hk' : ∀ j, j < k → j < n → (L.setIfInBounds i true).getD j false = true := by
        intro j h1 h2
        have hj := hk j h1 h2
        by_cases hji : j = i
        · subst hji; rw [hfi] at hj; cases hj
        · simpa [Array.getD_eq_getD_getElem?, Array.getElem?_setIfInBounds_ne (Ne.symm hji)] using hj
      have hnext : ∀ a' w', C w' → wpAnyQ P md (l.take n).toArray C Qf fuel (L.setIfInBounds i true) a' → wpAny P md l.toArray Q (fuel + f) ((padded L (l.length - n)).setIfInBounds i true) a' w' := by
        intro a' w' hw' h'
        rw [padded_set hiL]
        exact ih _ a' (by simpa using hL) hd' hk' (by have := count_set hiL hfi; omega) h' w' hw'
      unfold qOp at hq
      unfold wpOp
      have e1 : (l.take n).toArray[i]? = some l[i] := by simp [hin, b1]
      have e2 : l.toArray[i]? = some l[i] := by simp [b1]
      rw [e1] at hq
      rw [e2]
      have hgd : l[i].guard = none := b2 _ (List.getElem?_eq_getElem b1)
      have hw1 : ∀ ys, Region.wanted l[i] ys = true := fun ys => by simp [Region.wanted, hgd]
      simp only [hw1, if_true] at hq ⊢
      exact .inl (Oper.wp_of_quiet hw hnext hq)

def seqB (md : Region.Mode) (l : List Oper) (n : Nat) : Bool := (List.range l.length).all fun r => decide (r < n) || ((decide (r ≤ n) || waitsB md l r (r - 1)) && (List.range l.length).all fun j => !waitsB md l r j || decide (j < r)) && match l[r]? with
  | some o => o.after.all fun e => !Region.binds md e || decide (e.on < r)
  | none => true
theorem seq_waits {l : List Oper} {n : Nat} (h : seqB md l n = true) (r : Nat) (hr : r < l.length) (hn : n ≤ r) : (n < r → waits md l.toArray r (r - 1)) ∧ ∀ j, waits md l.toArray r j → j < r := by
  unfold seqB at h
  have h1 := (List.all_eq_true.1 h) r (List.mem_range.2 hr)
  simp only [Bool.or_eq_true, Bool.and_eq_true, decide_eq_true_eq] at h1
  rcases h1 with h1 | ⟨⟨h1, _⟩, h3⟩
  · omega
  · refine ⟨fun h2 => ?_, ?_⟩
    · rcases h1 with h1 | h1
      · omega
      · exact waitsB_iff.1 h1
    · rintro j ⟨o, ho, e, he, hb, rfl⟩
      rw [List.getElem?_toArray] at ho
      rw [ho] at h3
      simp only [Array.all_eq_true_iff_forall_mem] at h3
      have h4 := h3 e he
      rw [hb] at h4
      simpa using h4

theorem any_seq {l : List Oper} {Q : Exit → Act → World → Prop} {n : Nat} (hs : seqB md l n = true) : ∀ (rest : List Oper) (s : Nat) (a : Act) (w : World), (∀ j, rest[j]? = l[s + j]?) → n ≤ s → rest.length + s = l.length →
    wpList P l.toArray Q rest a w → wpAny P md l.toArray Q rest.length (padded (Array.replicate s true) (l.length - s)) a w := by
  intro rest
  induction rest with
  | nil =>
    intro s a w _ hns hlen h
    refine ⟨List.eq_nil_iff_forall_not_mem.2 fun i hi => ?_, h⟩
    obtain ⟨h1, h2, _⟩ := ready_iff.1 hi
    have h3 : i < l.length := by simpa using h1
    simp at hlen
    rw [padded_t (by simp; omega)] at h2
    simp [show i < s by omega] at h2
  | cons o rest ih =>
    intro s a w hl hns hlen h
    have hsl : s < l.length := by simp at hlen; omega
    have ho : l[s]? = some o := by simpa using (hl 0).symm
    have hrs : s ∈ Region.ready md l.toArray (padded (Array.replicate s true) (l.length - s)) := by
      refine ready_iff.2 ⟨by simpa using hsl, ?_, fun j hj => ?_⟩
      · unfold padded
        rw [Array.getD_eq_getD_getElem?, Array.getElem?_append_right (by simp)]
        simp [show 0 < l.length - s by omega]
      · have := (seq_waits hs s hsl hns).2 j hj
        rw [padded_f]
        simp [this]
    have honly : ∀ i, i ∈ Region.ready md l.toArray (padded (Array.replicate s true) (l.length - s)) → i = s := by
      intro i hi
      obtain ⟨h1, h2, h3⟩ := ready_iff.1 hi
      have h1' : i < l.length := by simpa using h1
      rcases Nat.lt_trichotomy i s with h4 | h4 | h4
      · rw [padded_t (by simpa using h4)] at h2
        simp [h4] at h2
      · exact h4
      · have := h3 (i - 1) ((seq_waits hs i h1' (by omega)).1 (by omega))
        rw [padded_f] at this
        simp [show ¬ i - 1 < s by omega] at this
    refine ⟨fun h0 => (by rw [h0] at hrs; cases hrs), fun i hi => ?_⟩
    obtain rfl := honly i hi
    have hset : (padded (Array.replicate i true) (l.length - i)).setIfInBounds i true = padded (Array.replicate (i + 1) true) (l.length - (i + 1)) := by
      unfold padded
      apply Array.ext
      · simp; omega
      · intro j h1 h2
        simp at h1 h2
        rw [Array.getElem_setIfInBounds (by simp; omega)]
        by_cases hj : i = j
        · simp [hj]
        · rw [if_neg hj]
          rcases Nat.lt_or_ge j i with h3 | h3
          · rw [Array.getElem_append_left (by simpa using h3), Array.getElem_append_left (by simp; omega)]
            simp
          · rw [Array.getElem_append_right (by simpa using h3), Array.getElem_append_right (by simp; omega)]
            simp
    have hnext : ∀ a' w', wpList P l.toArray Q rest a' w' → wpAny P md l.toArray Q rest.length ((padded (Array.replicate i true) (l.length - i)).setIfInBounds i true) a' w' := by
      intro a' w' h'
      rw [hset]
      exact ih (i + 1) a' w' (fun j => by have := hl (j + 1); simpa [Nat.add_assoc, Nat.add_comm 1 j] using this) (by omega) (by simp at hlen; omega) h'
    unfold wpOp
    rw [List.getElem?_toArray, ho]
    unfold wpList at h
    by_cases hw : Region.wanted o (yielded l.toArray a.tmps) = true
    · simp only [hw, if_true] at h ⊢
      exact h.imp (fun h => Oper.wp_mono hnext h) id
    · simp only [hw] at h ⊢
      exact hnext _ _ h

theorem region_prefix {id : Nat} {Q : Exit → Act → World → Prop} {a : Act} {w : World} {l : List Oper} (n : Nat) (hm : P.follows .mixedOrders = true) (hn : n ≤ l.length) (hno : Region.noSelect (l.take n).toArray = true)
    (hlex : Region.lexFrom .any (l.take n).toArray n 0 (Array.replicate n false) = true) (hg : gateB .any l 0 n = true) (hs : seqB .any l n = true) (hC : C { w with drawn := w.drawn + 1 })
    (h : wpQuiet P (l.take n).toArray C (fun a' => ∀ w', C w' → wpList P l.toArray Q (l.drop n) a' w') (l.take n) a) : (Code.region id l.toArray true).wp P Q a w := by
  refine wp_region_any hm ?_
  have hlt : (l.take n).length = n := by simp; omega
  have h1 := wpAnyQ_lex (P := P) (C := C) (md := .any) hno (l.take n) 0 (Array.replicate n false) a (by simp) (by rw [hlt]; exact hlex) h
  rw [hlt] at h1
  have h2 := any_prefix (P := P) (C := C) (Q := Q) (f := (l.drop n).length) (Qf := fun a' => ∀ w', C w' → wpList P l.toArray Q (l.drop n) a' w') hg hn (fun a2 w2 hw2 h3 => any_seq hs (l.drop n) n a2 w2 (fun j => by simp) (Nat.le_refl _) (by simp; omega) (h3 w2 hw2))
    n (Array.replicate n false) a (by simp) (fun i j hi => by simp [Array.getD_eq_getD_getElem?, Array.getElem?_replicate] at hi; split at hi <;> simp at hi) (fun j hj => by omega) (by simp) h1 _ hC
  have e : padded (Array.replicate n false) (l.length - n) = Array.replicate l.toArray.size false := by
    unfold padded
    rw [Array.replicate_append_replicate]
    congr 1
    simp
    omega
  rw [e] at h2
  have e2 : n + (l.drop n).length = l.toArray.size := by simp; omega
  rwa [e2] at h2

end

open Go

section
variable {P : Program} {C : World → Prop}
theorem round_prefix {id : Nat} {Q : Exit → Act → World → Prop} {a : Act} {w : World} {l : List Oper} {r : Nat} (n : Nat) (hm : P.follows .mixedOrders = true) (hn : n ≤ l.length) (hno : Region.noSelect (l.take n).toArray = true)
    (hlex : Region.lexFrom .any (l.take n).toArray n 0 (Array.replicate n false) = true) (hg : gateB .any l 0 n = true) (hs : seqB .any l n = true) (hd : noDefer l.toArray = true) (hC : C { w with drawn := w.drawn + 1 })
    (h : wpQuiet P (l.take n).toArray C (fun a' => ∀ w', C w' → wpList P l.toArray (fun e a2 w2 => e = .normal ∧ Q .normal a2 w2) (l.drop n) a' w') (l.take n) a) : (Code.region id l.toArray true).wpIn (Fence.wide.inRound r) 0 P Q a w := by
  refine wpIn_mono (Q := fun e a2 w2 => e = .normal ∧ Q .normal a2 w2) (wpIn_region_draw fun t => ?_) (fun e a2 w2 ⟨he, hq⟩ => by rw [he]; exact hq)
  refine opsIn_of_ops (fun _ _ hx => by cases hx.1) (noDefer_spec hd) _ _ _ ?_
  simp only [Region.schedule, hm, Bool.true_or, if_true]
  refine wpAny_sound l.toArray.size t _ a _ ?_
  have hlt : (l.take n).length = n := by simp; omega
  have h1 := wpAnyQ_lex (P := P) (C := C) (md := .any) hno (l.take n) 0 (Array.replicate n false) a (by simp) (by rw [hlt]; exact hlex) h
  rw [hlt] at h1
  have h2 := any_prefix (P := P) (C := C) (Q := fun e a2 w2 => e = .normal ∧ Q .normal a2 w2) (f := (l.drop n).length) (Qf := fun a' => ∀ w', C w' → wpList P l.toArray (fun e a2 w2 => e = .normal ∧ Q .normal a2 w2) (l.drop n) a' w') hg hn (fun a2 w2 hw2 h3 => any_seq hs (l.drop n) n a2 w2 (fun j => by simp) (Nat.le_refl _) (by simp; omega) (h3 w2 hw2))
    n (Array.replicate n false) a (by simp) (fun i j hi => by simp [Array.getD_eq_getD_getElem?, Array.getElem?_replicate] at hi; split at hi <;> simp at hi) (fun j hj => by omega) (by simp) h1 _ hC
  have e : padded (Array.replicate n false) (l.length - n) = Array.replicate l.toArray.size false := by
    unfold padded
    rw [Array.replicate_append_replicate]
    congr 1
    simp
    omega
  rw [e] at h2
  have e2 : n + (l.drop n).length = l.toArray.size := by simp; omega
  rwa [e2] at h2
end
end Go.KP
namespace Go.Proofs.YtklgpilgalfckaaGreatDoor
open Go.RowKit Go.KP Go.KI Go.Shelf
attribute [local go_sem] Oper.semAt_some

structure ReadL (ds : List UInt8) (k : Nat) (L : List Nat) (U : Nat) : Prop where
  len : L.length = (ds.length + 8) / 9
  lt : Lt 1000000000 L
  val : lv 1000000000 L = dv (ds.drop (ds.length - k))
  top : lat L (k / 9) < 10 ^ (k % 9)
  rest : ∀ j, k / 9 < j → lat L j = 0
  unit : U ≤ 1000000000 ∧ (k % 9 ≠ 0 → U = 10 ^ (k % 9))
theorem ReadL.start (ds : List UInt8) : ReadL ds 0 (zeros ((ds.length + 8) / 9)) 1 := by
  refine ⟨zeros_len _, zeros_lt _ _ (by omega), ?_, ?_, ?_, by omega, fun h => by simp at h⟩
  · rw [Nat.sub_zero, List.drop_length, zeros, lv_zeros]
    rfl
  · have : lat (zeros ((ds.length + 8) / 9)) (0 / 9) = 0 := by
      unfold lat zeros
      rw [List.getElem?_replicate]
      split <;> rfl
    rw [this]
    simp
  · intro j hj
    unfold lat zeros
    rw [List.getElem?_replicate]
    split <;> rfl
theorem pow10_le {r : Nat} (h : r ≤ 9) : 10 ^ r ≤ 1000000000 := by
  have : 10 ^ r ≤ 10 ^ 9 := Nat.pow_le_pow_right (by omega) h
  simpa using this
def unitAt (k U : Nat) : Nat := if k % 9 = 0 then 1 else U
theorem ReadL.unitEq {ds : List UInt8} {k U : Nat} {L : List Nat} (h : ReadL ds k L U) : unitAt k U = 10 ^ (k % 9) := by
  unfold unitAt
  by_cases h0 : k % 9 = 0
  · rw [if_pos h0, h0]
  · rw [if_neg h0, h.unit.2 h0]
theorem ReadL.step {ds : List UInt8} {k U : Nat} {L : List Nat} (h : ReadL ds k L U) (hk : k < ds.length) (hd : ∀ c ∈ ds, isDg c = true) :
    k / 9 < L.length ∧ digAt ds k ≤ 9 ∧ lat L (k / 9) + digAt ds k * unitAt k U < 1000000000 ∧ unitAt k U * 10 ≤ 1000000000 ∧ ReadL ds (k + 1) (L.set (k / 9) (lat L (k / 9) + digAt ds k * unitAt k U)) (unitAt k U * 10) := by
  have hq : k / 9 < L.length := by rw [h.len]; omega
  obtain ⟨c, hc⟩ : ∃ c, ds[ds.length - 1 - k]? = some c := ⟨_, List.getElem?_eq_getElem (by omega)⟩
  have hdg := isDg_iff.1 (hd c (List.mem_of_getElem? hc))
  have hda : digAt ds k = c.toNat - 48 := by
    unfold digAt
    rw [hc]
    rfl
  have hd9 : digAt ds k ≤ 9 := by omega
  have hu := h.unitEq
  have hr : k % 9 < 9 := Nat.mod_lt _ (by omega)
  have hp1 : 10 ^ (k % 9 + 1) ≤ 1000000000 := pow10_le (by omega)
  have hp2 : 10 ^ (k % 9 + 1) = 10 ^ (k % 9) * 10 := Nat.pow_succ ..
  have ht := h.top
  have hm : digAt ds k * 10 ^ (k % 9) ≤ 9 * 10 ^ (k % 9) := Nat.mul_le_mul_right _ hd9
  rw [hu]
  have hv : lat L (k / 9) + digAt ds k * 10 ^ (k % 9) < 10 ^ (k % 9 + 1) := by omega
  refine ⟨hq, hd9, by omega, by omega, ⟨by rw [List.length_set]; exact h.len, lt_set h.lt (by omega), ?_, ?_, ?_, by omega, ?_⟩⟩
  · have h1 := lv_set (b := 1000000000) (lat L (k / 9) + digAt ds k * 10 ^ (k % 9)) hq
    have e : 1000000000 ^ (k / 9) * (digAt ds k * 10 ^ (k % 9)) = digAt ds k * 10 ^ k := by
      have e1 : (1000000000 : Nat) ^ (k / 9) = 10 ^ (9 * (k / 9)) := by rw [Nat.pow_mul]
      have e2 : 10 ^ k = 10 ^ (9 * (k / 9)) * 10 ^ (k % 9) := by
        rw [← Nat.pow_add]
        congr 1
        omega
      rw [e1, e2]
      grind
    rw [Nat.mul_add] at h1
    have h2 : ds.drop (ds.length - (k + 1)) = [c] ++ ds.drop (ds.length - k) := by
      rw [show ds.length - (k + 1) = ds.length - 1 - k by omega]
      have h3 := List.drop_eq_getElem_cons (l := ds) (i := ds.length - 1 - k) (by omega)
      rw [h3, show ds.length - 1 - k + 1 = ds.length - k by omega]
      rw [List.getElem?_eq_getElem (by omega)] at hc
      injection hc with hc
      rw [hc]
      rfl
    rw [h2, dv_append, ← h.val, List.length_drop, show ds.length - (ds.length - k) = k by omega]
    have h4 : dv [c] = digAt ds k := by
      rw [hda]
      show 0 * 10 + (c.toNat - 48) = _
      omega
    rw [h4]
    omega
  · by_cases h8 : k % 9 = 8
    · have e1 : (k + 1) / 9 = k / 9 + 1 := by omega
      have e2 : (k + 1) % 9 = 0 := by omega
      rw [e1, e2, lat_set hq, if_neg (by omega), h.rest _ (by omega)]
      simp
    · have e1 : (k + 1) / 9 = k / 9 := by omega
      have e2 : (k + 1) % 9 = k % 9 + 1 := by omega
      rw [e1, e2, lat_set hq, if_pos rfl]
      exact hv
  · intro j hj
    rw [lat_set hq, if_neg (by omega)]
    exact h.rest j (by omega)
  · intro hne
    have e2 : (k + 1) % 9 = k % 9 + 1 := by omega
    rw [e2, hp2]
theorem valI_S (l : List UInt8) : valI l = valS (decide (l.head? = some 45)) (dv (digs l)) := by
  unfold valI valS
  by_cases h : l.head? = some 45
  · simp [h]
  · simp [h]
theorem exit_read {tmps : Array Value} {W : World} {b : Nat} {m : Bool} {v : Value} (hb : W.heap[b]? = some (.cells #[.bool m, v] 207 (0, 0)))
    (h2 : tmps[2]? = some (.pointer (some ⟨b, 0, none⟩))) : (results Tryz.f169 tmps).run Tryz.prog W = .ok (numV m v) W := by
  have hcell := fun o => cell_blk hb o
  simp [results, go_sem, hcell, h2]
theorem read_any (s : ByteArray) (hs : s.size ≤ 700000) (hd : ∀ c ∈ digs s.data.toList, isDg c = true) (w : World) :
    Calls Tryz.prog 169 #[.string s] w (RetEx w (NumOf (valI s.data.toList))) := by
  obtain ⟨t, ht⟩ : ∃ t, t = strB (digs s.data.toList) := ⟨_, rfl⟩
  have htl : t.data.toList = digs s.data.toList := by rw [ht]; exact strB_list _
  obtain ⟨mi, hmi⟩ : ∃ mi, mi = decide (s.data.toList.head? = some 45) := ⟨_, rfl⟩
  have hts : t.size ≤ 700000 := by
    rw [← bytes_len, htl]
    have : (digs s.data.toList).length ≤ s.data.toList.length := by
      cases s.data.toList with
      | nil => exact Nat.le_refl _
      | cons c r =>
        simp only [digs]
        split <;> simp
    rw [bytes_len] at this
    omega
  have HCP := hide (fun w => cutPrefix_any s w)
  rw [← ht, ← hmi] at HCP
  have HV := hide (valI_S s.data.toList)
  rw [← hmi, ← htl] at HV
  rw [← htl] at hd
  have HD := hide hd
  obtain ⟨n, hn⟩ : ∃ n, n = (t.size + 8) / 9 := ⟨_, rfl⟩
  have hn2 : ((t.size : Int) + 9 - 1) / 9 = (n : Int) := by omega
  have hmk := make_ints n (by omega)
  have HN := hide hn
  clear ht htl hmi hd hn
  obtain ⟨r0, rs0, rb0⟩ := heap1 w (.cells #[.bool false, .slice none 0 0] 207)
  refine (callsIn_wide (n := 0)).1 ?_
  refine callsIn_of_wp_marks Tryz.func169 rfl trivial ?_ rfl
  simp only [Tryz.ntmps169, List.size_toArray, List.length_cons, List.length_nil, Nat.reduceAdd, Nat.reduceSub, Array.replicate_succ, Array.replicate_zero, List.push_toArray, List.append_toArray, List.nil_append, List.cons_append]
  have R0 := hide r0; have RB0 := hide rb0
  clear r0 rs0 rb0
  gi_wp2_with fail
  refine ⟨trivial, rfl, (callsIn_wide.2 (HCP.out _)).mono ?_⟩
  rintro e w1 ⟨rfl, rfl⟩
  gi_wp2_with fail
  refine ⟨trivial, rfl, (callsIn_wide.2 (digits_any t _)).mono ?_⟩
  rintro e w1 ⟨rfl, hw1⟩
  gi_wp2_with fail
  obtain ⟨a1, as1, ab1⟩ := heap1 (w.alloc (.cells #[.bool false, .slice none 0 0] 207)) (rowO (zeros n))
  obtain ⟨a2, as2, ab2⟩ := heap1 ((w.alloc (.cells #[.bool false, .slice none 0 0] 207)).alloc (rowO (zeros n))) (.cells #[.bool mi, .slice (some ⟨w.heap.size + 1, 0, none⟩) n n] 207)
  obtain ⟨a3, as3, ab3⟩ := heap1 (((w.alloc (.cells #[.bool false, .slice none 0 0] 207)).alloc (rowO (zeros n))).alloc (.cells #[.bool mi, .slice (some ⟨w.heap.size + 1, 0, none⟩) n n] 207)) (.cells #[.int .i64 1] 3)
  obtain ⟨a4, as4, ab4⟩ := heap1 ((((w.alloc (.cells #[.bool false, .slice none 0 0] 207)).alloc (rowO (zeros n))).alloc (.cells #[.bool mi, .slice (some ⟨w.heap.size + 1, 0, none⟩) n n] 207)).alloc (.cells #[.int .i64 1] 3)) (.cells #[.string t] 9)
  have z0 : (w.alloc (.cells #[.bool false, .slice none 0 0] 207)).heap.size = w.heap.size + 1 := by simp
  rw [z0] at a1 as1 ab1
  rw [as1] at a2 as2 ab2
  rw [as2] at a3 as3 ab3
  rw [as3] at a4 as4 ab4
  have e0 := below_blk ab4 (below_blk ab3 (below_blk ab2 (below_blk ab1 R0.out (by omega)) (by omega)) (by omega)) (by omega)
  have e1 := below_blk ab4 (below_blk ab3 (below_blk ab2 a1 (by omega)) (by omega)) (by omega)
  have e2 := below_blk ab4 (below_blk ab3 a2 (by omega)) (by omega)
  have e3 := below_blk ab4 a3 (by omega)
  have hbw := RB0.out.trans ((ab1.trans ((ab2.trans ((ab3.trans (ab4.mono (by omega))).mono (by omega))).mono (by omega))).mono (by omega))
  rw [hw1] at e0 e1 e2 e3 a4 as4 hbw
  have E0 := hide e0; have E1 := hide e1; have E2 := hide e2; have E3 := hide e3; have E4 := hide a4; have EB := hide hbw
  have hs1 : w.heap.size + 5 = w1.heap.size := by omega
  clear a1 as1 ab1 a2 as2 ab2 a3 as3 ab3 a4 as4 ab4 z0 e0 e1 e2 e3 hbw hw1 R0 RB0 hmk
  have hdl : (t.data.toList.length + 8) / 9 = n := by rw [bytes_len]; exact HN.out.symm
  have HDL := hide hdl
  clear hdl
  refine wp_iter_on (gf := 248) (lb := #[.pointer (some ⟨w.heap.size + 1 + 1 + 1 + 1, 0, none⟩)]) rfl (enters_of Tryz.func248 (by kernel_rfl) rfl) (digitSeq_any (w.heap.size + 1 + 1 + 1 + 1) t (by omega) HD.out) (fun _ => rfl)
    (fun k S W => S = (fun _ => False) ∧ W.heap[w.heap.size]? = some (.cells #[.bool false, .slice none 0 0] 207 (0, 0)) ∧ W.heap[w.heap.size + 1 + 1]? = some (.cells #[.bool mi, .slice (some ⟨w.heap.size + 1, 0, none⟩) n n] 207 (0, 0)) ∧ W.heap[w.heap.size + 1 + 1 + 1 + 1]? = some (.cells #[.string t] 9 (0, 0)) ∧ Below w.heap.size w W ∧
      ∃ (L : List Nat) (U : Nat), ReadL t.data.toList k L U ∧ W.heap[w.heap.size + 1]? = some (rowO L) ∧ W.heap[w.heap.size + 1 + 1 + 1]? = some (.cells #[.int .i64 U] 3 (0, 0)))
    (fun _ _ _ => False) ?hI (fun _ _ _ _ h _ => h) ?h0 ?hke
    (fun k S a1' W => a1' = { tmps := #[.string s, undef, .pointer (some ⟨w.heap.size, 0, none⟩), .string t, .bool mi, .pointer (some ⟨w.heap.size + 1 + 1, 0, none⟩), .pointer (some ⟨w.heap.size + 1 + 1 + 1, 0, none⟩), .int .i64 k, .int .i64 (digAt t.data.toList k), .tuple #[.string t, .bool mi], .string s, .tuple #[.string t, .bool mi], .string t, .bool mi, .bool mi, .string t, .int .i64 t.size, .int .i64 ((t.size : Int) + 9), .int .i64 ((t.size : Int) + 9 - 1), .int .i64 n, .slice (some ⟨w.heap.size + 1, 0, none⟩) n n, .agg #[.bool mi, .slice (some ⟨w.heap.size + 1, 0, none⟩) n n], .string t, .func (.func 248) #[] #[.pointer (some ⟨w.heap.size + 1 + 1 + 1 + 1, 0, none⟩)], .int .i64 k, .int .i64 (digAt t.data.toList k), undef, undef, undef, undef, undef, undef, undef, undef, undef, undef, undef, undef, undef, undef, undef, undef, undef, undef, undef, undef, undef], defers := [] })
    ?hAx ?hassign ?hS ?hbody ?hdone ?hstop
  case hI =>
    rintro k S W W2 ⟨rfl, e0, e2, e4, hb, L, U, hR, e1, e3⟩ hq
    exact ⟨rfl, hq.at_ e0 (.inl (by omega)), hq.at_ e2 (.inl (by omega)), hq.at_ e4 (.inl (by omega)), Quiet.below hb hq (by omega) hb.size, L, U, hR, hq.at_ e1 (.inl (by omega)), hq.at_ e3 (.inl (by omega))⟩
  case h0 =>
    refine ⟨rfl, E0.out, E2.out, E4.out, EB.out, zeros n, 1, ?_, E1.out, E3.out⟩
    have := ReadL.start t.data.toList
    rw [HDL.out] at this
    exact this
  case hke =>
    rintro k S W hk ⟨rfl, e0, e2, e4, hb, _⟩
    exact e4
  case hAx =>
    rintro k S a1' W l r r2 h _
    exact h
  case hassign =>
    intro l k S W K hsz hSlt hK
    gi_wp2
    exact hK _ _ (Quiet.refl _ _ _) (Upd.refl _ _ _) rfl
  case hS =>
    rintro k S W ⟨rfl, _⟩ b hb
    exact hb.elim
  case hstop =>
    intro D c S W _ h
    exact h.elim
  case hbody =>
    rintro l k S a1' W hk ⟨rfl, e0, e2, e4, hb, L, U, hR, e1, e3⟩ rfl hsz
    obtain ⟨s1, s2, s3, s4, s5⟩ := hR.step (by rw [bytes_len]; exact hk) HD.out
    have hLn := hR.len
    rw [HDL.out] at hLn
    have hcell := row_cell e1 s1
    have hfroz := row_froz e1 (k / 9)
    have q2 := cell_blk e2 1
    have q3 := cell_blk e3 0
    have q4 := froz_blk e3 0
    obtain ⟨V, hV⟩ : ∃ V, V = unitAt k U := ⟨_, rfl⟩
    obtain ⟨d, hd⟩ : ∃ d, d = digAt t.data.toList k := ⟨_, rfl⟩
    obtain ⟨Q, hQ⟩ : ∃ Q, Q = lat L (k / 9) := ⟨_, rfl⟩
    rw [← hV, ← hd, ← hQ] at s3 s5
    rw [← hV] at s4
    rw [← hd] at s2 ⊢
    rw [← hQ] at hcell
    have HRN := hide s5; have HBW := hide hb; have W0 := hide e0; have W1 := hide e1; have W2' := hide e2; have W3 := hide e3; have W4 := hide e4
    have hU := hR.unit.1
    obtain ⟨q, hqd⟩ : ∃ q, q = k / 9 := ⟨_, rfl⟩
    rw [← hqd] at hcell hfroz s1 hQ
    have HQC := hide hcell
    have HRN2 := hide (show ReadL t.data.toList (k + 1) (L.set q (Q + d * V)) (V * 10) from hqd ▸ HRN.out)
    have k1 : Int.tdiv (k : Int) 9 = (q : Int) := by rw [Int.tdiv_eq_ediv_of_nonneg (by omega)]; omega
    have k2 : (k : Int) / 9 = (q : Int) := by omega
    have hq0 : (0 : Int) ≤ (q : Int) := by omega
    have hq1 : (q : Int) < (n : Int) := by omega
    have hm : d * V ≤ 9 * 1000000000 := Nat.mul_le_mul s2 (by omega)
    have p0 : (0 : Int) ≤ (d : Int) * (V : Int) := Int.mul_nonneg (by omega) (by omega)
    have p1 : (d : Int) * (V : Int) ≤ 9000000000 := by
      have : ((d * V : Nat) : Int) ≤ 9000000000 := by omega
      rwa [Int.natCast_mul] at this
    have u1 : IntKind.i64.wrap ((d : Int) * (V : Int)) = (d : Int) * (V : Int) := IntWalk.i64_in _ (by omega)
    have u2 : IntKind.i64.wrap ((Q : Int) + (d : Int) * (V : Int)) = (Q : Int) + (d : Int) * (V : Int) := IntWalk.i64_in _ (by omega)
    have v10 : (0 : Int) ≤ (V : Int) := by omega
    have v11 : (V : Int) ≤ 100000000 := by omega
    have HS1 := hide s1
    have hlb : w.heap.size + 1 < W.heap.size := lt_blk W1.out
    have hlb3 : w.heap.size + 1 + 1 + 1 < W.heap.size := lt_blk W3.out
    have HV2 := hide hV
    clear hb e0 e1 e2 e3 e4 hR s1 s3 s4 s5 hV hd hQ hqd hLn HRN
    have hBw1 : w1.heap.size ≤ W.heap.size := hsz
    by_cases hk9 : k % 9 = 0
    case' pos =>
      have t1 : (((k : Int) % 9) == 0) = true := by
        have : (k : Int) % 9 = 0 := by omega
        rw [this]
        rfl
      have HV1 := hide (show V = 1 by rw [HV2.out]; unfold unitAt; rw [if_pos hk9])
      clear hk9
      gi_wp2_with fail
      obtain ⟨Wx, hWx⟩ : ∃ Wx, Wx = W.setCell ⟨w.heap.size + 1 + 1 + 1, 0, none⟩ (.int .i64 1) := ⟨_, rfl⟩
      rw [← hWx]
      have X0 := hide (show Wx.heap[w.heap.size]? = some (.cells #[.bool false, .slice none 0 0] 207 (0, 0)) by rw [hWx]; exact (setCell_other (by omega)).trans W0.out)
      have X1 := hide (show Wx.heap[w.heap.size + 1]? = some (rowO L) by rw [hWx]; exact (setCell_other (by omega)).trans W1.out)
      have X2 := hide (show Wx.heap[w.heap.size + 1 + 1]? = some (.cells #[.bool mi, .slice (some ⟨w.heap.size + 1, 0, none⟩) n n] 207 (0, 0)) by rw [hWx]; exact (setCell_other (by omega)).trans W2'.out)
      have X3 := hide (show Wx.heap[w.heap.size + 1 + 1 + 1]? = some (.cells #[.int .i64 V] 3 (0, 0)) by rw [hWx, HV1.out]; exact Boxed.set (.int .i64 1) W3.out)
      have X4 := hide (show Wx.heap[w.heap.size + 1 + 1 + 1 + 1]? = some (.cells #[.string t] 9 (0, 0)) by rw [hWx]; exact (setCell_other (by omega)).trans W4.out)
      have XB := hide (show Below w.heap.size w Wx by rw [hWx]; exact HBW.out.setCell (p := ⟨w.heap.size + 1 + 1 + 1, 0, none⟩) (by simp; omega) _)
      have XU := hide (show Upd w1.heap.size (fun _ => False) (fun _ => False) W Wx by rw [hWx]; exact (Upd.refl _ _ _).setBox (by simp; omega) _)
      clear hWx HV1 HV2
    case' neg =>
      have t1 : (((k : Int) % 9) == 0) = false := by
        have : (k : Int) % 9 ≠ 0 := by omega
        simpa using this
      have HV1 := hide (show V = U by rw [HV2.out]; unfold unitAt; rw [if_neg hk9])
      clear hk9
      gi_wp2_with fail
      obtain ⟨Wx, hWx⟩ : ∃ Wx, Wx = W := ⟨_, rfl⟩
      rw [← hWx]
      have X0 := hide (show Wx.heap[w.heap.size]? = some (.cells #[.bool false, .slice none 0 0] 207 (0, 0)) by rw [hWx]; exact W0.out)
      have X1 := hide (show Wx.heap[w.heap.size + 1]? = some (rowO L) by rw [hWx]; exact W1.out)
      have X2 := hide (show Wx.heap[w.heap.size + 1 + 1]? = some (.cells #[.bool mi, .slice (some ⟨w.heap.size + 1, 0, none⟩) n n] 207 (0, 0)) by rw [hWx]; exact W2'.out)
      have X3 := hide (show Wx.heap[w.heap.size + 1 + 1 + 1]? = some (.cells #[.int .i64 V] 3 (0, 0)) by rw [hWx, HV1.out]; exact W3.out)
      have X4 := hide (show Wx.heap[w.heap.size + 1 + 1 + 1 + 1]? = some (.cells #[.string t] 9 (0, 0)) by rw [hWx]; exact W4.out)
      have XB := hide (show Below w.heap.size w Wx by rw [hWx]; exact HBW.out)
      have XU := hide (show Upd w1.heap.size (fun _ => False) (fun _ => False) W Wx by rw [hWx]; exact Upd.refl _ _ _)
      clear hWx HV1 HV2
    all_goals
      have hX1 : w.heap.size + 1 < Wx.heap.size := lt_blk X1.out
      have hX3 : w.heap.size + 1 + 1 + 1 < Wx.heap.size := lt_blk X3.out
      clear hcell hfroz q2 q3 q4
      have hcell : Wx.cell? ⟨w.heap.size + 1, q, none⟩ = some (.int .i64 Q) := (World.cell?_of_block (X1.out.trans W1.out.symm)).trans HQC.out
      have hfroz := row_froz X1.out q
      have q2 := cell_blk X2.out 1
      have q3 := cell_blk X3.out 0
      have q4 := froz_blk X3.out 0
      refine round_prefix (n := 11) (C := fun w' => ∃ m, w' = Wx.drewN m) (by kernel_rfl) (by decide) (by kernel_rfl) (by kernel_rfl) (by kernel_rfl) (by kernel_rfl) (by kernel_rfl) ⟨1, rfl⟩ ?_
      simp only [List.take_succ_cons, List.take_zero, List.drop_succ_cons, List.drop_zero]
      repeat (go_big_quiet_step (fail))
      refine wpQuiet_nil ?_
      rintro w2 ⟨m, rfl⟩
      go_wp2_with fail
      obtain ⟨Wy, hWy⟩ : ∃ Wy, Wy = (Wx.drewN m).setCell ⟨w.heap.size + 1, q, none⟩ (.int .i64 ((Q : Int) + (d : Int) * (V : Int))) := ⟨_, rfl⟩
      rw [← hWy]
      have eQ : ((Q : Int) + (d : Int) * (V : Int)) = ((Q + d * V : Nat) : Int) := by rw [Int.natCast_add, Int.natCast_mul]
      rw [eQ] at hWy
      have Y0 := hide (show Wy.heap[w.heap.size]? = some (.cells #[.bool false, .slice none 0 0] 207 (0, 0)) by rw [hWy]; exact (setCell_other (by omega)).trans X0.out)
      have Y1 := hide (show Wy.heap[w.heap.size + 1]? = some (rowO (L.set q (Q + d * V))) by rw [hWy]; exact row_set (w := Wx.drewN m) X1.out q _)
      have Y2 := hide (show Wy.heap[w.heap.size + 1 + 1]? = some (.cells #[.bool mi, .slice (some ⟨w.heap.size + 1, 0, none⟩) n n] 207 (0, 0)) by rw [hWy]; exact (setCell_other (by omega)).trans X2.out)
      have Y3 := hide (show Wy.heap[w.heap.size + 1 + 1 + 1]? = some (.cells #[.int .i64 V] 3 (0, 0)) by rw [hWy]; exact (setCell_other (by omega)).trans X3.out)
      have Y4 := hide (show Wy.heap[w.heap.size + 1 + 1 + 1 + 1]? = some (.cells #[.string t] 9 (0, 0)) by rw [hWy]; exact (setCell_other (by omega)).trans X4.out)
      have YB := hide (show Below w.heap.size w Wy by rw [hWy]; exact (below_drewN XB.out m).setCell (p := ⟨w.heap.size + 1, q, none⟩) (by simp) _)
      have YU := hide (show Upd w1.heap.size (fun _ => False) (fun _ => False) W Wy by rw [hWy]; exact (XU.out.drewN m).setBox (by simp; omega) _)
      clear hcell hfroz q2 q3 q4 hWy eQ u1 u2
      have q3 := cell_blk Y3.out 0
      have q4 := froz_blk Y3.out 0
      gi_wp2
      refine ⟨fun _ => False, YU.out.setBox (by simp; omega) _, rfl, (setCell_other (by omega)).trans Y0.out, (setCell_other (by omega)).trans Y2.out, (setCell_other (by omega)).trans Y4.out, YB.out.setCell (p := ⟨w.heap.size + 1 + 1 + 1, 0, none⟩) (by simp; omega) _, _, _, HRN2.out, (setCell_other (by omega)).trans Y1.out, ?_⟩
      have := Boxed.set (.int .i64 ((V * 10 : Nat) : Int)) Y3.out
      rw [Int.natCast_mul] at this
      exact this
  case hdone =>
    rintro D S W hD ⟨rfl, e0, e2, e4, hb, L, U, hR, e1, e3⟩ hK
    have hLn := hR.len
    rw [HDL.out] at hLn
    have q2 := cell_blk e2 1
    have q0 := cell_blk e2 0
    have q5 := froz_blk e2 1
    have q6 := cell_blk e0 0
    have q7 := cell_blk e0 1
    have q8 := froz_blk e0 0
    have q9 := froz_blk e0 1
    have n1 : (w.heap.size + 1 + 1 = w.heap.size) = False := eq_false (by omega)
    have n2 : (w.heap.size = w.heap.size + 1 + 1) = False := eq_false (by omega)
    have HT := hide (trim_any (some ⟨w.heap.size + 1, 0, none⟩) n L W.heap.size W (by
      have := row_limbs e1 (by unfold maxLen; omega)
      rw [hLn] at this ⊢
      exact this) (by omega) (by omega))
    rw [hLn] at HT
    have HO := hide (row_owns (base := 0) e1 (Nat.zero_le _) (by unfold maxLen; omega))
    have HRD := hide hR; have HLn := hide hLn; have HBW := hide hb; have W0 := hide e0; have W2' := hide e2; have HK := hide hK
    have hlw : w.heap.size + 1 + 1 < W.heap.size := lt_blk e2
    clear hb e0 e1 e2 e3 e4 hR hLn hK
    gi_wp2_with fail
    refine ⟨trivial, rfl, (callsIn_wide.2 HT.out).mono ?_⟩
    rintro e w2 ⟨rfl, rfl⟩
    gi_wp2_with fail
    obtain ⟨Wa, hWa⟩ : ∃ Wa, Wa = W.setCell ⟨w.heap.size + 1 + 1, 1, none⟩ (.slice (some ⟨w.heap.size + 1, 0, none⟩) (trimTo L n) n) := ⟨_, rfl⟩
    rw [← hWa]
    have A0 : Wa.heap[w.heap.size]? = some (.cells #[.bool false, .slice none 0 0] 207 (0, 0)) := by rw [hWa]; exact (setCell_other (by omega)).trans W0.out
    have AD : Wa.heap[D]? = some (.deferred (some [])) := by rw [hWa]; exact (setCell_other (by omega)).trans HK.out
    have AB : Below w.heap.size w Wa := by rw [hWa]; exact HBW.out.setCell (p := ⟨w.heap.size + 1 + 1, 1, none⟩) (by simp; omega) _
    have AO : OwnL 0 Wa (.slice (some ⟨w.heap.size + 1, 0, none⟩) n n) L := by
      have h := HO.out
      rw [HLn.out] at h
      rw [hWa]
      exact owns_stay h (fun r hr => setCell_other (fun e => by
        have h2 : w.heap.size + 1 = r := by simpa [Value.ownBlock] using hr
        omega))
    obtain ⟨s1, s2⟩ := set2 A0 (.bool mi) (.slice (some ⟨w.heap.size + 1, 0, none⟩) (trimTo L n) n)
    have sD : ((Wa.setCell ⟨w.heap.size, 0, none⟩ (.bool mi)).setCell ⟨w.heap.size, 1, none⟩ (.slice (some ⟨w.heap.size + 1, 0, none⟩) (trimTo L n) n)).heap[D]? = some (.deferred (some [])) := (setCell_other (by omega)).trans ((setCell_other (by omega)).trans AD)
    refine ⟨by simp, .inl ⟨_, _, rfl, run_takeDeferred sD, ?_⟩⟩
    have sE : (((Wa.setCell ⟨w.heap.size, 0, none⟩ (.bool mi)).setCell ⟨w.heap.size, 1, none⟩ (.slice (some ⟨w.heap.size + 1, 0, none⟩) (trimTo L n) n)).putObj D (.deferred none)).heap[w.heap.size]? = some (.cells #[.bool mi, .slice (some ⟨w.heap.size + 1, 0, none⟩) (trimTo L n) n] 207 (0, 0)) := (World.putObj_heap_other (by omega)).trans s1
    refine ⟨_, exit_read sE rfl, _, rfl, (AB.trans (s2.mono (by omega))).trans (belowK_b (w := w) (Nat.le_refl _) _ D _ _ (by omega) sD rfl rfl), mi, _, trimL L, rfl, ?_, trimL_norm HRD.out.lt, ?_, ?_⟩
    · have hc := AO.cut (k := trimTo L n) (by rw [HLn.out]; exact trimTo_le _ _)
      have e3 : L.take (trimTo L n) = trimL L := by unfold trimL; rw [HLn.out]
      rw [e3] at hc
      exact owns_stay hc (fun r hr => (by
        have h2 : w.heap.size + 1 = r := by simpa [Value.ownBlock] using hr
        rw [World.putObj_heap_other (by omega), setCell_other (by omega), setCell_other (by omega)]))
    · rw [trimL_lv, HRD.out.val, HV.out, bytes_len, Nat.sub_self, List.drop_zero]
    · rw [trimL_len]
      have := trimTo_le L L.length
      have := HLn.out
      omega
end Go.Proofs.YtklgpilgalfckaaGreatDoor
namespace Go.KP
open Go Go.RowKit

structure Still (n : Nat) (W W2 : World) : Prop where
  os : W2.os = W.os
  tape : W2.tape = W.tape
  output : W2.output = W.output
  size : W.heap.size ≤ W2.heap.size
  old : ∀ (b : Nat) cs t fz, W.heap[b]? = some (Obj.cells cs t fz) → W2.heap[b]? = some (Obj.cells cs t fz)
  new : ∀ (b : Nat) cs t fz, W2.heap[b]? = some (Obj.cells cs t fz) → W.heap[b]? = some (Obj.cells cs t fz)
  kept : ∀ (b : Nat), b < n → b < W.heap.size → W2.heap[b]? = W.heap[b]?
theorem Still.refl (n : Nat) (W : World) : Still n W W := ⟨rfl, rfl, rfl, Nat.le_refl _, fun _ _ _ _ h => h, fun _ _ _ _ h => h, fun _ _ _ => rfl⟩
theorem Still.alloc {n : Nat} {a w : World} (h : Still n a w) {o : Obj} (ho : o.isCells = false) : Still n a (w.alloc o) := by
  refine ⟨h.os, h.tape, h.output, Nat.le_trans h.size (by simp), fun b cs t fz hb => ?_, fun b cs t fz hb => ?_, fun b hb hr => (Below.heap_alloc _ _ _ (by have := h.size; omega)).trans (h.kept b hb hr)⟩
  · have h1 := h.old b cs t fz hb
    exact (Below.heap_alloc _ _ _ (lt_blk h1)).trans h1
  · refine h.new b cs t fz ?_
    have hlt := lt_blk hb
    rw [World.size_alloc] at hlt
    rcases Nat.lt_or_ge b w.heap.size with h1 | h1
    · exact (Below.heap_alloc _ _ _ h1).symm.trans hb
    · exfalso
      obtain rfl : b = w.heap.size := by omega
      rw [World.alloc_heap_new] at hb
      injection hb with hb
      rw [hb] at ho
      cases ho
theorem Still.put {n : Nat} {W : World} {l : Nat} {r : Loop} (hn : n ≤ l) (h : W.heap[l]? = some (.loop r)) (r2 : Loop) : Still n W (W.putObj l (.loop r2)) := by
  refine ⟨rfl, rfl, rfl, by simp, fun b cs t fz hb => ?_, fun b cs t fz hb => ?_, fun b hb _ => World.putObj_heap_other (by omega)⟩
  · refine (World.putObj_heap_other (fun e => ?_)).trans hb
    subst e
    rw [h] at hb
    cases hb
  · by_cases e : b = l
    · subst e
      rw [World.putObj_heap_same (lt_blk h)] at hb
      cases hb
    · exact (World.putObj_heap_other e).symm.trans hb
def IterPure (P : Program) (gf : Nat) (lb : Array Value) (encs : Nat → Array Value) (N : Nat) (Ke : Nat → World → Prop) : Prop :=
  ∀ (l : Nat) (J : Nat → (Nat → Prop) → World → Prop) (Jx : (Nat → Prop) → World → Prop) (S0 : Nat → Prop) (W : World),
    (∀ k S W1, k ≤ N → J k S W1 → Ke k W1) →
    (∀ k S W1, k < N → J k S W1 → W.heap.size ≤ W1.heap.size →
      YieldAt Fence.wide 0 P l (encs k) W1 fun e W2 => ∃ S', Upd W.heap.size S S' W1 W2 ∧
        ((e = .returned (.bool true) ∧ J (k + 1) S' W2) ∨ (e = .returned (.bool false) ∧ Jx S' W2))) →
    J 0 S0 W →
    CallsIn Fence.wide 0 P gf (#[.func (.yield l) #[] #[]] ++ lb) W fun e W2 => (∃ v, e = .returned v) ∧ ∃ S, J N S W2 ∨ Jx S W2
variable {P : Program}
theorem wp_iter_pure {g : Operand} {ps : Array Tmp} {assign body : Code} {Q : Exit → Act → World → Prop} {a : Act} {w : World}
    {gf : Nat} {lb : Array Value} (hg : a.eval g = .func (.func gf) #[] lb) (eg : ∀ args w, (callFunc gf args).run P w = .ok (.enter gf args) w)
    {encs : Nat → Array Value} {N : Nat} {Ke : Nat → World → Prop} {S0 : Nat → Prop} (hseq : IterPure P gf lb encs N Ke) (hps : ∀ k, (encs k).size = ps.size)
    (I : Nat → (Nat → Prop) → World → Prop) (Ix : Code → (Nat → Prop) → World → Prop) (hI : ∀ k S W W2, I k S W → Still w.heap.size W W2 → I k S W2) (hIx : ∀ c S W W2, Ix c S W → Still w.heap.size W W2 → Ix c S W2) (h0 : I 0 S0 w) (hke : ∀ k S W, k ≤ N → I k S W → Ke k W)
    (Ax : Nat → (Nat → Prop) → Act → World → Prop)
    (hAx : ∀ k S a1 W l r r2, Ax k S a1 W → W.heap[l]? = some (.loop r) → Ax k S a1 (W.putObj l (.loop r2)))
    (hassign : ∀ (l k : Nat) (S : Nat → Prop) (W : World) (K : Act → World → Prop), w.heap.size ≤ W.heap.size → (∀ b, S b → b < W.heap.size) → (∀ a1, Ax k S a1 W → K a1 W) →
      assign.wpIn (Fence.wide.inRound l) 0 P (Exit.then K (fun _ _ _ => False)) { tmps := (ps.zip (encs k)).foldl (fun t (p, v) => t.setIfInBounds p v) a.tmps, defers := [] } W)
    (hS : ∀ k S W, I k S W → ∀ b, S b → b < W.heap.size)
    (hbody : ∀ (l k : Nat) (S : Nat → Prop) (a1 : Act) (W : World), k < N → I k S W → Ax k S a1 W → w.heap.size ≤ W.heap.size →
      body.wpIn (Fence.wide.inRound l) 0 P (bodyEndOn w.heap.size (I (k + 1)) Ix S W) a1 W)
    (hdone : ∀ (D : Nat) (S : Nat → Prop) (W : World), w.heap.size ≤ D → I N S W → W.heap[D]? = some (.deferred (some [])) → Q .normal { a with defers := { target := .collected D, args := #[] } :: a.defers } W)
    (hstop : ∀ (D : Nat) (c : Code) (S : Nat → Prop) (W : World), w.heap.size ≤ D → Ix c S W → W.heap[D]? = some (.deferred (some [])) → c.wpIn Fence.wide 0 P Q { a with defers := { target := .collected D, args := #[] } :: a.defers } W) :
    (Code.rangeFunc g ps assign body).wpIn Fence.wide 0 P Q a w := by
  refine wpIn_rangeFunc ?_
  intro fn _
  obtain ⟨rec, hrec⟩ : ∃ rec : LoopState → Option Code → Loop, rec = fun st pe => { state := st, pending := pe, fn, tmps := a.tmps, params := ps, assign, body, defers := w.heap.size } := ⟨_, rfl⟩
  obtain ⟨W1, hW1⟩ : ∃ W1, (w.alloc (.deferred (some []))).alloc (.loop (rec .ready none)) = W1 := ⟨_, rfl⟩
  have hL1 : W1.heap[w.heap.size + 1]? = some (.loop (rec .ready none)) := by
    rw [← hW1]; have h := World.alloc_heap_new (w.alloc (.deferred (some []))) (.loop (rec .ready none)); rwa [World.size_alloc] at h
  have hK1 : W1.heap[w.heap.size]? = some (.deferred (some [])) := by
    rw [← hW1]; exact (Below.heap_alloc _ _ _ (by simp)).trans (World.alloc_heap_new w _)
  have hq1 : Still w.heap.size w W1 := by rw [← hW1]; exact ((Still.refl _ w).alloc rfl).alloc rfl
  have hs1 : W1.heap.size = w.heap.size + 2 := by rw [← hW1]; simp
  have inner : ∀ (i : Nat) (S S' : Nat → Prop) (W W2 : World), w.heap.size ≤ i → i < w.heap.size + 2 → i < W.heap.size → ¬ S i → Upd w.heap.size S S' W W2 → W2.heap[i]? = W.heap[i]? ∧ ¬ S' i := fun i S S' W W2 h1 _ h3 h4 hu => hu.block i h1 h3 h4
  refine ⟨w.heap.size + 1, [{ target := .collected w.heap.size, args := #[] }], W1, { target := .fn (.func gf) lb, args := #[.func (.yield (w.heap.size + 1)) #[] #[]] }, W1, gf,
    #[.func (.yield (w.heap.size + 1)) #[] #[]] ++ lb, W1, ?_, ?_, ?_, ?_, fun h => by simp [Fence.wide] at h, ?_⟩
  · rw [← hW1, hrec]; exact run_enterLoop_outer _ _ _ _ _
  · simp only [resolve, hg]
    simp [go_sem]
  · exact fun _ _ => trivial
  · simp [invoke, go_sem, eg]
  · refine (hseq (w.heap.size + 1)
      (fun k S W => I k S W ∧ ¬ S w.heap.size ∧ ¬ S (w.heap.size + 1) ∧ W1.heap.size ≤ W.heap.size ∧ W.heap[w.heap.size + 1]? = some (.loop (rec .ready none)) ∧ W.heap[w.heap.size]? = some (.deferred (some [])))
      (fun S W => ∃ c, Ix c S W ∧ ¬ S w.heap.size ∧ ¬ S (w.heap.size + 1) ∧ W1.heap.size ≤ W.heap.size ∧ W.heap[w.heap.size + 1]? = some (.loop (rec .done (some c))) ∧ W.heap[w.heap.size]? = some (.deferred (some [])))
      S0 W1 (fun k S W1 hk h => hke k S W1 hk h.1) ?_ ⟨hI 0 _ _ _ h0 hq1, (fun h => by have := hS 0 S0 w h0 _ h; omega), (fun h => by have := hS 0 S0 w h0 _ h; omega), Nat.le_refl _, hL1, hK1⟩).mono ?_
    · rintro k S W hkN ⟨hi, n1, n2, hsz, hl, hk⟩ _
      have hlt : w.heap.size + 1 < W.heap.size := (Array.getElem?_eq_some_iff.1 hl).1
      have hy := run_yield (P := P) (args := encs k) hl (by rw [hrec]; exact hps k)
      rw [hrec] at hy
      refine ⟨fn, _, assign, body, hy, roundIn_of_wpIn trivial (hassign _ k S W _ (by omega) (hS k S W hi) ?_)⟩
      intro a1 hax
      have hla := hl
      have hka := hk
      refine ⟨_, run_beginRound hla (by rw [hrec]), ?_⟩
      obtain ⟨W2, hW2⟩ : ∃ W2, W.putObj (w.heap.size + 1) (.loop { rec .ready none with state := .busy }) = W2 := ⟨_, rfl⟩
      have hq2 : Still w.heap.size W W2 := by rw [← hW2]; exact Still.put (by omega) hla _
      have hax2 : Ax k S a1 W2 := by rw [← hW2]; exact hAx _ _ _ _ _ _ _ hax hla
      have hl2 : W2.heap[w.heap.size + 1]? = some (.loop { rec .ready none with state := .busy }) := by rw [← hW2]; exact World.putObj_heap_same hlt
      have hk2 : W2.heap[w.heap.size]? = some (.deferred (some [])) := by rw [← hW2]; exact (World.putObj_heap_other (by omega)).trans hka
      have hs2 : W2.heap.size = W.heap.size := by rw [← hW2]; simp
      rw [hW2]
      refine wpIn_mono (hbody _ k S a1 W2 hkN (hI k _ _ _ hi hq2) hax2 (by omega)) ?_
      have fin : ∀ (jump : Option Code) (S' : Nat → Prop) (W3 : World), Upd w.heap.size S S' W2 W3 →
          ∃ W4, (Instr.endRound (w.heap.size + 1) jump).run P W3 = .ok (.bool jump.isNone) W4 ∧ Upd W1.heap.size S S' W W4 ∧ Still w.heap.size W3 W4 ∧
            ¬ S' w.heap.size ∧ ¬ S' (w.heap.size + 1) ∧ W1.heap.size ≤ W4.heap.size ∧
            W4.heap[w.heap.size + 1]? = some (.loop (rec (if jump.isNone then .ready else .done) jump)) ∧ W4.heap[w.heap.size]? = some (.deferred (some [])) := fun jump S' W3 hu => by
        have hl3 := (inner (w.heap.size + 1) _ _ _ _ (by omega) (by omega) (by omega) n2 hu)
        have hk3 := (inner w.heap.size _ _ _ _ (by omega) (by omega) (by omega) n1 hu)
        have hl4 := hl3.1.trans hl2
        have hs3 := hu.size
        have hr := run_endRound (P := P) jump hl4
        have e : ({ rec .ready none with state := if jump.isNone then LoopState.ready else LoopState.done, pending := jump } : Loop) = rec (if jump.isNone then .ready else .done) jump := by rw [hrec]
        simp only at hr
        rw [e] at hr
        have hq4 : Still w.heap.size W3 (W3.putObj (w.heap.size + 1) (.loop (rec (if jump.isNone then .ready else .done) jump))) := Still.put (by omega) hl4 _
        refine ⟨_, hr, ⟨by simp; omega, fun b hB hlt' hs' => ?_⟩, hq4, hk3.2, hl3.2, by simp; omega, World.putObj_heap_same (by omega), (World.putObj_heap_other (by omega)).trans (hk3.1.trans hk2)⟩
        · obtain ⟨g3, g4⟩ := hu.block b (by omega) (by omega) hs'
          refine ⟨(World.putObj_heap_other (by omega)).trans (g3.trans ?_), g4⟩
          rw [← hW2, World.putObj_heap_other (by omega)]
      rintro e a3 W3 hp
      cases e with
      | normal =>
        obtain ⟨S', hu, hi3⟩ := hp
        obtain ⟨W4, hr, hu4, hq4, m1, m2, m3, hl4, hk4⟩ := fin none S' W3 hu
        exact ⟨_, _, hr, S', hu4, .inl ⟨rfl, hI _ _ _ _ hi3 hq4, m1, m2, m3, hl4, hk4⟩⟩
      | ret =>
        obtain ⟨S', hu, hi3⟩ := hp
        obtain ⟨W4, hr, hu4, hq4, m1, m2, m3, hl4, hk4⟩ := fin (some .ret) S' W3 hu
        exact ⟨_, _, hr, S', hu4, .inr ⟨rfl, .ret, hIx _ _ _ _ hi3 hq4, m1, m2, m3, hl4, hk4⟩⟩
      | exit id =>
        obtain ⟨S', hu, hi3⟩ := hp
        obtain ⟨W4, hr, hu4, hq4, m1, m2, m3, hl4, hk4⟩ := fin (some (.exit id)) S' W3 hu
        exact ⟨_, _, hr, S', hu4, .inr ⟨rfl, .exit id, hIx _ _ _ _ hi3 hq4, m1, m2, m3, hl4, hk4⟩⟩
      | goto t =>
        obtain ⟨S', hu, hi3⟩ := hp
        obtain ⟨W4, hr, hu4, hq4, m1, m2, m3, hl4, hk4⟩ := fin (some (.goto t)) S' W3 hu
        exact ⟨_, _, hr, S', hu4, .inr ⟨rfl, .goto t, hIx _ _ _ _ hi3 hq4, m1, m2, m3, hl4, hk4⟩⟩
      | panic ch => exact hp.elim
      | outgrown => exact hp.elim
    · rintro e W2 ⟨⟨v, rfl⟩, S, (⟨hi, n1, n2, hsz, hl, hk⟩ | ⟨c, hi, n1, n2, hsz, hl, hk⟩)⟩
      · refine ⟨none, _, by have h := run_endLoop (P := P) hl (by rw [hrec]; simp); rw [hrec] at h; exact h, ?_⟩
        exact hdone _ S _ (Nat.le_refl _) (hI _ _ _ _ hi (Still.put (by omega) hl _)) ((World.putObj_heap_other (by omega)).trans hk)
      · refine ⟨some c, _, by have h := run_endLoop (P := P) hl (by rw [hrec]; simp); rw [hrec] at h; exact h, ?_⟩
        exact hstop _ c S _ (Nat.le_refl _) (hIx _ _ _ _ hi (Still.put (by omega) hl _)) ((World.putObj_heap_other (by omega)).trans hk)

end Go.KP
