/-
  Integers: add walked.
-/
import Derived.Test.YthkioajalhglfaaGreatDoorPe
import Derived.Deep.RegionHeld3
namespace Go.Proofs.YthkioajalhglfaaGreatDoor
open Go.RowKit Go.KP Go.KI Go.Shelf

/-- A number as a value. -/
abbrev numV (m : Bool) (v : Value) : Value := .agg #[.bool m, v]
theorem plus_lv {x y : List Nat} (hx : Lt 1000000000 x) (hy : Lt 1000000000 y) : Norm 1000000000 (trimL (combL plusP x y)) ∧ lv 1000000000 (trimL (combL plusP x y)) = lv 1000000000 x + lv 1000000000 y ∧ (trimL (combL plusP x y)).length ≤ max x.length y.length + 1 := by
  have hf := combTo_facts plusFn.small hx hy
  have key : ∀ i, lv 1000000000 (combTo plusP x y i).1 + 1000000000 ^ i * (combTo plusP x y i).2 = lvT 1000000000 x i + lvT 1000000000 y i := by
    intro i
    induction i with
    | zero => simp [combTo, lv, lvT]
    | succ i ih =>
      have h := plus_step (b := 1000000000) (n := (plusP (lat x i) (lat y i) (combTo plusP x y i).2).1) (c2 := (plusP (lat x i) (lat y i) (combTo plusP x y i).2).2) (x := lat x i) (y := lat y i) ih (by unfold plusP; simp only; omega)
      rw [lvT_succ, lvT_succ, ← h]
      simp only [combTo]
      rw [lv_snoc, (hf i).1]
  obtain ⟨n, hn⟩ : ∃ n, n = max x.length y.length + 1 := ⟨_, rfl⟩
  have h1 := key n
  rw [lvT_all (l := x) (by omega), lvT_all (l := y) (by omega)] at h1
  have hc : (combTo plusP x y n).2 = 0 := by
    rcases Nat.eq_zero_or_pos (combTo plusP x y n).2 with h | h
    · exact h
    · exfalso
      have hx1 := lv_lt hx
      have hy1 := lv_lt hy
      have e1 : 1000000000 ^ x.length ≤ 1000000000 ^ (n - 1) := Nat.pow_le_pow_right (by omega) (by omega)
      have e2 : 1000000000 ^ y.length ≤ 1000000000 ^ (n - 1) := Nat.pow_le_pow_right (by omega) (by omega)
      have e3 : 1000000000 ^ n = 1000000000 ^ (n - 1) * 1000000000 := by rw [← Nat.pow_succ]; congr 1; omega
      have e4 : 1000000000 ^ n * 1 ≤ 1000000000 ^ n * (combTo plusP x y n).2 := Nat.mul_le_mul_left _ h
      omega
  rw [hc] at h1
  unfold combL
  rw [← hn]
  refine ⟨trimL_norm (hf n).2.1, by rw [trimL_lv]; omega, ?_⟩
  rw [trimL_len]
  have := trimTo_le (combTo plusP x y n).1 (combTo plusP x y n).1.length
  have := (hf n).1
  omega
theorem minusP_eq {x y c : Nat} (hx : x < 1000000000) (hy : y < 1000000000) (hc : c ≤ 1) : (minusP x y c).1 + y + c = x + 1000000000 * (minusP x y c).2 := by
  unfold minusP
  split <;> simp only <;> omega
theorem minus_lv {x y : List Nat} (hx : Lt 1000000000 x) (hy : Lt 1000000000 y) (hle : lv 1000000000 y ≤ lv 1000000000 x) : Norm 1000000000 (trimL (combL minusP x y)) ∧ lv 1000000000 (trimL (combL minusP x y)) = lv 1000000000 x - lv 1000000000 y ∧ (trimL (combL minusP x y)).length ≤ max x.length y.length + 1 := by
  have hf := combTo_facts minusFn.small hx hy
  have key : ∀ i, lv 1000000000 (combTo minusP x y i).1 + lvT 1000000000 y i = lvT 1000000000 x i + 1000000000 ^ i * (combTo minusP x y i).2 := by
    intro i
    induction i with
    | zero => simp [combTo, lv, lvT]
    | succ i ih =>
      have hb := lat_lt (by omega) hx i
      have hb2 := lat_lt (by omega) hy i
      have hb3 := (hf i).2.2
      have h := minus_step (b := 1000000000) (n := (minusP (lat x i) (lat y i) (combTo minusP x y i).2).1) (c2 := (minusP (lat x i) (lat y i) (combTo minusP x y i).2).2) (x := lat x i) (y := lat y i) ih (minusP_eq hb hb2 hb3)
      rw [lvT_succ, lvT_succ]
      simp only [combTo]
      rw [lv_snoc, (hf i).1]
      exact h
  obtain ⟨n, hn⟩ : ∃ n, n = max x.length y.length + 1 := ⟨_, rfl⟩
  have h1 := key n
  rw [lvT_all (l := x) (by omega), lvT_all (l := y) (by omega)] at h1
  have hl := lv_lt (hf n).2.1
  rw [(hf n).1] at hl
  have hc : (combTo minusP x y n).2 = 0 := by
    rcases Nat.eq_zero_or_pos (combTo minusP x y n).2 with h | h
    · exact h
    · exfalso
      have e4 : 1000000000 ^ n * 1 ≤ 1000000000 ^ n * (combTo minusP x y n).2 := Nat.mul_le_mul_left _ h
      omega
  rw [hc] at h1
  unfold combL
  rw [← hn]
  refine ⟨trimL_norm (hf n).2.1, by rw [trimL_lv]; omega, ?_⟩
  rw [trimL_len]
  have := trimTo_le (combTo minusP x y n).1 (combTo minusP x y n).1.length
  have := (hf n).1
  omega
/-- A number of this value. -/
def NumOf (z : Int) (r : Value) (w2 : World) : Prop := ∃ (m : Bool) (v : Value) (l : List Nat), r = numV m v ∧ OwnL 0 w2 v l ∧ Norm 1000000000 l ∧ valS m (lv 1000000000 l) = z ∧ l.length ≤ 90000
theorem exit_add {R : Ending → World → Prop} {a : Act} {W : World} {b : Nat} {m : Bool} {v : Value} (hb : W.heap[b]? = some (.cells #[.bool m, v] 48 (0, 0)))
    (h2 : a.tmps[4]? = some (.pointer (some ⟨b, 0, none⟩))) (hd : a.defers = []) (hR : R (.returned (numV m v)) W) : bodyPost Tryz.prog Tryz.f59 R .ret a W := by
  have hcell := fun o => cell_blk hb o
  refine bodyPost_ret ?_ hd hR
  simp [results, go_sem, hcell, h2]
theorem set2 {w : World} {b : Nat} {u0 u1 : Value} {t : TypeId} (h : w.heap[b]? = some (.cells #[u0, u1] t (0, 0))) (v0 v1 : Value) :
    ((w.setCell ⟨b, 0, none⟩ v0).setCell ⟨b, 1, none⟩ v1).heap[b]? = some (.cells #[v0, v1] t (0, 0)) ∧ Below b w ((w.setCell ⟨b, 0, none⟩ v0).setCell ⟨b, 1, none⟩ v1) := by
  refine ⟨?_, ((Below.refl b w).setCell (p := ⟨b, 0, none⟩) (Nat.le_refl _) _).setCell (p := ⟨b, 1, none⟩) (Nat.le_refl _) _⟩
  simp only [World.setCell, Array.getElem?_modify, h]
  simp
theorem valS_add (m : Bool) (a b : Nat) : valS m a + valS m b = valS m (a + b) := by
  cases m <;> simp [valS] <;> omega
theorem valS_sub (m : Bool) {a b : Nat} (h : b ≤ a) : valS m a + valS (!m) b = valS m (a - b) := by
  cases m <;> simp [valS] <;> omega
theorem valS_sub2 (m : Bool) {a b : Nat} (h : a ≤ b) : valS m a + valS (!m) b = valS (!m) (b - a) := by
  cases m <;> simp [valS] <;> omega
/-- The blocks of add: both numbers, the result. -/
structure AddSt (w : World) (m1 m2 : Bool) (v1 v2 : Value) (W : World) : Prop where
  one : W.heap[w.heap.size]? = some (.cells #[.bool m1, v1] 48 (0, 0))
  two : W.heap[w.heap.size + 1]? = some (.cells #[.bool m2, v2] 48 (0, 0))
  res : W.heap[w.heap.size + 2]? = some (.cells #[.bool false, .slice none 0 0] 48 (0, 0))
  below : Below w.heap.size w W
theorem AddSt.on {w : World} {m1 m2 : Bool} {v1 v2 : Value} {W W2 : World} (h : AddSt w m1 m2 v1 v2 W) (hb : Below W.heap.size W W2) : AddSt w m1 m2 v1 v2 W2 :=
  ⟨below_blk hb h.one (lt_blk h.one), below_blk hb h.two (lt_blk h.two), below_blk hb h.res (lt_blk h.res), h.below.trans (hb.mono h.below.size)⟩
theorem AddSt.cells {w : World} {m1 m2 : Bool} {v1 v2 : Value} {W : World} (h : AddSt w m1 m2 v1 v2 W) :
    (W.cell? ⟨w.heap.size, 0, none⟩ = some (.bool m1) ∧ W.cell? ⟨w.heap.size, 1, none⟩ = some v1) ∧ (W.cell? ⟨w.heap.size + 1, 0, none⟩ = some (.bool m2) ∧ W.cell? ⟨w.heap.size + 1, 1, none⟩ = some v2) ∧
    (W.cell? ⟨w.heap.size + 2, 0, none⟩ = some (.bool false) ∧ W.cell? ⟨w.heap.size + 2, 1, none⟩ = some (.slice none 0 0)) ∧ W.frozen? ⟨w.heap.size + 2, 0, none⟩ = false ∧ W.frozen? ⟨w.heap.size + 2, 1, none⟩ = false ∧ w.heap.size + 2 < W.heap.size :=
  ⟨⟨cell_blk h.one 0, cell_blk h.one 1⟩, ⟨cell_blk h.two 0, cell_blk h.two 1⟩, ⟨cell_blk h.res 0, cell_blk h.res 1⟩, froz_blk h.res 0, froz_blk h.res 1, lt_blk h.res⟩
set_option maxRecDepth 100000 in
set_option maxHeartbeats 2000000 in
theorem add_any (m1 m2 : Bool) (va vb : Value) (x y : List Nat) (B : Nat) (w : World) (ha : LimbAt B w va x) (hb : LimbAt B w vb y) (hB : B ≤ w.heap.size) (hx : Norm 1000000000 x) (hy : Norm 1000000000 y) (lx : x.length ≤ 80000) (ly : y.length ≤ 80000) :
    Calls Tryz.prog 59 #[numV m1 va, numV m2 vb] w (RetEx w (NumOf (valS m1 (lv 1000000000 x) + valS m2 (lv 1000000000 y)))) := by
  obtain ⟨a0, c0, hva⟩ := ha.form
  obtain ⟨a1, c1, hvb⟩ := hb.form
  subst hva; subst hvb
  have HA := hide ha; have HB := hide hb; have HX := hide hx; have HY := hide hy
  clear ha hb hx hy
  obtain ⟨b0, b1, b2, hs0, hB0⟩ := heap3 w (.cells #[.bool m1, .slice a0 x.length c0] 48) (.cells #[.bool m2, .slice a1 y.length c1] 48) (.cells #[.bool false, .slice none 0 0] 48)
  obtain ⟨w0, hw0⟩ : ∃ w0, ((w.alloc (.cells #[.bool m1, .slice a0 x.length c0] 48)).alloc (.cells #[.bool m2, .slice a1 y.length c1] 48)).alloc (.cells #[.bool false, .slice none 0 0] 48) = w0 := ⟨_, rfl⟩
  rw [hw0] at b0 b1 b2 hs0 hB0
  have HS := hide (AddSt.mk b0 b1 b2 hB0)
  have HW0 := hide hw0
  clear b0 b1 b2 hs0 hB0 hw0
  by_cases hm : m1 = m2
  · subst hm
    go_enter Tryz.func59, Tryz.ntmps59
    go_wp2_with fail
    rw [HW0.out]
    obtain ⟨⟨c1', c2'⟩, ⟨c3', c4'⟩, ⟨c5', c6'⟩, f1', f2', l0⟩ := HS.out.cells
    have n1 : (w.heap.size + 1 + 1 = w.heap.size) = False := eq_false (by omega)
    have n2 : (w.heap.size = w.heap.size + 1 + 1) = False := eq_false (by omega)
    go_region_held3 (fun w' => w'.cell? ⟨w.heap.size, 0, none⟩ = some (.bool m1) ∧ w'.cell? ⟨w.heap.size, 1, none⟩ = some (.slice a0 x.length c0) ∧ w'.cell? ⟨w.heap.size + 1, 1, none⟩ = some (.slice a1 y.length c1)) (first | go_keep)
      (first
        | (go_at_call 47
           refine (combine_any 48 plusP plusFn _ _ x y B _ (HA.out.below (HS.out.below.drew) hB) (HB.out.below (HS.out.below.drew) hB) (by have := HS.out.below.size; simp; omega) HX.out.lt HY.out.lt (by omega) (by omega)).mono ?_
           rintro e w1 ⟨v, rfl, hb1, ho1⟩
           obtain ⟨av, cv, hvf, _, _⟩ := ho1.form
           subst hvf
           have HS1 := hide (HS.out.on (below_ahead hb1))
           have HO1 := hide ho1
           obtain ⟨⟨d1, d2⟩, ⟨d3, d4⟩, ⟨d5, d6⟩, g1, g2, l1⟩ := HS1.out.cells
           clear hb1 ho1)
        | fail)
    clear n1 n2
    go_wp2_with fail
    obtain ⟨s1, s2⟩ := set2 HS1.out.res (.bool m1) (.slice av (trimL (combL plusP x y)).length cv)
    obtain ⟨p1, p2, p3⟩ := plus_lv HX.out.lt HY.out.lt
    refine exit_add s1 rfl rfl ⟨_, rfl, HS1.out.below.trans (s2.mono (by omega)), m1, _, _, rfl, ?_, p1, by rw [p2, valS_add], by omega⟩
    exact owns_stay (HO1.out.mono (Nat.zero_le _)) (fun r hr => (by
      have := (HO1.out.lt r hr).1
      have h2 := HS.out.cells
      rw [setCell_other (by simp at this; omega), setCell_other (by simp at this; omega)]))
  · obtain rfl : m2 = !m1 := by cases m1 <;> cases m2 <;> simp_all
    have hq : (m1 == !m1) = false := by cases m1 <;> rfl
    have HCMP := hide (compare_any (.slice a0 x.length c0) (.slice a1 y.length c1) x y B w0 (HA.out.below HS.out.below hB) (HB.out.below HS.out.below hB) (by have := HS.out.below.size; omega) HX.out HY.out (by omega) (by omega))
    go_enter Tryz.func59, Tryz.ntmps59
    go_wp2_with fail
    rw [HW0.out]
    refine HCMP.out.mono ?_
    rintro e w1 ⟨r, rfl, hr, hb1⟩
    have HS0 := hide (HS.out.on hb1)
    clear hb1 HCMP
    obtain ⟨⟨c1', c2'⟩, ⟨c3', c4'⟩, ⟨c5', c6'⟩, f1', f2', l0⟩ := HS0.out.cells
    have n1 : (w.heap.size + 1 + 1 = w.heap.size) = False := eq_false (by omega)
    have n2 : (w.heap.size = w.heap.size + 1 + 1) = False := eq_false (by omega)
    by_cases h0 : 0 ≤ r
    · have hle : lv 1000000000 y ≤ lv 1000000000 x := by
        have h1 := hr.1
        have h2 : ¬ lv 1000000000 x < lv 1000000000 y := fun h => by have := h1.2 h; omega
        omega
      have HLE := hide hle
      clear hr hle hm hq
      go_wp2_with fail
      go_region_held3 (fun w' => w'.cell? ⟨w.heap.size, 0, none⟩ = some (.bool m1) ∧ w'.cell? ⟨w.heap.size, 1, none⟩ = some (.slice a0 x.length c0) ∧ w'.cell? ⟨w.heap.size + 1, 1, none⟩ = some (.slice a1 y.length c1)) (first | go_keep)
        (first
          | (go_at_call 47
             refine (combine_any 49 minusP minusFn _ _ x y B _ (HA.out.below (HS0.out.below.drew) hB) (HB.out.below (HS0.out.below.drew) hB) (by have := HS0.out.below.size; simp; omega) HX.out.lt HY.out.lt (by omega) (by omega)).mono ?_
             rintro e w2 ⟨v, rfl, hb2, ho1⟩
             obtain ⟨av, cv, hvf, _, _⟩ := ho1.form
             subst hvf
             have HS1 := hide (HS0.out.on (below_ahead hb2))
             have HO1 := hide ho1
             obtain ⟨⟨d1, d2⟩, ⟨d3, d4⟩, ⟨d5, d6⟩, g1, g2, l1⟩ := HS1.out.cells
             clear hb2 ho1)
          | fail)
      clear n1 n2
      go_wp2_with fail
      obtain ⟨s1, s2⟩ := set2 HS1.out.res (.bool m1) (.slice av (trimL (combL minusP x y)).length cv)
      obtain ⟨p1, p2, p3⟩ := minus_lv HX.out.lt HY.out.lt HLE.out
      refine exit_add s1 rfl rfl ⟨_, rfl, HS1.out.below.trans (s2.mono (by omega)), m1, _, _, rfl, ?_, p1, by rw [p2, valS_sub m1 HLE.out], by omega⟩
      exact owns_stay (HO1.out.mono (Nat.zero_le _)) (fun r hr => (by
        have := (HO1.out.lt r hr).1
        rw [setCell_other (by simp at this; omega), setCell_other (by simp at this; omega)]))
    · have hle : lv 1000000000 x ≤ lv 1000000000 y := by
        have h1 := hr.1.1 (by omega)
        omega
      have HLE := hide hle
      have h0' : ¬ (0 : Int) ≤ r := h0
      clear hr hle hm hq
      go_wp2_with fail
      go_region_held3 (fun w' => w'.cell? ⟨w.heap.size + 1, 0, none⟩ = some (.bool !m1) ∧ w'.cell? ⟨w.heap.size, 1, none⟩ = some (.slice a0 x.length c0) ∧ w'.cell? ⟨w.heap.size + 1, 1, none⟩ = some (.slice a1 y.length c1)) (first | go_keep)
        (first
          | (go_at_call 47
             refine (combine_any 49 minusP minusFn _ _ y x B _ (HB.out.below (HS0.out.below.drew) hB) (HA.out.below (HS0.out.below.drew) hB) (by have := HS0.out.below.size; simp; omega) HY.out.lt HX.out.lt (by omega) (by omega)).mono ?_
             rintro e w2 ⟨v, rfl, hb2, ho1⟩
             obtain ⟨av, cv, hvf, _, _⟩ := ho1.form
             subst hvf
             have HS1 := hide (HS0.out.on (below_ahead hb2))
             have HO1 := hide ho1
             obtain ⟨⟨d1, d2⟩, ⟨d3, d4⟩, ⟨d5, d6⟩, g1, g2, l1⟩ := HS1.out.cells
             clear hb2 ho1)
          | fail)
      clear n1 n2
      go_wp2_with fail
      obtain ⟨s1, s2⟩ := set2 HS1.out.res (.bool !m1) (.slice av (trimL (combL minusP y x)).length cv)
      obtain ⟨p1, p2, p3⟩ := minus_lv HY.out.lt HX.out.lt HLE.out
      refine exit_add s1 rfl rfl ⟨_, rfl, HS1.out.below.trans (s2.mono (by omega)), !m1, _, _, rfl, ?_, p1, by rw [p2, valS_sub2 m1 HLE.out], by omega⟩
      exact owns_stay (HO1.out.mono (Nat.zero_le _)) (fun r hr => (by
        have := (HO1.out.lt r hr).1
        rw [setCell_other (by simp at this; omega), setCell_other (by simp at this; omega)]))
end Go.Proofs.YthkioajalhglfaaGreatDoor
