/-
 Texts laid together.
-/
import Derived.Test.YtklgpilgalfckaaGreatDoorMA17
import Derived.Test.YtklgpilgalfckaaGreatDoorMA7
import Derived.Laws.AppendOwnNone
set_option maxRecDepth 100000
set_option maxHeartbeats 16000000
namespace Go.Proofs.YtklgpilgalfckaaGreatDoor
open Go.RowKit Go.KP Go.KI Go.Shelf
attribute [local go_sem] Oper.semAt_some

theorem jM {R : Ending → World → Prop} {a : Act} {W : World} {b : Nat} {m : Bool} {v : Value} (hb : W.heap[b]? = some (.cells #[.bool m, v] 222 (0, 0)))
 (h2 : a.tmps[4]? = some (.pointer (some ⟨b, 0, none⟩))) (hd : a.defers = []) (hR : R (.returned (numV m v)) W) : bodyPost Tryz.prog Tryz.f188 R .ret a W := by
 have hcell := fun o => ya hb o
 refine bodyPost_ret ?_ hd hR
 simp [results, go_sem, hcell, h2]
theorem kQ (m1 m2 : Bool) (a1 a2 : Option Addr) (c1 c2 : Nat) (x y : List Nat) (w : World) (ha : LimbAt w.heap.size w (.slice a1 x.length c1) x) (hb : LimbAt w.heap.size w (.slice a2 y.length c2) y) (hx : Norm 1000000 x) (hy : Norm 1000000 y) (lx : x.length ≤ 90000) (ly : y.length ≤ 90000) :
 Calls Tryz.prog 188 #[numV m1 (.slice a1 x.length c1), numV m2 (.slice a2 y.length c2)] w (RNum (valS m1 (lv 1000000 x) + valS m2 (lv 1000000 y)) (max x.length y.length + 1) w) := by
 obtain ⟨b0, b1, b2, hs0, hB0⟩ := heap3 w (bigO m1 (.slice a1 x.length c1)) (bigO m2 (.slice a2 y.length c2)) (bigO false (.slice none 0 0))
 obtain ⟨w0, hw0⟩ : ∃ w0, ((w.alloc (bigO m1 (.slice a1 x.length c1))).alloc (bigO m2 (.slice a2 y.length c2))).alloc (bigO false (.slice none 0 0)) = w0 := ⟨_, rfl⟩
 rw [hw0] at b0 b1 b2 hs0 hB0
 have P0 := hide b0; have P1 := hide b1; have P2 := hide b2; have PB := hide hB0
 have k0 := ya b0 0
 have k1 := ya b0 1
 have k2 := ya b1 0
 have k3 := ya b1 1
 have hsz : w.heap.size + 2 < w0.heap.size := by omega
 have HA := hide ha; have HB := hide hb; have HX := hide hx; have HY := hide hy
 clear ha hb hx hy hs0 b0 b1 b2 hB0
 by_cases hm : m1 = m2
 ·subst hm
  have HT := hide (fun W (h : Below w.heap.size w W) => ybX (.slice a1 x.length c1) (.slice a2 y.length c2) x y w.heap.size W (HA.out.below h (Nat.le_refl _)) (HB.out.below h (Nat.le_refl _)) h.size HX.out.lt HY.out.lt (by omega) (by omega))
  have HB1 := hide (show Below w0.heap.size w0 w0.drew from (Below.refl _ _).drew)
  go_enter Tryz.func188, Tryz.ntmps188
  go_wp2_with fail
  go_region_held3 (fun w' => w'.cell? ⟨w.heap.size, 0, none⟩ = some (.bool m1) ∧ w'.cell? ⟨w.heap.size, 1, none⟩ = some (.slice a1 x.length c1) ∧ w'.cell? ⟨w.heap.size + 1, 1, none⟩ = some (.slice a2 y.length c2)) (first | exact ⟨k0, k1, k3⟩ | exact ⟨d0, d1, d3⟩ | exact ⟨(yN (by omega)).trans d0, (yN (by omega)).trans d1, (yN (by omega)).trans d3⟩ | go_keep)
   (first
     |(go_at_call 211
       refine (HT.out w0.drew (PB.out.trans (HB1.out.mono PB.out.size))).mono ?_
       rintro e w1 ⟨l3, ⟨v3, rfl, hb1, o3⟩, n3, q3, k3'⟩
       obtain ⟨av3, cv3, hvf, _, _⟩ := o3.form
       subst hvf
       have E1 := hide (show Below w0.heap.size w0 w1 from HB1.out.trans (hb1.mono HB1.out.size))
       have D0 := hide (yc E1.out P0.out (by omega)); have D1 := hide (yc E1.out P1.out (by omega)); have D2 := hide (yc E1.out P2.out (by omega))
       obtain ⟨d0, d1, d3⟩ : w1.cell? ⟨w.heap.size, 0, none⟩ = some (.bool m1) ∧ w1.cell? ⟨w.heap.size, 1, none⟩ = some (.slice a1 x.length c1) ∧ w1.cell? ⟨w.heap.size + 1, 1, none⟩ = some (.slice a2 y.length c2) := ⟨ya D0.out 0, ya D0.out 1, ya D1.out 1⟩
       have s0 := ya D2.out 0
       have s1 := ya D2.out 1
       have z0 := yf D2.out 0
       have z1 := yf D2.out 1
       have hsr := yd D2.out
       have hs1 : w0.heap.size ≤ w1.heap.size := E1.out.size
       have O3 := hide o3; have N3 := hide n3; have Q3 := hide q3; have K3 := hide k3'
       clear hb1 o3 n3 q3 k3')
     |fail)
  clear k0 k1 k2 k3 d0 d1 d3 s0 s1 z0 z1
  go_wp2_with fail
  obtain ⟨y3, y4⟩ := set2 D2.out (.bool m1) (.slice av3 l3.length cv3)
  refine jM y3 rfl rfl ⟨_, _, l3, rfl, ?_, ?_, N3.out, by rw [Q3.out, yd8], K3.out⟩
  ·exact PB.out.trans (E1.out.mono PB.out.size |>.trans (y4.mono (by omega)))
  ·exact yO (O3.out.mono (show w.heap.size ≤ w0.drew.heap.size from PB.out.size)) (fun r hr => by
    have := zd O3.out D2.out r hr
    rw [ye (by omega), ye (by omega)])
 ·obtain rfl : m2 = !m1 := by cases m1 <;> cases m2 <;> simp_all
  have hq : (m1 == !m1) = false := by cases m1 <;> rfl
  have HS := hide (yao (.slice a1 x.length c1) (.slice a2 y.length c2) x y w.heap.size w0 (HA.out.below PB.out (Nat.le_refl _)) (HB.out.below PB.out (Nat.le_refl _)) PB.out.size HX.out HY.out (by omega))
  clear hm
  go_enter Tryz.func188, Tryz.ntmps188
  go_wp2_with fail
  refine HS.out.mono ?_
  rintro e w1 ⟨r, rfl, hr, hb1⟩
  have D0 := hide (yc hb1 P0.out (by omega)); have D1 := hide (yc hb1 P1.out (by omega)); have D2 := hide (yc hb1 P2.out (by omega))
  have E1 := hide (PB.out.trans (hb1.mono PB.out.size))
  have hs1 := hb1.size
  obtain ⟨d0, d1, d2, d3⟩ : w1.cell? ⟨w.heap.size, 0, none⟩ = some (.bool m1) ∧ w1.cell? ⟨w.heap.size, 1, none⟩ = some (.slice a1 x.length c1) ∧ w1.cell? ⟨w.heap.size + 1, 0, none⟩ = some (.bool !m1) ∧ w1.cell? ⟨w.heap.size + 1, 1, none⟩ = some (.slice a2 y.length c2) := ⟨ya D0.out 0, ya D0.out 1, ya D1.out 0, ya D1.out 1⟩
  have f0 := yf D0.out 0
  have f1 := yf D0.out 1
  have f2 := yf D1.out 0
  have f3 := yf D1.out 1
  have hsr := yd D2.out
  clear hb1 HS k0 k1 k2 k3 P0 P1 P2 hw0
  by_cases h0 : 0 ≤ r
  ·have hle : lv 1000000 y ≤ lv 1000000 x := by
    have h1 := hr.1
    have h2 : ¬ lv 1000000 x < lv 1000000 y := fun h => by have := h1.2 h; omega
    omega
   have h0' : (r < 0) = False := eq_false (by omega)
   have HLE := hide hle
   clear hr hle hq h0
   go_wp2_with fail
   have HZ := hide (ydQ m1 HLE.out).symm
   have HT := hide (fun W2 (h : Below w.heap.size w W2) => vo (.slice a1 x.length c1) (.slice a2 y.length c2) x y w.heap.size W2 (HA.out.below h (Nat.le_refl _)) (HB.out.below h (Nat.le_refl _)) h.size HX.out.lt HY.out (by omega) HLE.out)
   have HB1 := hide (show Below w1.heap.size w1 w1.drew from (Below.refl _ _).drew)
   have HB2 := hide (show Below w1.heap.size w1 (w1.drew.alloc (bigO false (.slice none 0 0))) from (Below.refl _ _).drew.alloc (Nat.le_refl _) _)
   have HP2 := hide (show (w1.drew.alloc (bigO false (.slice none 0 0))).heap[w1.heap.size]? = some (bigO false (.slice none 0 0)) from heap_alloc_new w1.drew _)
   go_region_held3 (fun w' => w'.cell? ⟨w.heap.size, 0, none⟩ = some (.bool m1) ∧ w'.cell? ⟨w.heap.size, 1, none⟩ = some (.slice a1 x.length c1) ∧ w'.cell? ⟨w.heap.size + 1, 1, none⟩ = some (.slice a2 y.length c2)) (first | exact ⟨d0, d1, d3⟩ | exact ⟨e0, e1, e3⟩ | exact ⟨(yN (by omega)).trans e0, (yN (by omega)).trans e1, (yN (by omega)).trans e3⟩ | exact ⟨(yG (by omega)).trans e0, (yG (by omega)).trans e1, (yG (by omega)).trans e3⟩ | go_keep)
    (first
      |(go_at_call 223
        refine (HT.out (w1.drew.alloc (bigO false (.slice none 0 0))) (E1.out.trans (HB2.out.mono E1.out.size))).mono ?_
        rintro e w2 ⟨l3, ⟨v3, rfl, hb1, o3⟩, n3, q3, k3'⟩
        obtain ⟨av3, cv3, hvf, _, _⟩ := o3.form
        subst hvf
        have E2 := hide (show Below w1.heap.size w1 w2 from HB2.out.trans (hb1.mono HB2.out.size))
        have T1 := bh hb1 HP2
        have r0 := ya T1.out 0
        have r1 := ya T1.out 1
        have g0 := yf T1.out 0
        have g1 := yf T1.out 1
        have hsl := yd T1.out
        obtain ⟨e0, e1, e3⟩ : w2.cell? ⟨w.heap.size, 0, none⟩ = some (.bool m1) ∧ w2.cell? ⟨w.heap.size, 1, none⟩ = some (.slice a1 x.length c1) ∧ w2.cell? ⟨w.heap.size + 1, 1, none⟩ = some (.slice a2 y.length c2) := ⟨ya (yc E2.out D0.out (by omega)) 0, ya (yc E2.out D0.out (by omega)) 1, ya (yc E2.out D1.out (by omega)) 1⟩
        have hs2 : w1.heap.size ≤ w2.heap.size := E2.out.size
        have O3 := hide o3; have N3 := hide n3; have Q3 := hide q3; have K3 := hide k3'
        clear hb1 o3 n3 q3 k3')
      |(go_at_call 223
        refine (HT.out w1.drew (E1.out.trans (HB1.out.mono E1.out.size))).mono ?_
        rintro e w2 ⟨l3, ⟨v3, rfl, hb1, o3⟩, n3, q3, k3'⟩
        obtain ⟨av3, cv3, hvf, _, _⟩ := o3.form
        subst hvf
        have E2 := hide (show Below w1.heap.size w1 w2 from HB1.out.trans (hb1.mono HB1.out.size))
        obtain ⟨e0, e1, e3⟩ : w2.cell? ⟨w.heap.size, 0, none⟩ = some (.bool m1) ∧ w2.cell? ⟨w.heap.size, 1, none⟩ = some (.slice a1 x.length c1) ∧ w2.cell? ⟨w.heap.size + 1, 1, none⟩ = some (.slice a2 y.length c2) := ⟨ya (yc E2.out D0.out (by omega)) 0, ya (yc E2.out D0.out (by omega)) 1, ya (yc E2.out D1.out (by omega)) 1⟩
        have hs2 : w1.heap.size ≤ w2.heap.size := E2.out.size
        have O3 := hide o3; have N3 := hide n3; have Q3 := hide q3; have K3 := hide k3'
        clear hb1 o3 n3 q3 k3')
      |fail)
   case' _ =>
    have TT := hide (heap_alloc_new w2 (bigO m1 (.slice av3 l3.length cv3)))
    have EE := hide (E2.out.alloc hs2 (bigO m1 (.slice av3 l3.length cv3)))
    have OO := hide ((O3.out.mono E1.out.size).keep ((Below.refl _ _).alloc (Nat.le_refl _) (bigO m1 (.slice av3 l3.length cv3))))
    obtain ⟨W, hW⟩ : ∃ W, w2.alloc (bigO m1 (.slice av3 l3.length cv3)) = W := ⟨_, rfl⟩
    rw [hW] at TT EE OO ⊢
    obtain ⟨nb, hnb⟩ : ∃ nb, w2.heap.size = nb := ⟨_, rfl⟩
    rw [hnb] at TT hs2 ⊢
    have hnb0 : w1.heap.size ≤ nb := hs2
   rotate_left
   case' _ =>
    obtain ⟨s1, s2⟩ := set2 T1.out (.bool m1) (.slice av3 l3.length cv3)
    have TT := hide s1
    have EE := hide (E2.out.trans s2)
    have OO := hide (((O3.out.other (p := ⟨w1.heap.size, 0, none⟩) (by simp) (.bool m1)).other (p := ⟨w1.heap.size, 1, none⟩) (by simp) (.slice av3 l3.length cv3)).mono (show w.heap.size ≤ _ by have := E1.out.size; simp; omega))
    clear r0 r1 g0 g1 T1 s1 s2
    obtain ⟨W, hW⟩ : ∃ W, (w2.setCell ⟨w1.heap.size, 0, none⟩ (.bool m1)).setCell ⟨w1.heap.size, 1, none⟩ (.slice av3 l3.length cv3) = W := ⟨_, rfl⟩
    rw [hW] at TT EE OO ⊢
    obtain ⟨nb, hnb⟩ : ∃ nb, w1.heap.size = nb := ⟨_, rfl⟩
    rw [hnb] at TT ⊢
    have hnb0 : w1.heap.size ≤ nb := by omega
   all_goals
    have RR := hide (yc EE.out D2.out hsr)
    have r0 := ya TT.out 0
    have r1 := ya TT.out 1
    have g0 := yf TT.out 0
    have hsl := yd TT.out
    have s0 := ya RR.out 0
    have s1 := ya RR.out 1
    have z0 := yf RR.out 0
    have z1 := yf RR.out 1
    have hsr2 := yd RR.out
    clear O3 E2 D0 D1 D2 d0 d1 d2 d3 e0 e1 e3 HB1 HB2 HP2 HT hW hnb
    have hne : ¬ w.heap.size + 2 = nb := by omega
    have hz0 : valS m1 (lv 1000000 l3) = valS m1 (lv 1000000 x) + valS (!m1) (lv 1000000 y) := by rw [Q3.out]; exact HZ.out
    have HZ2 := hide hz0
    clear hz0
    by_cases h0 : l3 = []
    ·have hl0 : ((l3.length : Int) == 0) = true := by rw [h0]; rfl
     have HL0 := hide (show valS false (lv 1000000 l3) = valS (m1) (lv 1000000 l3) by rw [h0]; cases m1 <;> rfl)
     clear h0
     go_wp2_with fail
     obtain ⟨y1, y2⟩ := set1 TT.out (.bool false)
     have RR2 := (ye (w := W) (k := 0) (v := .bool false) (show nb ≠ w.heap.size + 2 by omega)).trans RR.out
     obtain ⟨y3, y4⟩ := set2 RR2 (.bool false) (.slice av3 l3.length cv3)
     refine jM y3 rfl rfl ⟨false, _, l3, rfl, ?_, ?_, N3.out, HL0.out.trans HZ2.out, by have := K3.out; omega⟩
     ·exact E1.out.trans ((EE.out.trans (y2.mono hnb0)).mono E1.out.size |>.trans (y4.mono (by omega)))
     ·exact yO OO.out (fun r hr => by
       have := zd OO.out TT.out r hr
       have := zd OO.out RR.out r hr
       rw [ye (by omega), ye (by omega), ye (by omega)])
    ·have hl0 : ((l3.length : Int) == 0) = false := by
      have : l3.length ≠ 0 := fun h => h0 (List.eq_nil_of_length_eq_zero h)
      simp only [beq_eq_false_iff_ne, ne_eq]
      omega
     clear h0
     go_wp2_with fail
     obtain ⟨y3, y4⟩ := set2 RR.out (.bool m1) (.slice av3 l3.length cv3)
     refine jM y3 rfl rfl ⟨_, _, l3, rfl, ?_, ?_, N3.out, HZ2.out, by have := K3.out; omega⟩
     ·exact E1.out.trans (EE.out.mono E1.out.size |>.trans (y4.mono (by omega)))
     ·exact yO OO.out (fun r hr => by
       have := zd OO.out RR.out r hr
       rw [ye (by omega), ye (by omega)])
  ·have hle : lv 1000000 x ≤ lv 1000000 y := by
    have h1 := hr.1.1 (by omega)
    omega
   have HLE := hide hle
   have h0' : r < 0 := by omega
   clear hr hle hq h0
   go_wp2_with fail
   have HZ := hide (yah m1 HLE.out).symm
   obtain ⟨s1, s2⟩ := set2 D0.out (.bool (!m1)) (.slice a2 y.length c2)
   have D1' := hide ((ye (w := w1.setCell ⟨w.heap.size, 0, none⟩ (.bool (!m1))) (k := 1) (v := .slice a2 y.length c2) (show w.heap.size ≠ w.heap.size + 1 by omega)).trans ((ye (w := w1) (k := 0) (v := .bool (!m1)) (show w.heap.size ≠ w.heap.size + 1 by omega)).trans D1.out))
   have D2' := hide ((ye (w := w1.setCell ⟨w.heap.size, 0, none⟩ (.bool (!m1))) (k := 1) (v := .slice a2 y.length c2) (show w.heap.size ≠ w.heap.size + 2 by omega)).trans ((ye (w := w1) (k := 0) (v := .bool (!m1)) (show w.heap.size ≠ w.heap.size + 2 by omega)).trans D2.out))
   obtain ⟨t1, t2⟩ := set2 D1'.out (.bool m1) (.slice a1 x.length c1)
   have D0 := hide ((ye (k := 1) (v := .slice a1 x.length c1) (show w.heap.size + 1 ≠ w.heap.size by omega)).trans ((ye (k := 0) (v := .bool m1) (show w.heap.size + 1 ≠ w.heap.size by omega)).trans s1))
   have D2 := hide ((ye (k := 1) (v := .slice a1 x.length c1) (show w.heap.size + 1 ≠ w.heap.size + 2 by omega)).trans ((ye (k := 0) (v := .bool m1) (show w.heap.size + 1 ≠ w.heap.size + 2 by omega)).trans D2'.out))
   have D1 := hide t1
   have E1 := hide (E1.out.trans (s2.trans (t2.mono (by omega))))
   clear s1 s2 t1 t2 D1' D2' d0 d1 d2 d3 f0 f1 f2 f3
   obtain ⟨W1, hW1⟩ : ∃ W1, (((w1.setCell ⟨w.heap.size, 0, none⟩ (.bool (!m1))).setCell ⟨w.heap.size, 1, none⟩ (.slice a2 y.length c2)).setCell ⟨w.heap.size + 1, 0, none⟩ (.bool m1)).setCell ⟨w.heap.size + 1, 1, none⟩ (.slice a1 x.length c1) = W1 := ⟨_, rfl⟩
   rw [hW1] at D0 D1 D2 E1 ⊢
   obtain ⟨d0, d1, d2, d3⟩ : W1.cell? ⟨w.heap.size, 0, none⟩ = some (.bool !m1) ∧ W1.cell? ⟨w.heap.size, 1, none⟩ = some (.slice a2 y.length c2) ∧ W1.cell? ⟨w.heap.size + 1, 0, none⟩ = some (.bool m1) ∧ W1.cell? ⟨w.heap.size + 1, 1, none⟩ = some (.slice a1 x.length c1) := ⟨ya D0.out 0, ya D0.out 1, ya D1.out 0, ya D1.out 1⟩
   have hsr := yd D2.out
   clear hW1
   have HT := hide (fun W2 (h : Below w.heap.size w W2) => vo (.slice a2 y.length c2) (.slice a1 x.length c1) y x w.heap.size W2 (HB.out.below h (Nat.le_refl _)) (HA.out.below h (Nat.le_refl _)) h.size HY.out.lt HX.out (by omega) HLE.out)
   have HB1 := hide (show Below W1.heap.size W1 W1.drew from (Below.refl _ _).drew)
   have HB2 := hide (show Below W1.heap.size W1 (W1.drew.alloc (bigO false (.slice none 0 0))) from (Below.refl _ _).drew.alloc (Nat.le_refl _) _)
   have HP2 := hide (show (W1.drew.alloc (bigO false (.slice none 0 0))).heap[W1.heap.size]? = some (bigO false (.slice none 0 0)) from heap_alloc_new W1.drew _)
   go_region_held3 (fun w' => w'.cell? ⟨w.heap.size, 0, none⟩ = some (.bool (!m1)) ∧ w'.cell? ⟨w.heap.size, 1, none⟩ = some (.slice a2 y.length c2) ∧ w'.cell? ⟨w.heap.size + 1, 1, none⟩ = some (.slice a1 x.length c1)) (first | exact ⟨d0, d1, d3⟩ | exact ⟨e0, e1, e3⟩ | exact ⟨(yN (by omega)).trans e0, (yN (by omega)).trans e1, (yN (by omega)).trans e3⟩ | exact ⟨(yG (by omega)).trans e0, (yG (by omega)).trans e1, (yG (by omega)).trans e3⟩ | go_keep)
    (first
      |(go_at_call 223
        refine (HT.out (W1.drew.alloc (bigO false (.slice none 0 0))) (E1.out.trans (HB2.out.mono E1.out.size))).mono ?_
        rintro e w2 ⟨l3, ⟨v3, rfl, hb1, o3⟩, n3, q3, k3'⟩
        obtain ⟨av3, cv3, hvf, _, _⟩ := o3.form
        subst hvf
        have E2 := hide (show Below W1.heap.size W1 w2 from HB2.out.trans (hb1.mono HB2.out.size))
        have T1 := bh hb1 HP2
        have r0 := ya T1.out 0
        have r1 := ya T1.out 1
        have g0 := yf T1.out 0
        have g1 := yf T1.out 1
        have hsl := yd T1.out
        obtain ⟨e0, e1, e3⟩ : w2.cell? ⟨w.heap.size, 0, none⟩ = some (.bool (!m1)) ∧ w2.cell? ⟨w.heap.size, 1, none⟩ = some (.slice a2 y.length c2) ∧ w2.cell? ⟨w.heap.size + 1, 1, none⟩ = some (.slice a1 x.length c1) := ⟨ya (yc E2.out D0.out (by omega)) 0, ya (yc E2.out D0.out (by omega)) 1, ya (yc E2.out D1.out (by omega)) 1⟩
        have hs2 : W1.heap.size ≤ w2.heap.size := E2.out.size
        have O3 := hide o3; have N3 := hide n3; have Q3 := hide q3; have K3 := hide k3'
        clear hb1 o3 n3 q3 k3')
      |(go_at_call 223
        refine (HT.out W1.drew (E1.out.trans (HB1.out.mono E1.out.size))).mono ?_
        rintro e w2 ⟨l3, ⟨v3, rfl, hb1, o3⟩, n3, q3, k3'⟩
        obtain ⟨av3, cv3, hvf, _, _⟩ := o3.form
        subst hvf
        have E2 := hide (show Below W1.heap.size W1 w2 from HB1.out.trans (hb1.mono HB1.out.size))
        obtain ⟨e0, e1, e3⟩ : w2.cell? ⟨w.heap.size, 0, none⟩ = some (.bool (!m1)) ∧ w2.cell? ⟨w.heap.size, 1, none⟩ = some (.slice a2 y.length c2) ∧ w2.cell? ⟨w.heap.size + 1, 1, none⟩ = some (.slice a1 x.length c1) := ⟨ya (yc E2.out D0.out (by omega)) 0, ya (yc E2.out D0.out (by omega)) 1, ya (yc E2.out D1.out (by omega)) 1⟩
        have hs2 : W1.heap.size ≤ w2.heap.size := E2.out.size
        have O3 := hide o3; have N3 := hide n3; have Q3 := hide q3; have K3 := hide k3'
        clear hb1 o3 n3 q3 k3')
      |fail)
   case' _ =>
    have TT := hide (heap_alloc_new w2 (bigO (!m1) (.slice av3 l3.length cv3)))
    have EE := hide (E2.out.alloc hs2 (bigO (!m1) (.slice av3 l3.length cv3)))
    have OO := hide ((O3.out.mono E1.out.size).keep ((Below.refl _ _).alloc (Nat.le_refl _) (bigO (!m1) (.slice av3 l3.length cv3))))
    obtain ⟨W, hW⟩ : ∃ W, w2.alloc (bigO (!m1) (.slice av3 l3.length cv3)) = W := ⟨_, rfl⟩
    rw [hW] at TT EE OO ⊢
    obtain ⟨nb, hnb⟩ : ∃ nb, w2.heap.size = nb := ⟨_, rfl⟩
    rw [hnb] at TT hs2 ⊢
    have hnb0 : W1.heap.size ≤ nb := hs2
   rotate_left
   case' _ =>
    obtain ⟨s1, s2⟩ := set2 T1.out (.bool (!m1)) (.slice av3 l3.length cv3)
    have TT := hide s1
    have EE := hide (E2.out.trans s2)
    have OO := hide (((O3.out.other (p := ⟨W1.heap.size, 0, none⟩) (by simp) (.bool (!m1))).other (p := ⟨W1.heap.size, 1, none⟩) (by simp) (.slice av3 l3.length cv3)).mono (show w.heap.size ≤ _ by have := E1.out.size; simp; omega))
    clear r0 r1 g0 g1 T1 s1 s2
    obtain ⟨W, hW⟩ : ∃ W, (w2.setCell ⟨W1.heap.size, 0, none⟩ (.bool (!m1))).setCell ⟨W1.heap.size, 1, none⟩ (.slice av3 l3.length cv3) = W := ⟨_, rfl⟩
    rw [hW] at TT EE OO ⊢
    obtain ⟨nb, hnb⟩ : ∃ nb, W1.heap.size = nb := ⟨_, rfl⟩
    rw [hnb] at TT ⊢
    have hnb0 : W1.heap.size ≤ nb := by omega
   all_goals
    have RR := hide (yc EE.out D2.out hsr)
    have r0 := ya TT.out 0
    have r1 := ya TT.out 1
    have g0 := yf TT.out 0
    have hsl := yd TT.out
    have s0 := ya RR.out 0
    have s1 := ya RR.out 1
    have z0 := yf RR.out 0
    have z1 := yf RR.out 1
    have hsr2 := yd RR.out
    clear O3 E2 D0 D1 D2 d0 d1 d2 d3 e0 e1 e3 HB1 HB2 HP2 HT hW hnb
    have hne : ¬ w.heap.size + 2 = nb := by omega
    have hz0 : valS (!m1) (lv 1000000 l3) = valS m1 (lv 1000000 x) + valS (!m1) (lv 1000000 y) := by rw [Q3.out]; exact HZ.out
    have HZ2 := hide hz0
    clear hz0
    by_cases h0 : l3 = []
    ·have hl0 : ((l3.length : Int) == 0) = true := by rw [h0]; rfl
     have HL0 := hide (show valS false (lv 1000000 l3) = valS ((!m1)) (lv 1000000 l3) by rw [h0]; cases (!m1) <;> rfl)
     clear h0
     go_wp2_with fail
     obtain ⟨y1, y2⟩ := set1 TT.out (.bool false)
     have RR2 := (ye (w := W) (k := 0) (v := .bool false) (show nb ≠ w.heap.size + 2 by omega)).trans RR.out
     obtain ⟨y3, y4⟩ := set2 RR2 (.bool false) (.slice av3 l3.length cv3)
     refine jM y3 rfl rfl ⟨false, _, l3, rfl, ?_, ?_, N3.out, HL0.out.trans HZ2.out, by have := K3.out; omega⟩
     ·exact E1.out.trans ((EE.out.trans (y2.mono hnb0)).mono E1.out.size |>.trans (y4.mono (by omega)))
     ·exact yO OO.out (fun r hr => by
       have := zd OO.out TT.out r hr
       have := zd OO.out RR.out r hr
       rw [ye (by omega), ye (by omega), ye (by omega)])
    ·have hl0 : ((l3.length : Int) == 0) = false := by
      have : l3.length ≠ 0 := fun h => h0 (List.eq_nil_of_length_eq_zero h)
      simp only [beq_eq_false_iff_ne, ne_eq]
      omega
     clear h0
     go_wp2_with fail
     obtain ⟨y3, y4⟩ := set2 RR.out (.bool (!m1)) (.slice av3 l3.length cv3)
     refine jM y3 rfl rfl ⟨_, _, l3, rfl, ?_, ?_, N3.out, HZ2.out, by have := K3.out; omega⟩
     ·exact E1.out.trans (EE.out.mono E1.out.size |>.trans (y4.mono (by omega)))
     ·exact yO OO.out (fun r hr => by
       have := zd OO.out RR.out r hr
       rw [ye (by omega), ye (by omega)])

theorem ygr {m : Bool} {l : List Nat} (h : Lt 1000000 l) (hl : l.length ≤ 100000) : (strB (Lib.itoa (valS m (lv 1000000 l)))).size ≤ 700000 := by
 rw [yu]
 have h1 := xB h
 have h2 : (Lib.decDigits (lv 1000000 l)).length ≤ 6 * l.length + 1 := (yn (by omega)).2 (Nat.lt_of_lt_of_le h1 (by
  rw [show (1000000 : Nat) = 10 ^ 6 by decide, ← Nat.pow_mul]
  exact Nat.pow_le_pow_right (by omega) (by omega)))
 have h3 : (valS m (lv 1000000 l)).natAbs = lv 1000000 l := by cases m <;> simp [valS]
 rcases yo (valS m (lv 1000000 l)) with ⟨_, h4⟩ | ⟨_, h4⟩
 ·rw [h4, List.length_cons, h3]
  omega
 ·rw [h4, h3]
  omega
theorem jk (m : Bool) (v : Value) (l : List Nat) (B : Nat) (w : World) (h : LimbAt B w v l) (hB : B ≤ w.heap.size) (hn : Norm 1000000 l) (hl : l.length ≤ 100000) :
 Calls Tryz.prog 187 #[numV m v] w (Ret w (pairV (resS (valS m (lv 1000000 l))) (resE (valS m (lv 1000000 l))))) := by
 obtain ⟨a0, c0, hv⟩ := h.form
 subst hv
 have HW := hide (fun w2 (hb : Below w.heap.size w w2) => je m _ l B w2 (h.below hb hB) (by have := hb.size; omega) hn hl)
 have hsz := ygr (m := m) hn.lt hl
 clear h hn
 obtain ⟨n, hnn⟩ := xe l.length
 rw [← hnn] at hl HW ⊢
 clear hnn
 obtain ⟨z, hz⟩ := xe (valS m (lv 1000000 l))
 rw [← hz] at HW hsz ⊢
 clear hz
 obtain ⟨b0, bs0, bb0⟩ := heap1 w (.cells #[.bool m, .slice a0 n c0] 222)
 have BB := hide bb0
 have c0' := ya b0 0
 have c1' := ya b0 1
 clear b0 bs0 bb0
 have hck := vB z
 obtain ⟨t, ht⟩ := xe (strB (Lib.itoa z))
 have HC := hide (fun w => vd t (by rw [ht]; omega) w)
 rw [show t.data.toList = Lib.itoa z by rw [ht, yh], hck] at HC
 rw [← ht] at HW
 clear hck hsz
 by_cases hf : fits z
 ·have HE := hide (show pairV (resS z) (resE z) = .tuple #[.string t, .int .i64 0] by
   unfold resS resE
   rw [if_pos hf, if_pos hf, ht])
  rw [if_pos hf] at HC
  clear hf ht
  go_enter Tryz.func187, Tryz.ntmps187
  go_wp2_with fail
  refine (HW.out _ BB.out).mono ?_
  rintro e w1 ⟨rfl, hb1⟩
  have HB1 := hide (BB.out.trans (hb1.mono (by have := BB.out.size; omega)))
  clear hb1 HW c0' c1' BB
  go_wp2_with fail
  refine (HC.out _).mono ?_
  rintro e w2 ⟨rfl, hb2⟩
  have HB2 := bt HB1 hb2
  clear hb2 HC HB1
  go_wp2_with fail
  refine bodyPost_ret (results_tmp2 rfl _ _ _) rfl ?_
  rw [HE.out]
  exact ⟨rfl, HB2.out⟩
 ·have HE := hide (show pairV (resS z) (resE z) = .tuple #[.string ⟨#[]⟩, .int .i64 4] by
   unfold resS resE
   rw [if_neg hf, if_neg hf]
   rfl)
  rw [if_neg hf] at HC
  clear hf ht
  go_enter Tryz.func187, Tryz.ntmps187
  go_wp2_with fail
  refine (HW.out _ BB.out).mono ?_
  rintro e w1 ⟨rfl, hb1⟩
  have HB1 := hide (BB.out.trans (hb1.mono (by have := BB.out.size; omega)))
  clear hb1 HW c0' c1' BB
  go_wp2_with fail
  refine (HC.out _).mono ?_
  rintro e w2 ⟨rfl, hb2⟩
  have HB2 := bt HB1 hb2
  clear hb2 HC HB1
  go_wp2_with fail
  refine bodyPost_ret (results_tmp2 rfl _ _ _) rfl ?_
  rw [HE.out]
  exact ⟨rfl, HB2.out⟩

theorem pow17 : (10 : Nat) ^ 17 = 100000000000000000 := by decide
theorem ygD (s t : ByteArray) (B : Nat) (w : World) (hs : s.size ≤ 1000000) (ht : t.size ≤ 1000000) (hB : B ≤ w.heap.size) (hT : P10 B w) :
 Calls Tryz.prog 141 #[.string s, .string t] w (Ret w (pairV (op2S (· + ·) s.data.toList t.data.toList) (op2E (· + ·) s.data.toList t.data.toList))) := by
 have H1 := hide (qH s t hs ht w)
 have HT := hide hT
 by_cases hE : bothI s.data.toList t.data.toList = 0
 ·obtain ⟨c1, c2, e1, e2⟩ := zE (f := (· + ·)) hE
  rw [e1, e2]
  have C1 := hide c1; have C2 := hide c2
  rw [hE] at H1
  clear e1 e2 hE hT hs ht
  by_cases hsm : s.size ≤ 17 ∧ t.size ≤ 17
  ·have H2 := hide (fun w => vl s t c1 c2 (by omega) (by omega) w)
   have v1 := yK (n := 17) c1 (by rw [yg]; omega) (by omega)
   have v2 := yK (n := 17) c2 (by rw [yg]; omega) (by omega)
   rw [pow17] at v1 v2
   obtain ⟨x, hx⟩ := xe (valI s.data.toList)
   obtain ⟨y, hy⟩ := xe (valI t.data.toList)
   rw [← hx, ← hy] at H2 ⊢
   rw [← hx] at v1
   rw [← hy] at v2
   obtain ⟨z, hz⟩ := xe (x + y)
   have hw : IntKind.i64.wrap (x + y) = z := by rw [hz]; exact IntWalk.i64_in _ (by omega)
   obtain ⟨e3, e4⟩ := qZ (z := z) (Nat.lt_of_lt_of_le (m := 10 ^ 19) (by omega) (Nat.pow_le_pow_right (by omega) (by omega)))
   have hz1 : -9223372036854775808 ≤ z := by omega
   have hz2 : z ≤ 9223372036854775807 := by omega
   show Calls _ _ _ _ (Ret w (pairV (resS (x + y)) (resE (x + y))))
   rw [← hz, e3, e4]
   clear c1 c2 hsm hx hy hz e3 e4
   go_enter Tryz.func141, Tryz.ntmps141
   go_wp2_with fail
   refine H1.out.mono ?_
   rintro e w1 ⟨rfl, hb1⟩
   have HB1 := hide hb1
   clear hb1 H1
   go_wp2_with fail
   refine (H2.out _).mono ?_
   rintro e w2 ⟨rfl, hb2⟩
   have HB2 := bt HB1 hb2
   clear hb2 H2 HB1
   go_wp2_with fail
   refine (yl z hz1 hz2 B w2 (HT.out.on HB2.out hB)).mono ?_
   rintro e w3 ⟨rfl, hb3⟩
   have HB3 := bt HB2 hb3
   clear hb3 HB2
   go_wp2_with fail
   refine bodyPost_ret (results_tmp2 rfl _ _ _) rfl ?_
   exact ⟨rfl, HB3.out⟩
  ·have H2 := hide (fun w => wM s t c1 hsm w)
   have R1 := hide (fun w => ze s c1 w)
   have R2 := hide (fun w => ze t c2 w)
   clear c1 c2 hsm
   go_enter Tryz.func141, Tryz.ntmps141
   go_wp2_with fail
   refine H1.out.mono ?_
   rintro e w1 ⟨rfl, hb1⟩
   have HB1 := hide hb1
   clear hb1 H1
   go_wp2_with fail
   refine (H2.out _).mono ?_
   rintro e w2 ⟨x0, y0, rfl, hb2⟩
   have HB2 := bt HB1 hb2
   clear hb2 H2 HB1
   go_wp2_with fail
   refine (R1.out _).mono ?_
   rintro e w3 ⟨m1, v1, l1, rfl, hb3, o1, n1, q1, k1⟩
   obtain ⟨a1, g1, hvf, _, _⟩ := o1.form
   subst hvf
   have HB3 := bt HB2 hb3
   have O1 := hide o1; have N1 := hide n1; have Q1 := hide q1
   clear hb3 HB2 R1 o1 n1 q1
   go_wp2_with fail
   refine (R2.out _).mono ?_
   rintro e w4 ⟨m2, v2, l2, rfl, hb4, o2, n2, q2, k2⟩
   obtain ⟨a2, g2, hvf, _, _⟩ := o2.form
   subst hvf
   have HB4 := bt HB3 hb4
   have O1' := hide (O1.out.keep hb4)
   have O2 := hide o2; have N2 := hide n2; have Q2 := hide q2
   clear hb4 HB3 R2 o2 n2 q2 O1
   go_wp2_with fail
   refine (kQ m1 m2 a1 a2 g1 g2 l1 l2 w4 (.yx O1'.out) (.yx O2.out) N1.out N2.out (by omega) (by omega)).mono ?_
   rintro e w5 ⟨m3, v3, l3, rfl, hb5, o3, n3, q3, k3⟩
   obtain ⟨a3, g3, hvf, _, _⟩ := o3.form
   subst hvf
   have HB5 := bt HB4 hb5
   have O3 := hide o3; have N3 := hide n3
   rw [Q1.out, Q2.out] at q3
   have Q3 := hide q3
   clear hb5 HB4 O1' O2 N1 N2 Q1 Q2 o3 n3 q3
   go_wp2_with fail
   refine (jk m3 _ l3 w5.heap.size w5 (.yx O3.out) (Nat.le_refl _) N3.out (by omega)).mono ?_
   rintro e w6 ⟨rfl, hb6⟩
   rw [Q3.out]
   have HB6 := bt HB5 hb6
   clear hb6 HB5
   go_wp2_with fail
   refine bodyPost_ret (results_tmp2 rfl _ _ _) rfl ?_
   exact ⟨rfl, HB6.out⟩
 ·obtain ⟨e1, e2⟩ := wJ (f := (· + ·)) hE
  rw [e1, e2]
  have hne : (bothI s.data.toList t.data.toList != 0) = true := by simpa using hE
  obtain ⟨E, hEE⟩ := xe (bothI s.data.toList t.data.toList)
  rw [← hEE] at H1 hne ⊢
  clear e1 e2 hE hEE hT
  go_enter Tryz.func141, Tryz.ntmps141
  go_wp2_with fail
  refine H1.out.mono ?_
  rintro e w1 ⟨rfl, hb1⟩
  have HB1 := hide hb1
  clear hb1 H1
  go_wp2_with fail
  refine bodyPost_ret (results_tmp2 rfl _ _ _) rfl ?_
  exact ⟨rfl, HB1.out⟩
def TwoRes (s t : ByteArray) (w : World) (e : Ending) (w2 : World) : Prop := ∃ (x y : Int) (i : Bool), Ret w (.tuple #[.int .i64 x, .int .i64 y, .bool i]) e w2 ∧ (i = true → s.size ≤ 17 ∧ t.size ≤ 17)
theorem yin (s t : ByteArray) (c1 : chkI s.data.toList = 0) (c2 : chkI t.data.toList = 0) (w : World) :
 Calls Tryz.prog 186 #[.string s, .string t] w (TwoRes s t w) := by
 by_cases h : s.size ≤ 17 ∧ t.size ≤ 17
 ·exact (vl s t c1 c2 h.1 h.2 w).mono (fun e w2 hr => ⟨_, _, true, hr, fun _ => h⟩)
 ·exact (wM s t c1 h w).mono (fun e w2 ⟨x, y, hr⟩ => ⟨x, y, false, hr, fun h => by cases h⟩)
theorem ygP (s t : ByteArray) (B : Nat) (w : World) (hs : s.size ≤ 1000000) (ht : t.size ≤ 1000000) (hB : B ≤ w.heap.size) (hT : P10 B w) :
 Calls Tryz.prog 158 #[.string s, .string t] w (Ret w (pairV (op2S (· * ·) s.data.toList t.data.toList) (op2E (· * ·) s.data.toList t.data.toList))) := by
 have H1 := hide (qH s t hs ht w)
 have HT := hide hT
 by_cases hE : bothI s.data.toList t.data.toList = 0
 ·obtain ⟨c1, c2, e1, e2⟩ := zE (f := (· * ·)) hE
  rw [e1, e2]
  have C1 := hide c1; have C2 := hide c2
  rw [hE] at H1
  clear e1 e2 hE hT hs ht
  by_cases hsm : s.size ≤ 17 ∧ t.size ≤ 17 ∧ s.size + t.size ≤ 18
  ·have H2 := hide (fun w => vl s t c1 c2 (by omega) (by omega) w)
   have z1 := jL c1
   have z2 := jL c2
   rw [yg] at z1 z2
   have v1 := yK (n := s.size) c1 (by rw [yg]; exact Nat.le_refl _) z1
   have v2 := yK (n := t.size) c2 (by rw [yg]; exact Nat.le_refl _) z2
   obtain ⟨x, hx⟩ := xe (valI s.data.toList)
   obtain ⟨y, hy⟩ := xe (valI t.data.toList)
   rw [← hx, ← hy] at H2 ⊢
   rw [← hx] at v1
   rw [← hy] at v2
   obtain ⟨z, hz⟩ := xe (x * y)
   have hzz : z.natAbs < 1000000000000000000 := by
    rw [hz, Int.natAbs_mul, ← pow18]
    refine Nat.lt_of_lt_of_le (Nat.mul_lt_mul'' v1 v2) ?_
    rw [← Nat.pow_add]
    exact Nat.pow_le_pow_right (by omega) (by omega)
   have hw : IntKind.i64.wrap (x * y) = z := by rw [← hz]; exact IntWalk.i64_in _ (by omega)
   obtain ⟨e3, e4⟩ := qZ (z := z) (Nat.lt_of_lt_of_le (m := 10 ^ 19) (by omega) (Nat.pow_le_pow_right (by omega) (by omega)))
   have hz1 : -9223372036854775808 ≤ z := by omega
   have hz2 : z ≤ 9223372036854775807 := by omega
   have hle : (s.size : Int) + (t.size : Int) ≤ 18 := by omega
   clear v1 v2 z1 z2 hzz
   show Calls _ _ _ _ (Ret w (pairV (resS (x * y)) (resE (x * y))))
   rw [← hz, e3, e4]
   clear c1 c2 hsm hx hy hz e3 e4
   go_enter Tryz.func158, Tryz.ntmps158
   go_wp2_with fail
   refine H1.out.mono ?_
   rintro e w1 ⟨rfl, hb1⟩
   have HB1 := hide hb1
   clear hb1 H1
   go_wp2_with fail
   refine (H2.out _).mono ?_
   rintro e w2 ⟨rfl, hb2⟩
   have HB2 := bt HB1 hb2
   clear hb2 H2 HB1
   go_wp2_with fail
   refine (yl z hz1 hz2 B w2 (HT.out.on HB2.out hB)).mono ?_
   rintro e w3 ⟨rfl, hb3⟩
   have HB3 := bt HB2 hb3
   clear hb3 HB2
   go_wp2_with fail
   refine bodyPost_ret (results_tmp2 rfl _ _ _) rfl ?_
   exact ⟨rfl, HB3.out⟩
  ·have H2 := hide (fun w => yin s t c1 c2 w)
   have R1 := hide (fun w => ze s c1 w)
   have R2 := hide (fun w => ze t c2 w)
   clear c1 c2
   go_enter Tryz.func158, Tryz.ntmps158
   go_wp2_with fail
   refine H1.out.mono ?_
   rintro e w1 ⟨rfl, hb1⟩
   have HB1 := hide hb1
   clear hb1 H1
   go_wp2_with fail
   refine (H2.out _).mono ?_
   rintro e w2 ⟨x0, y0, I0, ⟨rfl, hb2⟩, hI0⟩
   have HB2 := bt HB1 hb2
   clear hb2 H2 HB1
   have hcl : I0 = false ∨ (I0 = true ∧ s.size ≤ 17 ∧ t.size ≤ 17 ∧ ((s.size : Int) + (t.size : Int) ≤ 18) = False) := by
    cases hI : I0
    ·exact .inl rfl
    ·have := hI0 hI
     exact .inr ⟨rfl, this.1, this.2, eq_false (by omega)⟩
   clear hsm hI0
   rcases hcl with rfl | ⟨rfl, hs17, ht17, hgt⟩
   all_goals
    go_wp2_with fail
    refine (R1.out _).mono ?_
    rintro e w3 ⟨m1, v1, l1, rfl, hb3, o1, n1, q1, k1⟩
    obtain ⟨a1, g1, hvf, _, _⟩ := o1.form
    subst hvf
    have HB3 := bt HB2 hb3
    have O1 := hide o1; have N1 := hide n1; have Q1 := hide q1
    clear hb3 HB2 R1 o1 n1 q1
    go_wp2_with fail
    refine (R2.out _).mono ?_
    rintro e w4 ⟨m2, v2, l2, rfl, hb4, o2, n2, q2, k2⟩
    obtain ⟨a2, g2, hvf, _, _⟩ := o2.form
    subst hvf
    have HB4 := bt HB3 hb4
    have O1' := hide (O1.out.keep hb4)
    have O2 := hide o2; have N2 := hide n2; have Q2 := hide q2
    clear hb4 HB3 R2 o2 n2 q2 O1
    go_wp2_with fail
    refine (ygN m1 m2 a1 a2 g1 g2 l1 l2 w4 (.yx O1'.out) (.yx O2.out) N1.out.lt N2.out.lt (by omega) (by omega)).mono ?_
    rintro e w5 ⟨m3, v3, l3, rfl, hb5, o3, n3, q3, k3⟩
    obtain ⟨a3, g3, hvf, _, _⟩ := o3.form
    subst hvf
    have HB5 := bt HB4 hb5
    have O3 := hide o3; have N3 := hide n3
    rw [Q1.out, Q2.out] at q3
    have Q3 := hide q3
    clear hb5 HB4 O1' O2 N1 N2 Q1 Q2 o3 n3 q3
    go_wp2_with fail
    refine (jk m3 _ l3 w5.heap.size w5 (.yx O3.out) (Nat.le_refl _) N3.out (by omega)).mono ?_
    rintro e w6 ⟨rfl, hb6⟩
    rw [Q3.out]
    have HB6 := bt HB5 hb6
    clear hb6 HB5
    go_wp2_with fail
    refine bodyPost_ret (results_tmp2 rfl _ _ _) rfl ?_
    exact ⟨rfl, HB6.out⟩
 ·obtain ⟨e1, e2⟩ := wJ (f := (· * ·)) hE
  rw [e1, e2]
  have hne : (bothI s.data.toList t.data.toList != 0) = true := by simpa using hE
  obtain ⟨E, hEE⟩ := xe (bothI s.data.toList t.data.toList)
  rw [← hEE] at H1 hne ⊢
  clear e1 e2 hE hEE hT
  go_enter Tryz.func158, Tryz.ntmps158
  go_wp2_with fail
  refine H1.out.mono ?_
  rintro e w1 ⟨rfl, hb1⟩
  have HB1 := hide hb1
  clear hb1 H1
  go_wp2_with fail
  refine bodyPost_ret (results_tmp2 rfl _ _ _) rfl ?_
  exact ⟨rfl, HB1.out⟩

theorem yfe {b1 b0 : Nat} (h1 : b1 < 1000000) (h0 : b0 < 1000000) : ∃ T : Nat, T = b1 * 1000000 + b0 ∧ IntKind.i64.wrap ((b1 : Int) * 1000000) = (b1 : Int) * 1000000 ∧ IntKind.i64.wrap ((b1 : Int) * 1000000 + (b0 : Int)) = (T : Int) ∧ T < 1000000000000 := by
 refine ⟨b1 * 1000000 + b0, rfl, IntWalk.i64_in _ (by omega), ?_, by omega⟩
 rw [IntWalk.i64_in _ (by omega)]
 omega
def TrimRes (base : Nat) (l : List Nat) (W : World) (e : Ending) (w2 : World) : Prop := W = w2 ∧ ∃ v, e = .returned v ∧ OwnL base W v (trimL l)
theorem wb (base : Nat) (v : Value) (l : List Nat) (W : World) (h : OwnL base W v l) (hl : l.length ≤ 1000000) :
 Calls Tryz.prog 224 #[v] W (TrimRes base l W) := by
 obtain ⟨a, c, rfl, hc, _⟩ := h.form
 refine (zy a c l W.heap.size W h.at_ hc hl).mono ?_
 rintro e w2 ⟨rfl, rfl⟩
 exact ⟨rfl, _, rfl, h.cut (yj _ _)⟩
theorem jy (va vb : Value) (x y : List Nat) (B : Nat) (w : World) (ha : LimbAt B w va x) (hb : LimbAt B w vb y) (hB : B ≤ w.heap.size) (hx : Lt 1000000 x) (hy : Norm 1000000 y) (hy0 : y ≠ []) (lx : x.length ≤ 1000) (ly : y.length ≤ 1000) :
 Calls Tryz.prog 205 #[va, vb] w (RDivRes x y w) := by
 obtain ⟨a0, c0, hva⟩ := ha.form
 obtain ⟨a1, c1, hvb⟩ := hb.form
 subst hva; subst hvb
 have HA := hide ha; have HBB := hide hb; have HX := hide hx; have HY := hide hy
 have hyp : 1 ≤ lv 1000000 y := by
  have h1 := hy.ge hy0
  have h2 : 0 < 1000000 ^ (y.length - 1) := Nat.pow_pos (by omega)
  omega
 have HYP := hide hyp
 have hpos : y.length ≠ 0 := fun h => hy0 (List.eq_nil_of_length_eq_zero h)
 obtain ⟨N, hN⟩ := xe x.length
 have HN := hide hN
 rw [← hN] at lx HA ⊢
 obtain ⟨n, hn⟩ := xe y.length
 have HNY := hide hn
 rw [← hn] at ly hpos ⊢
 rcases hb.cases with ⟨_, _, _, hnil⟩ | ⟨gb, ob, capb, hvb, hgb, hcb⟩
 ·exact absurd hnil hy0
 rw [← hn] at hvb
 injection hvb with hv1 hv2 hv3
 subst hv1; subst hv3
 clear ha hb hx hy hy0 hN hv2 hyp
 by_cases h1 : n = 1
 ·have hq : ((n : Int) == 1) = true := by rw [h1]; rfl
  have hcell := hcb 0 (by rw [← hn]; omega)
  obtain ⟨d, hd⟩ := xe (lat y 0)
  rw [← hd, Nat.add_zero] at hcell
  have hyd : y = [d] := by
   match y, hn with
   | [], hn => simp at hn; omega
   | [c], _ => rw [hd]; rfl
   | _ :: _ :: _, hn => simp at hn; omega
  have hd1 : 1 ≤ d := by have := HYP.out; rw [hyd] at this; simpa [lv] using this
  have hd2 : d < 1000000 := HY.out.lt d (by rw [hyd]; simp)
  have HS := hide (yeL (.slice a0 N c0) x d B w HA.out hB HX.out (by rw [← HN.out]; omega) hd1 hd2)
  rw [← hyd] at HS
  have hn0 : (0 : Int) < (n : Int) := by omega
  clear hcb hd hyd h1 hn hpos
  go_enter Tryz.func205, Tryz.ntmps205
  go_wp2_with fail
  refine HS.out.mono ?_
  rintro e w1 ⟨vq, vr, q, r, rfl, hb1, oq, or_, nq, nr, eq, er, lq⟩
  have HR := hide (show RDivRes x y w (.returned (.tuple #[vq, vr])) w1 from ⟨vq, vr, q, r, rfl, hb1, oq, or_, nq, nr, eq, er, lq⟩)
  clear hb1 oq or_ nq nr eq er lq HS
  go_wp2_with fail
  refine bodyPost_ret (results_tmp2 rfl _ _ _) rfl ?_
  exact HR.out
 ·have hq : ((n : Int) == 1) = false := by
   simp only [beq_eq_false_iff_ne, ne_eq]
   omega
  obtain ⟨m, hm⟩ : ∃ m, n = m + 2 := ⟨n - 2, by omega⟩
  have hi1 : IntKind.i64.wrap ((n : Int) - 1) = ((m + 1 : Nat) : Int) := by rw [IntWalk.i64_in _ (by omega)]; omega
  have hi2 : IntKind.i64.wrap ((n : Int) - 2) = (m : Int) := by rw [IntWalk.i64_in _ (by omega)]; omega
  have hm1 : ((m + 1 : Nat) : Int) < (n : Int) := by omega
  have hm0 : (m : Int) < (n : Int) := by omega
  have hcell1 := hcb (m + 1) (by rw [← hn]; omega)
  have hcell0 := hcb m (by rw [← hn]; omega)
  have hb1l := yF (by omega) HY.out.lt (m + 1)
  have hb0l := yF (by omega) HY.out.lt m
  have HTOP := hide (up2 HY.out.lt (m := m) (by rw [← hn]; omega))
  obtain ⟨b1, hb1⟩ := xe (lat y (m + 1))
  obtain ⟨b0, hb0⟩ := xe (lat y m)
  rw [← hb1] at hcell1 hb1l HTOP
  rw [← hb0] at hcell0 hb0l HTOP
  obtain ⟨T, hT, hw1, hw2, hTl⟩ := yfe hb1l hb0l
  rw [← hT] at HTOP
  have hmk := qE N (by omega)
  have HM := hide hm
  clear hcb hn h1 hpos hb1 hb0 hT hm
  go_enter Tryz.func205, Tryz.ntmps205
  go_wp2_with fail
  go_quiet (fail)
  clear hw1 hw2 hi1 hi2 hcell1 hcell0 hm1 hm0 hb1l hb0l
  go_wp2_with fail
  have hw1s : ((w.drewN nq).alloc (rowO (zeros N))).heap.size = w.heap.size + 1 := by simp
  have HE0 := hide (show OwnL (w.heap.size + 1) (((w.drewN nq).alloc (rowO (zeros N))).alloc (.cells #[] 3)) (.slice (some ⟨w.heap.size + 1, 0, none⟩) 0 0) [] by
   have h := wI ((w.drewN nq).alloc (rowO (zeros N)))
   rw [hw1s] at h
   exact h)
  have HQ0 := hide (show (((w.drewN nq).alloc (rowO (zeros N))).alloc (.cells #[] 3)).heap[w.heap.size]? = some (rowO (zeros N)) from (Below.heap_alloc _ _ _ (by simp)).trans (heap_alloc_new (w.drewN nq) _))
  have HB0 := hide (show Below w.heap.size w (((w.drewN nq).alloc (rowO (zeros N))).alloc (.cells #[] 3)) from ((below_drewN (Below.refl w.heap.size w) nq).alloc (Nat.le_refl _) _).alloc (by simp) _)
  obtain ⟨w1, hw1⟩ : ∃ w1, ((w.drewN nq).alloc (rowO (zeros N))).alloc (.cells #[] 3) = w1 := ⟨_, rfl⟩
  rw [hw1] at HE0 HQ0 HB0 ⊢
  clear hmk hw1s hw1
  obtain ⟨Y, hY⟩ := xe (lv 1000000 y)
  have HYV := hide hY
  clear hY
  obtain ⟨m1, hm1⟩ := xe (m + 1)
  have HM1 := hide hm1
  have hj1 : (n : Int) - 1 = (m1 : Int) := by have := HM.out; omega
  have hj2 : (n : Int) - 2 = (m : Int) := by have := HM.out; omega
  have hmn : m ≤ 1000 := by have := HM.out; omega
  have hmn1 : m1 ≤ 1001 := by omega
  clear hm1
  go_loopw [9, 10] (fun v i wr => ∃ k : Nat, k ≤ N ∧ i = .int .i64 ((N : Int) - 1 - k) ∧ Hid (∃ Q R : List Nat, RDivAt x Y k Q (lv 1000000 R) ∧ OwnL (w.heap.size + 1) wr v R ∧ Norm 1000000 R ∧ wr.heap[w.heap.size]? = some (rowO Q) ∧ Below w.heap.size w wr)) (fun _ i _ => (intOf i + 1).toNat)
  case atStart => exact ⟨0, Nat.zero_le _, by simp, zeros N, [], by have := RDivAt.start x HYP.out; rw [← HN.out, ← HYV.out] at this; exact this, HE0.out, Norm.nil _, HQ0.out, HB0.out⟩
  case round =>
   obtain ⟨k, hk, rfl, hin⟩ := hrel
   obtain ⟨Q, R, hd, ho, hnr, hQ, hW⟩ := hin.out
   have hsz := yd hQ
   by_cases hlt : k < N
   ·obtain ⟨p, hp⟩ : ∃ p : Nat, (N : Int) - 1 - (k : Int) = p := ⟨N - 1 - k, by omega⟩
    rw [hp]
    have hpN : p < N := by omega
    have hpi : (p : Int) < (N : Int) := by omega
    rcases (HA.out.below hW hB).cases with ⟨_, _, _, hnil⟩ | ⟨g, o, cap, hv, hg, hc⟩
    ·have := HN.out
     rw [hnil] at this
     simp at this
     omega
    injection hv with hv1 hv2 hv3
    subst hv1; subst hv3
    have q1 := hc p (by have := HN.out; omega)
    have hxp := yF (by omega) HX.out p
    obtain ⟨X, hX⟩ := xe (lat x p)
    rw [← hX] at q1 hxp
    have HXE := hide hX
    have HD := hide hd; have HNR := hide hnr; have HQ := hide hQ; have HW := hide hW; have HP := hide hp; have HO := hide ho
    have HRL := hide (show R.length ≤ n by
     have h1 := hd.rest
     rw [HYV.out] at h1
     rw [HNY.out]
     exact jg (by omega) hnr HY.out.lt (by omega))
    have HALL := hide (fun (o : Obj) => (Below.refl wr.heap.size wr).alloc (Nat.le_refl _) o)
    have HNEW := hide (show (wr.alloc (.cells #[.int .i64 X] 3)).ownsRow wr.heap.size 3 1 (.slice (some ⟨wr.heap.size, 0, none⟩) 1 1) 1 (icells [X]) from zO (heap_alloc_new wr (rowO [X])) (Nat.le_refl _) (by simp [maxLen]))
    obtain ⟨i0, hi0, hz0, hz1, hz2⟩ := info_parts info3
    have hrl := HRL.out
    clear hd hnr hQ hW hp hX hc hv2 hg hin hlt
    rcases ho.2 with ⟨hv, hr0⟩ | ⟨gr, capr, curr, hv, hgr, hhr, hrr⟩
    case' inl =>
     subst hv
     have hR0 : R = [] := List.eq_nil_of_length_eq_zero hr0
     clear hr0 ho
     go_wp2_with (at_builtin; go_must (refine wpList_append_own_none rfl (.tmp 51) (.tmp 52) 199 rfl wr.heap.size 3 i0 1 Tryz.underlying199 hi0 (.slice (some ⟨wr.heap.size, 0, none⟩) 1 1) 1 (icells [X]) rfl HNEW.out rfl ?_))
     have HO5 := hide (show OwnL wr.heap.size (wr.alloc (.cells #[.int .i64 X] 3)) (.slice (some ⟨wr.heap.size, 0, none⟩) 1 1) (X :: R) by
      rw [hR0]
      exact HNEW.out)
     have HB5 := hide (HALL.out (.cells #[.int .i64 X] 3))
     refine (wb wr.heap.size _ (X :: R) _ HO5.out (by simp; omega)).mono ?_
     rintro e w6 ⟨rfl, v6, rfl, h6⟩
     obtain ⟨W5, hW5⟩ : ∃ W5, wr.alloc (.cells #[.int .i64 X] 3) = W5 := ⟨_, rfl⟩
     rw [hW5] at HB5 h6 ⊢
     clear hR0 HO5 hW5
    case' inr =>
     subst hv
     have hcs := ho.cells (g := gr) rfl
     have HNS := hide (fun j u (hu : (icells R)[j]? = some u) => ((show (wr.alloc (.cells #[.int .i64 X] 3)).cell? ((⟨gr, 0, none⟩ : Addr).add j) = wr.cell? ((⟨gr, 0, none⟩ : Addr).add j) by
      rw [Addr.add_lit]
      exact yG (yd hhr)).trans (hcs j u hu)))
     clear hhr hrr hcs ho
     go_wp2_with (at_builtin; go_must (refine wpList_append_own _ rfl (.tmp 51) (.tmp 52) 199 rfl wr.heap.size 3 i0 _ 1 8 Tryz.underlying199 hi0 hz0 hz1 hz2 rfl (by decide) (.slice (some ⟨wr.heap.size, 0, none⟩) 1 1) 1 (icells [X]) rfl HNEW.out ⟨gr, 0, none⟩ R.length capr (icells R) rfl (by simp [icells]) HNS.out (by simp [icells, Value.oneCell']) (by simp only [maxLen]; omega) (by omega) (by simp) ?_); intro v5 w5 hown hg1 hiff; clear hiff; have HO5 := hide (show OwnL wr.heap.size w5 v5 (X :: R) by
      unfold OwnL
      rw [show (X :: R).length = 1 + R.length by simp; omega]
      exact hown); have HB5 := hide ((HALL.out (.cells #[.int .i64 X] 3)).grown hg1 (by simp) (qG HNEW.out (Nat.le_refl _))); clear hown hg1)
     refine (wb wr.heap.size v5 (X :: R) w5 HO5.out (by simp; omega)).mono ?_
     rintro e w6 ⟨rfl, v6, rfl, h6⟩
     obtain ⟨W5, hW5⟩ := xe w5
     rw [← hW5] at HB5 h6 ⊢
     clear HNS HO5 hW5
    all_goals
     obtain ⟨a6, c6, hvf, _, _⟩ := h6.form
     subst hvf
     have HN6 := hide (show Norm 1000000 (trimL (X :: R)) from yB (fun z hz => by
      rcases List.mem_cons.1 hz with h | h
      ·rw [h]; exact hxp
      ·exact HNR.out.lt z h))
     have HL6 := hide (show lv 1000000 (trimL (X :: R)) = X + 1000000 * lv 1000000 R by rw [yR]; rfl)
     have HC6 := hide (show (trimL (X :: R)).length ≤ m + 3 by
      rw [yJ]
      have := yj (X :: R) (X :: R).length
      have h2 : (X :: R).length = R.length + 1 := rfl
      have := HM.out
      omega)
     obtain ⟨R1, hR1⟩ := xe (trimL (X :: R))
     rw [← hR1] at HN6 HL6 HC6 h6 ⊢
     have H6 := hide h6
     clear h6 hR1 HNEW HALL hi0 hz0 hz1 hz2
     have hr6 := HC6.out
     go_wp2_with fail
     have hA := hide (qz (.slice a6 R1.length c6) R1 n W5.heap.size W5 H6.out.at_ (by omega))
     have hB' := hide (qz (.slice a6 R1.length c6) R1 m1 W5.heap.size W5 H6.out.at_ (by omega))
     have hC := hide (qz (.slice a6 R1.length c6) R1 m W5.heap.size W5 H6.out.at_ (by omega))
     have l2 := yF (by omega) HN6.out.lt n
     have l1 := yF (by omega) HN6.out.lt m1
     have l0 := yF (by omega) HN6.out.lt m
     have HUP := hide (up3 HN6.out.lt hr6)
     rw [← HM.out, ← HM1.out] at HUP
     obtain ⟨L2, hL2⟩ := xe (lat R1 n)
     obtain ⟨L1, hL1⟩ := xe (lat R1 m1)
     obtain ⟨L0, hL0⟩ := xe (lat R1 m)
     rw [← hL2] at hA l2 HUP
     rw [← hL1] at hB' l1 HUP
     rw [← hL0] at hC l0 HUP
     obtain ⟨G, hGi, hG⟩ := ygq L2 L1 L0 T
     rw [HUP.out, HTOP.out] at hG
     have hGS := yhc (Nat.pow_pos (by omega)) hG
     obtain ⟨S, hS⟩ := xe (lv 1000000 R1)
     rw [← HYV.out, ← hS] at hGS
     have hSY : S < 1000000 * Y := by
      rw [hS, HL6.out]
      have := HD.out.rest
      omega
     have hGl := yby hGS hSY
     have HGS := hide hGS; have HSY := hide hSY; have HS := hide hS
     have hT0 : ((T : Int) + 1 == 0) = false := by
      simp only [beq_eq_false_iff_ne, ne_eq]
      omega
     clear hL2 hL1 hL0 hG hGS hSY hS
     refine hA.out.mono ?_
     rintro e w7 ⟨rfl, he⟩
     obtain rfl := he.symm
     go_wp2_with fail
     refine hB'.out.mono ?_
     rintro e w7 ⟨rfl, he⟩
     obtain rfl := he.symm
     go_wp2_with fail
     refine hC.out.mono ?_
     rintro e w7 ⟨rfl, he⟩
     obtain rfl := he.symm
     clear hA hB' hC
     go_wp2_with fail
     rw [hGi]
     have HGI := hide hGi
     clear hGi hT0 l2 l1 l0
     have HB6 := hide (HB5.out.alloc (Nat.le_trans (Nat.le_refl _) HB5.out.size) (.cells #[.int .i64 G] 3))
     have HB7 := hide (HW.out.trans (HB6.out.mono HW.out.size))
     have HG6 := hide (show LimbAt (W5.alloc (.cells #[.int .i64 G] 3)).heap.size (W5.alloc (.cells #[.int .i64 G] 3)) (.slice (some ⟨W5.heap.size, 0, none⟩) 1 1) [G] from yV (heap_alloc_new W5 (rowO [G])) (by simp [maxLen]))
     have HR6 := hide (show OwnL wr.heap.size (W5.alloc (.cells #[.int .i64 G] 3)) (.slice a6 R1.length c6) R1 from H6.out.keep ((Below.refl _ _).alloc (Nat.le_refl _) _))
     have HY6 := hide ((HBB.out.below HB7.out hB).mono (Nat.le_trans hB HB7.out.size))
     obtain ⟨W6, hW6⟩ : ∃ W6, W5.alloc (.cells #[.int .i64 G] 3) = W6 := ⟨_, rfl⟩
     rw [hW6] at HB6 HB7 HG6 HR6 HY6 ⊢
     rw [← HNY.out] at HY6
     clear hW6 H6 HB5
     have hnl : n ≤ 1000 := ly
     refine (kr _ _ y [G] W6.heap.size W6 HY6.out HG6.out (Nat.le_refl _) HY.out.lt (fun z hz => by simp only [List.mem_singleton] at hz; rw [hz]; exact hGl) (by rw [← HNY.out]; omega) (by simp)).mono ?_
     rintro e w7 ⟨l7, ⟨v7, rfl, hb7, o7⟩, n7, q7, k7⟩
     obtain ⟨a7, c7, hvf, _, _⟩ := o7.form
     subst hvf
     have HB8 := bt HB7 hb7
     have HR7 := hide (HR6.out.keep hb7)
     have O7 := hide o7; have N7 := hide n7
     have Q7 := hide (show lv 1000000 l7 = G * Y by rw [q7, ← HYV.out, Nat.mul_comm]; simp [lv])
     have HBB7 := hide (show Below wr.heap.size wr w7 from HB6.out.trans (hb7.mono HB6.out.size))
     clear hb7 o7 n7 q7 k7 HG6 HY6 HR6 HB6 HB7
     go_wp2_with fail
     refine (vo _ _ R1 l7 w7.heap.size w7 (.yx HR7.out) (.yx O7.out) (Nat.le_refl _) HN6.out.lt N7.out (by omega) (by rw [Q7.out, ← HS.out]; exact HGS.out)).mono ?_
     rintro e w8 ⟨l8, ⟨v8, rfl, hb8, o8⟩, n8, q8, k8⟩
     have HB9 := bt HB8 hb8
     have hsw : w.heap.size + 1 ≤ w7.heap.size := by have := HBB7.out.size; omega
     have O8 := hide (o8.mono hsw); have N8 := hide n8
     have Q8 := hide (show G * Y + lv 1000000 l8 = S by rw [q8, Q7.out, ← HS.out]; have := HGS.out; omega)
     have HQ8 := hide (yc (HBB7.out.trans (hb8.mono HBB7.out.size)) HQ.out hsz)
     clear hb8 o8 n8 q8 k8 HR7 O7 N7 Q7 HBB7 HB8 hsw
     obtain ⟨wo, hwo⟩ := xe w8
     rw [← hwo] at HB9 O8 HQ8 ⊢
     clear hwo
     go_wp2_with fail
     go_loopw [9, 11] (fun v g wr2 => ∃ G2 : Nat, g = .int .i64 G2 ∧ G2 ≤ 1000000 ∧ Hid (∃ R2 : List Nat, OwnL (w.heap.size + 1) wr2 v R2 ∧ Norm 1000000 R2 ∧ G2 * Y + lv 1000000 R2 = S ∧ wr2.heap[w.heap.size]? = some (rowO Q) ∧ Below w.heap.size w wr2)) (fun _ g _ => 1000000 - (intOf g).toNat)
     case atStart => exact ⟨G, rfl, by omega, l8, O8.out, N8.out, Q8.out, HQ8.out, HB9.out⟩
     case round =>
      obtain ⟨G2, rfl, hG2, hin⟩ := hrel
      obtain ⟨R2, ho2, hn2, hv2, hq2, hw2⟩ := hin.out
      obtain ⟨ar, cr, hvf, _, _⟩ := ho2.form
      subst hvf
      have hlen2 : R2.length ≤ m + 3 := Nat.le_trans (jg (by omega) hn2 HN6.out.lt (by rw [← HS.out]; omega)) hr6
      have hBw : B ≤ wr.heap.size := Nat.le_trans hB hw2.size
      have hyw := (HBB.out.below hw2 hB).mono hBw
      rw [← HNY.out] at hyw
      have HO2 := hide ho2; have HN2 := hide hn2; have HV2 := hide hv2; have HQ2 := hide hq2; have HW2 := hide hw2; have HYW := hide hyw
      have hsz2 := yd hq2
      have HSZ := hide (yao (.slice ar R2.length cr) _ R2 y wr.heap.size wr ho2.at_ hyw (Nat.le_refl _) hn2 HY.out (by omega))
      clear ho2 hn2 hv2 hq2 hw2 hyw hin
      go_wp2_with fail
      refine HSZ.out.mono ?_
      rintro e w9 ⟨r, rfl, hr, hb9⟩
      have hb9s := hb9.size
      have HW3 := hide (HW2.out.trans (hb9.mono HW2.out.size)); have HO3 := hide (HO2.out.keep hb9); have HQ3 := hide (yc hb9 HQ2.out hsz2); have HYW3 := hide ((HYW.out.below hb9 (Nat.le_refl _)).mono hb9s)
      clear hb9 HSZ HW2 HO2 HQ2 HYW
      by_cases hge : 0 ≤ r
      ·have hle : Y ≤ lv 1000000 R2 := by
            rw [HYV.out]
            have h1 := hr.1
            have h2 : ¬ lv 1000000 R2 < lv 1000000 y := fun h => by have := h1.2 h; omega
            omega
       have hG3 : G2 + 1 ≤ 1000000 := by
            have h1 := HSY.out
            have h2 := HV2.out
            have h3 : (G2 + 1) * Y ≤ S := by rw [Nat.add_mul]; omega
            exact Nat.le_of_lt (yby h3 h1)
       have HLE := hide hle
       clear hr hle
       go_wp2_with fail
       refine (vo _ _ R2 y w9.heap.size w9 HO3.out.at_ HYW3.out (Nat.le_refl _) HN2.out.lt HY.out (by omega) (by rw [← HYV.out]; exact HLE.out)).mono ?_
       rintro e w10 ⟨l10, ⟨v10, rfl, hb10, o10⟩, n10, q10, k10⟩
       have HW4 := hide (HW3.out.trans (hb10.mono HW3.out.size))
       have HO4 := hide (o10.mono (show w.heap.size + 1 ≤ w9.heap.size by omega))
       have HQ4 := hide (yc hb10 HQ3.out (by omega))
       have HN4 := hide n10
       have HV4 := hide (show (G2 + 1) * Y + lv 1000000 l10 = S by
            have h1 := HV2.out
            have h2 := HLE.out
            rw [q10, ← HYV.out, Nat.add_mul]
            omega)
       clear hb10 o10 n10 q10 k10
       go_wp2_with fail
       go_roundw
       case rel => exact ⟨G2 + 1, by go_num, hG3, l10, HO4.out, HN4.out, HV4.out, HQ4.out, HW4.out⟩
       case measure => simp [intOf]; omega
      ·have hlt2 : lv 1000000 R2 < Y := by
            rw [HYV.out]
            exact hr.1.1 (by omega)
       have hge' : (0 ≤ r) = False := eq_false hge
       have hG3 : G2 < 1000000 := yby (y := Y) (r := S) (by have := HV2.out; omega) HSY.out
       have hpQ : p < Q.length := by rw [HD.out.len, ← HN.out]; exact hpN
       have c3 := qL HQ3.out hpQ
       have f3 := qQ HQ3.out p
       have hsz3 : w.heap.size < w9.heap.size := by omega
       have HRS := hide hlt2
       clear hr hge hlt2
       go_wp2_with fail
       go_roundw
       case rel =>
            refine ⟨k + 1, by have := HP.out; omega, by have := HP.out; congr 1; omega, Q.set p G2, R2, ?_, HO3.out.other (p := ⟨w.heap.size, p, none⟩) (by simp) _, HN2.out, vS HQ3.out p G2, HW3.out.setCell (p := ⟨w.heap.size, p, none⟩) (Nat.le_refl _) _⟩
            refine HD.out.step (by have := HN.out; have := HP.out; omega) (i := p) (by have := HN.out; have := HP.out; omega) hG3 HRS.out ?_
            rw [← HXE.out]
            have h1 := HV2.out
            rw [HS.out, HL6.out] at h1
            omega
       case measure => simp [intOf]
   ·obtain rfl : k = N := by omega
    have hm : (k : Int) - 1 - (k : Int) = -1 := by omega
    rw [hm]
    have hQn : Q.length = k := hd.len.trans HN.out.symm
    have HTq := hide (wb w.heap.size (.slice (some ⟨w.heap.size, 0, none⟩) k k) Q wr (by
     have := zO (base := w.heap.size) hQ (Nat.le_refl _) (by unfold maxLen; omega)
     rw [hQn] at this
     exact this) (by omega))
    have HD := hide hd; have HO := hide ho; have HNR := hide hnr; have HW := hide hW; have HQN := hide hQn
    clear hd ho hnr hQ hW hQn hin hlt hm hj1 hj2
    go_wp2_with fail
    refine HTq.out.mono ?_
    rintro e w5 ⟨rfl, vq, rfl, hoq⟩
    have HOQ := hide hoq
    clear hoq HTq
    go_wp2_with fail
    refine bodyPost_ret (results_tmp2 rfl _ _ _) rfl ?_
    obtain ⟨e1, e2⟩ := (show RDivAt x Y x.length Q (lv 1000000 R) by have := HD.out; rw [HN.out] at this; exact this).done
    refine ⟨_, _, trimL Q, R, rfl, HW.out, HOQ.out, HO.out.mono (by omega), yB HD.out.lt, HNR.out, by rw [yR, e1, HYV.out], by rw [e2, HYV.out], ?_⟩
    rw [yJ]
    have := yj Q Q.length
    have := HQN.out
    have := HN.out
    omega

theorem ybC (s t : ByteArray) (B : Nat) (w : World) (c1 : chkI s.data.toList = 0) (c2 : chkI t.data.toList = 0) (hs : s.size ≤ 17) (ht : t.size ≤ 17) (h0 : t.data.toList ≠ [48]) (hB : B ≤ w.heap.size) (hT : P10 B w) :
 Calls Tryz.prog 157 #[.string s, .string t] w (Ret w (tripV (Lib.itoa ((valI s.data.toList).fdiv (valI t.data.toList))) (Lib.itoa ((valI s.data.toList).fmod (valI t.data.toList))) 0)) := by
 have H1 := hide (qH s t (by omega) (by omega) w)
 have hb0 : bothI s.data.toList t.data.toList = 0 := by unfold bothI; rw [if_pos c1, c2]
 rw [hb0] at H1
 have HT := hide hT
 have H2 := hide (fun w => vl s t c1 c2 hs ht w)
 have v1 := yK (n := 17) c1 (by rw [yg]; exact hs) (by omega)
 have v2 := yK (n := 17) c2 (by rw [yg]; exact ht) (by omega)
 rw [pow17] at v1 v2
 have hy0 : valI t.data.toList ≠ 0 := by
  intro e
  have := (qg c2).1
  rw [e, yP] at this
  exact h0 this
 have hq : (t.toList == [48]) = false := by rw [ByteArray.toList_eq]; simpa using h0
 obtain ⟨x, hx⟩ := xe (valI s.data.toList)
 obtain ⟨y, hy⟩ := xe (valI t.data.toList)
 rw [← hx, ← hy] at H2 ⊢
 rw [← hx] at v1
 rw [← hy] at v2 hy0
 have r1 := zk x hy0
 have q1 := vH x y
 have hyq : (y == 0) = false := by simpa using hy0
 clear c1 c2 hs ht h0 hT hx hy hb0
 go_enter Tryz.func157, Tryz.ntmps157
 go_wp2_with fail
 refine H1.out.mono ?_
 rintro e w1 ⟨rfl, hb1⟩
 have HB1 := hide hb1
 clear hb1 H1
 go_wp2_with fail
 refine (H2.out _).mono ?_
 rintro e w2 ⟨rfl, hb2⟩
 have HB2 := bt HB1 hb2
 clear hb2 H2 HB1
 go_wp2_with fail
 go_quiet (fail)
 obtain ⟨w3, hw3⟩ := xe (w2.drewN nq)
 rw [← hw3]
 have HB3 := hide (show Below w.heap.size w w3 by rw [hw3]; exact ⟨HB2.out.os, HB2.out.tape, HB2.out.output, HB2.out.size, HB2.out.block⟩)
 clear hw3 HB2
 have FS := hide (yaM (x := x) hy0); have FL := hide (yaA (x := x) hy0)
 obtain ⟨q, hq2⟩ := xe (x.tdiv y)
 obtain ⟨r, hr2⟩ := xe (x.tmod y)
 rw [← hq2] at q1
 rw [← hr2] at r1
 rw [← hq2, ← hr2] at FS FL ⊢
 clear hq2 hr2 hyq hy0 hq
 obtain ⟨g, hg⟩ := xe (x.fdiv y)
 obtain ⟨h, hh⟩ := xe (x.fmod y)
 rw [← hg, ← hh] at FS FL
 have HG := hide hg; have HH := hide hh
 clear hg hh
 by_cases hr0 : r = 0
 ·obtain ⟨f1, f2⟩ := FS.out (.inl hr0)
  have t1 : (r != 0) = false := by simp [hr0]
  have F1 := hide (f1.trans HG.out); have F2 := hide (f2.trans HH.out)
  clear hr0 f1 f2
  go_wp2_with fail
  refine (yl q (by omega) (by omega) B _ (HT.out.on HB3.out hB)).mono ?_
  rintro e w4 ⟨rfl, hb4⟩
  have HB4 := bt HB3 hb4
  clear hb4 HB3
  go_wp2_with fail
  refine (yl r (by omega) (by omega) B _ (HT.out.on HB4.out hB)).mono ?_
  rintro e w5 ⟨rfl, hb5⟩
  have HB5 := bt HB4 hb5
  clear hb5 HB4
  go_wp2_with fail
  refine bodyPost_ret (yt rfl _ _ _) rfl ?_
  exact ⟨by rw [← F1.out, ← F2.out]; rfl, HB5.out⟩
 ·have t1 : (r != 0) = true := by simpa using hr0
  by_cases h1 : r < 0
  ·by_cases h2 : y < 0
   ·obtain ⟨f1, f2⟩ := FS.out (.inr ⟨fun _ => h2, fun _ => h1⟩)
    have F1 := hide (f1.trans HG.out); have F2 := hide (f2.trans HH.out)
    clear hr0 f1 f2
    go_wp2_with fail
    refine (yl q (by omega) (by omega) B _ (HT.out.on HB3.out hB)).mono ?_
    rintro e w4 ⟨rfl, hb4⟩
    have HB4 := bt HB3 hb4
    clear hb4 HB3
    go_wp2_with fail
    refine (yl r (by omega) (by omega) B _ (HT.out.on HB4.out hB)).mono ?_
    rintro e w5 ⟨rfl, hb5⟩
    have HB5 := bt HB4 hb5
    clear hb5 HB4
    go_wp2_with fail
    refine bodyPost_ret (yt rfl _ _ _) rfl ?_
    exact ⟨by rw [← F1.out, ← F2.out]; rfl, HB5.out⟩
   ·obtain ⟨f1, f2⟩ := FL.out hr0 (fun e => h2 (e.1 h1))
    have F1 := hide (f1.trans HG.out); have F2 := hide (f2.trans HH.out)
    have t2 : (y < 0) = False := eq_false h2
    clear hr0 f1 f2 h2
    go_wp2_with fail
    refine (yl (q-1) (by omega) (by omega) B _ (HT.out.on HB3.out hB)).mono ?_
    rintro e w4 ⟨rfl, hb4⟩
    have HB4 := bt HB3 hb4
    clear hb4 HB3
    go_wp2_with fail
    refine (yl (r+y) (by omega) (by omega) B _ (HT.out.on HB4.out hB)).mono ?_
    rintro e w5 ⟨rfl, hb5⟩
    have HB5 := bt HB4 hb5
    clear hb5 HB4
    go_wp2_with fail
    refine bodyPost_ret (yt rfl _ _ _) rfl ?_
    exact ⟨by rw [← F1.out, ← F2.out]; rfl, HB5.out⟩
  ·by_cases h2 : y < 0
   ·obtain ⟨f1, f2⟩ := FL.out hr0 (fun e => h1 (e.2 h2))
    have F1 := hide (f1.trans HG.out); have F2 := hide (f2.trans HH.out)
    have t2 : (r < 0) = False := eq_false h1
    clear hr0 f1 f2 h1
    go_wp2_with fail
    refine (yl (q-1) (by omega) (by omega) B _ (HT.out.on HB3.out hB)).mono ?_
    rintro e w4 ⟨rfl, hb4⟩
    have HB4 := bt HB3 hb4
    clear hb4 HB3
    go_wp2_with fail
    refine (yl (r+y) (by omega) (by omega) B _ (HT.out.on HB4.out hB)).mono ?_
    rintro e w5 ⟨rfl, hb5⟩
    have HB5 := bt HB4 hb5
    clear hb5 HB4
    go_wp2_with fail
    refine bodyPost_ret (yt rfl _ _ _) rfl ?_
    exact ⟨by rw [← F1.out, ← F2.out]; rfl, HB5.out⟩
   ·obtain ⟨f1, f2⟩ := FS.out (.inr ⟨fun e => absurd e h1, fun e => absurd e h2⟩)
    have F1 := hide (f1.trans HG.out); have F2 := hide (f2.trans HH.out)
    have t2 : (r < 0) = False := eq_false h1
    have t3 : (y < 0) = False := eq_false h2
    clear hr0 f1 f2 h1 h2
    go_wp2_with fail
    refine (yl q (by omega) (by omega) B _ (HT.out.on HB3.out hB)).mono ?_
    rintro e w4 ⟨rfl, hb4⟩
    have HB4 := bt HB3 hb4
    clear hb4 HB3
    go_wp2_with fail
    refine (yl r (by omega) (by omega) B _ (HT.out.on HB4.out hB)).mono ?_
    rintro e w5 ⟨rfl, hb5⟩
    have HB5 := bt HB4 hb5
    clear hb5 HB4
    go_wp2_with fail
    refine bodyPost_ret (yt rfl _ _ _) rfl ?_
    exact ⟨by rw [← F1.out, ← F2.out]; rfl, HB5.out⟩

theorem row1 {w : World} : LimbAt (w.alloc (.cells #[.int .i64 1] 3)).heap.size (w.alloc (.cells #[.int .i64 1] 3)) (.slice (some ⟨w.heap.size, 0, none⟩) ([1] : List Nat).length 1) [1] := yV (heap_alloc_new w (rowO [1])) (by simp [maxLen])
theorem norm1 : Norm 1000000 [1] := ⟨fun z hz => by simp only [List.mem_singleton] at hz; omega, .inr (by simp [lat])⟩
structure RDivSt (nb b : Nat) (mq mr my : Bool) (vq vr vy : Value) (W : World) : Prop where
 q : W.heap[b]? = some (bigO mq vq)
 r : W.heap[b + 1]? = some (bigO mr vr)
 y : W.heap[nb + 1]? = some (bigO my vy)
 lt : nb + 1 < b
theorem RDivSt.on {nb b : Nat} {mq mr my : Bool} {vq vr vy : Value} {W W2 : World} (h : RDivSt nb b mq mr my vq vr vy W) (hb : Below W.heap.size W W2) : RDivSt nb b mq mr my vq vr vy W2 :=
 ⟨yc hb h.q (yd h.q), yc hb h.r (yd h.r), yc hb h.y (yd h.y), h.lt⟩
theorem RDivSt.cells {nb b : Nat} {mq mr my : Bool} {vq vr vy : Value} {W : World} (h : RDivSt nb b mq mr my vq vr vy W) :
 (W.cell? ⟨b, 0, none⟩ = some (.bool mq) ∧ W.cell? ⟨b, 1, none⟩ = some vq) ∧ (W.cell? ⟨b + 1, 0, none⟩ = some (.bool mr) ∧ W.cell? ⟨b + 1, 1, none⟩ = some vr) ∧ (W.cell? ⟨nb + 1, 0, none⟩ = some (.bool my) ∧ W.cell? ⟨nb + 1, 1, none⟩ = some vy) ∧
 (W.frozen? ⟨b, 0, none⟩ = false ∧ W.frozen? ⟨b, 1, none⟩ = false) ∧ (W.frozen? ⟨b + 1, 0, none⟩ = false ∧ W.frozen? ⟨b + 1, 1, none⟩ = false) ∧ b < W.heap.size ∧ b + 1 < W.heap.size ∧ nb + 1 < W.heap.size :=
 ⟨⟨ya h.q 0, ya h.q 1⟩, ⟨ya h.r 0, ya h.r 1⟩, ⟨ya h.y 0, ya h.y 1⟩, ⟨yf h.q 0, yf h.q 1⟩, ⟨yf h.r 0, yf h.r 1⟩, yd h.q, yd h.r, yd h.y⟩
theorem RDivSt.setq {nb b : Nat} {mq mr my : Bool} {vq vr vy : Value} {W : World} (h : RDivSt nb b mq mr my vq vr vy W) (m : Bool) (v : Value) :
 RDivSt nb b m mr my v vr vy ((W.setCell ⟨b, 0, none⟩ (.bool m)).setCell ⟨b, 1, none⟩ v) ∧ Below b W ((W.setCell ⟨b, 0, none⟩ (.bool m)).setCell ⟨b, 1, none⟩ v) := by
 obtain ⟨s1, s2⟩ := set2 h.q (.bool m) v
 have := h.lt
 exact ⟨⟨s1, (ye (by omega)).trans ((ye (by omega)).trans h.r), (ye (by omega)).trans ((ye (by omega)).trans h.y), h.lt⟩, s2⟩
theorem RDivSt.setr {nb b : Nat} {mq mr my : Bool} {vq vr vy : Value} {W : World} (h : RDivSt nb b mq mr my vq vr vy W) (m : Bool) (v : Value) :
 RDivSt nb b mq m my vq v vy ((W.setCell ⟨b + 1, 0, none⟩ (.bool m)).setCell ⟨b + 1, 1, none⟩ v) ∧ Below b W ((W.setCell ⟨b + 1, 0, none⟩ (.bool m)).setCell ⟨b + 1, 1, none⟩ v) := by
 obtain ⟨s1, s2⟩ := set2 h.r (.bool m) v
 have := h.lt
 exact ⟨⟨(ye (by omega)).trans ((ye (by omega)).trans h.q), s1, (ye (by omega)).trans ((ye (by omega)).trans h.y), h.lt⟩, s2.mono (by omega)⟩
theorem OwnL.setNum {base nb : Nat} {W : World} {v u : Value} {m : Bool} {l : List Nat} (h : OwnL base W v l) (hb : W.heap[nb]? = some (bigO m u)) (m2 : Bool) (u2 : Value) : OwnL base ((W.setCell ⟨nb, 0, none⟩ (.bool m2)).setCell ⟨nb, 1, none⟩ u2) v l :=
 yO h (fun r hr => by
  have := zd h hb r hr
  rw [ye (by omega), ye (by omega)])
theorem ycv (s t : ByteArray) (w : World) (c1 : chkI s.data.toList = 0) (c2 : chkI t.data.toList = 0) (hl : ¬ (s.size ≤ 17 ∧ t.size ≤ 17)) (h0 : t.data.toList ≠ [48]) :
 Calls Tryz.prog 157 #[.string s, .string t] w (Ret w (tripV (Lib.itoa ((valI s.data.toList).fdiv (valI t.data.toList))) (Lib.itoa ((valI s.data.toList).fmod (valI t.data.toList))) 0)) := by
 have l1' := (yL c1).2
 have l2' := (yL c2).2
 rw [yg] at l1' l2'
 have H1 := hide (qH s t (by omega) (by omega) w)
 have hb0 : bothI s.data.toList t.data.toList = 0 := by unfold bothI; rw [if_pos c1, c2]
 rw [hb0] at H1
 have hy0 := yhK c2 h0
 have hq : (t.toList == [48]) = false := by rw [ByteArray.toList_eq]; simpa using h0
 have FQ := hide (vQ (yi (qg c1).2 (vF (x := valI s.data.toList) hy0)))
 have H2 := hide (fun w => wM s t c1 hl w)
 have R1 := hide (fun w => ze s c1 w)
 have R2 := hide (fun w => ze t c2 w)
 obtain ⟨QS, hQS⟩ := xe (strB (Lib.itoa ((valI s.data.toList).fdiv (valI t.data.toList))))
 obtain ⟨RS, hRS⟩ := xe (strB (Lib.itoa ((valI s.data.toList).fmod (valI t.data.toList))))
 rw [tripV, ← hQS, ← hRS]
 have HQS := hide hQS; have HRS := hide hRS
 clear c1 c2 hl h0 hb0 l1' l2' hQS hRS
 go_enter Tryz.func157, Tryz.ntmps157
 go_wp2_with fail
 refine H1.out.mono ?_
 rintro e w1 ⟨rfl, hb1⟩
 have HB1 := hide hb1
 clear hb1 H1
 go_wp2_with fail
 refine (H2.out _).mono ?_
 rintro e w2 ⟨x0, y0, rfl, hb2⟩
 have HB2 := bt HB1 hb2
 clear hb2 H2 HB1
 go_wp2_with fail
 refine (R1.out _).mono ?_
 rintro e w3 ⟨m1, v1, l1, rfl, hb3, o1, n1, q1, k1⟩
 have HB3 := bt HB2 hb3
 have O1 := hide o1; have N1 := hide n1; have Q1 := hide q1
 clear hb3 HB2 R1 o1 n1 q1
 go_wp2_with fail
 refine (R2.out _).mono ?_
 rintro e w4 ⟨m2, v2, l2, rfl, hb4, o2, n2, q2, k2⟩
 have HB4 := bt HB3 hb4
 have O1' := hide (O1.out.keep hb4)
 have O2 := hide o2; have N2 := hide n2; have Q2 := hide q2
 clear hb4 HB3 R2 o2 n2 q2 O1
 obtain ⟨av1, cv1, hvf, _, _⟩ := O1'.out.form
 subst hvf
 obtain ⟨av2, cv2, hvf, _, _⟩ := O2.out.form
 subst hvf
 have hl2 : l2 ≠ [] := by
  intro e
  have h := Q2.out
  rw [e] at h
  apply hy0
  rw [← h]
  cases m2 <;> rfl
 have hly : 0 < lv 1000000 l2 := by
  rcases Nat.eq_zero_or_pos (lv 1000000 l2) with h | h
  ·exact absurd ((N2.out.zero (by omega)).1 h) hl2
  ·exact h
 obtain ⟨g0, g1, gs0, gb0⟩ := heap2 w4 (bigO m1 (.slice av1 l1.length cv1)) (bigO m2 (.slice av2 l2.length cv2))
 obtain ⟨w5, hw5⟩ : ∃ w5, (w4.alloc (bigO m1 (.slice av1 l1.length cv1))).alloc (bigO m2 (.slice av2 l2.length cv2)) = w5 := ⟨_, rfl⟩
 rw [hw5] at g0 g1 gs0 gb0
 have c1 := ya g0 1
 have c3 := ya g1 1
 have HDV := hide (jy (.slice av1 l1.length cv1) (.slice av2 l2.length cv2) l1 l2 w5.heap.size w5 (LimbAt.yx (O1'.out.keep gb0)) (LimbAt.yx (O2.out.keep gb0)) (Nat.le_refl _) N1.out.lt N2.out hl2 (by omega) (by omega))
 have O2' := hide (O2.out.keep gb0)
 have HB5 := hide (HB4.out.trans (gb0.mono HB4.out.size)); have G0 := hide g0; have G1 := hide g1
 have hs5 : w4.heap.size + 1 < w5.heap.size := by omega
 have FL := hide (yaY m1 m2 (a := lv 1000000 l1) hly)
 rw [Q1.out, Q2.out] at FL
 have HW5 := hide hw5
 clear g0 g1 gs0 gb0 O1' O2 HB4 hy0 hw5
 go_wp2_with fail
 rw [HW5.out]
 clear HW5
 obtain ⟨nb, hnb⟩ := xe w4.heap.size
 rw [← hnb] at c1 c3 G0 G1 hs5 ⊢
 have HNB := hide hnb
 clear hnb
 refine HDV.out.mono ?_
 rintro e w6 ⟨vq, vr, q, r, rfl, hb6, oq, or_, nq, nr, eq, er, lq⟩
 obtain ⟨aq, cq, hvf, _, _⟩ := oq.form
 subst hvf
 obtain ⟨ar, cr, hvf, _, _⟩ := or_.form
 subst hvf
 have HBZ := bt HB5 hb6
 have G0Z := hide (yc hb6 G0.out (by omega))
 have G1Z := hide (yc hb6 G1.out (by omega))
 have O2Z := hide (O2'.out.keep hb6)
 have hs6 : nb + 1 < w6.heap.size := Nat.lt_of_lt_of_le hs5 hb6.size
 have lr : r.length ≤ l2.length := jg (by omega) nr N2.out.lt (by rw [er]; exact Nat.le_of_lt (Nat.mod_lt _ hly))
 have OQ := hide oq; have OR := hide or_; have NQ := hide nq; have NR := hide nr; have ER := hide er
 rw [← eq, ← er] at FL
 clear hb6 oq or_ nq nr eq er c1 c3 HB5 G0 G1 O2' HDV
 have z0 := ya G0Z.out 0
 have z1 := ya G1Z.out 0
 have zA : ∀ o1 o2 : Obj, ((w6.alloc o1).alloc o2).cell? ⟨nb, 0, none⟩ = some (.bool m1) := fun o1 o2 => (yG (by simp; omega)).trans ((yG (by omega)).trans z0)
 have zB : ∀ o1 o2 : Obj, ((w6.alloc o1).alloc o2).cell? ⟨nb + 1, 0, none⟩ = some (.bool m2) := fun o1 o2 => (yG (by simp; omega)).trans ((yG (by omega)).trans z1)
 have hqc : (q = [] ∧ (0 < q.length) = False) ∨ (q ≠ [] ∧ 0 < q.length) := by
  by_cases h : q = []
  ·exact .inl ⟨h, eq_false (by rw [h]; simp)⟩
  ·exact .inr ⟨h, List.length_pos_iff.2 h⟩
 have hrc : (r = [] ∧ (0 < r.length) = False) ∨ (r ≠ [] ∧ 0 < r.length) := by
  by_cases h : r = []
  ·exact .inl ⟨h, eq_false (by rw [h]; simp)⟩
  ·exact .inr ⟨h, List.length_pos_iff.2 h⟩
 by_cases had : m1 ≠ m2 ∧ r ≠ []
 ·obtain ⟨hm, hr⟩ := had
  have hr1 : lv 1000000 r ≠ 0 := fun e => hr ((NR.out.zero (by omega)).1 e)
  obtain ⟨f1, f2⟩ := FL.out.2 hm hr1
  have hm2 : m2 = !m1 := by cases m1 <;> cases m2 <;> simp_all
  have hrl : 0 < r.length := List.length_pos_iff.2 hr
  have hlt : lv 1000000 r ≤ lv 1000000 l2 := by
   rw [ER.out]
   exact Nat.le_of_lt (Nat.mod_lt _ hly)
  have HZ1 := hide (show -((lv 1000000 q : Nat) : Int) + -1 = (valI s.data.toList).fdiv (valI t.data.toList) by
   rw [← f1, hm2]
   cases m1 <;> simp [valS] <;> omega)
  have HZ2 := hide (show valS m1 (lv 1000000 r) + valS m2 (lv 1000000 l2) = (valI s.data.toList).fmod (valI t.data.toList) by
   rw [← f2, hm2]
   exact yah m1 hlt)
  have HF0 := hide (fun (a b : Bool) => heap2 w6 (bigO a (.slice aq q.length cq)) (bigO b (.slice ar r.length cr)))
  have HST := hide (fun (sq sr : Bool) => show RDivSt nb w6.heap.size sq sr m2 (.slice aq q.length cq) (.slice ar r.length cr) (.slice av2 l2.length cv2) ((w6.alloc (bigO sq (.slice aq q.length cq))).alloc (bigO sr (.slice ar r.length cr))) from
   ⟨(heap2 w6 _ _).1, (heap2 w6 _ _).2.1, yc (heap2 w6 _ _).2.2.2 G1Z.out hs6, hs6⟩)
  have HA := hide (fun (sq sr : Bool) (h : valS sq (lv 1000000 q) = -((lv 1000000 q : Nat) : Int)) => show Calls Tryz.prog 188 #[numV sq (.slice aq q.length cq), numV true (.slice (some ⟨w6.heap.size + 1 + 1, 0, none⟩) 1 1)] (((w6.alloc (bigO sq (.slice aq q.length cq))).alloc (bigO sr (.slice ar r.length cr))).alloc (.cells #[.int .i64 1] 3))
   (fun e W2 => ∃ m3 a3 c3 l3, e = .returned (numV m3 (.slice a3 l3.length c3)) ∧ Hid (RDivSt nb w6.heap.size sq sr m2 (.slice aq q.length cq) (.slice ar r.length cr) (.slice av2 l2.length cv2) W2 ∧ Below w6.heap.size w6 W2 ∧ OwnL w6.heap.size W2 (.slice a3 l3.length c3) l3 ∧ Norm 1000000 l3 ∧ valS m3 (lv 1000000 l3) = (valI s.data.toList).fdiv (valI t.data.toList)) ∧ l3.length ≤ 200) by
   have hb6 : Below w6.heap.size w6 (((w6.alloc (bigO sq (.slice aq q.length cq))).alloc (bigO sr (.slice ar r.length cr))).alloc (.cells #[.int .i64 1] 3)) := (heap2 w6 _ _).2.2.2.alloc (heap2 w6 _ _).2.2.2.size _
   have h1 := row1 (w := (w6.alloc (bigO sq (.slice aq q.length cq))).alloc (bigO sr (.slice ar r.length cr)))
   rw [(heap2 w6 _ _).2.2.1] at h1
   refine (kQ sq true aq (some ⟨w6.heap.size + 1 + 1, 0, none⟩) cq 1 q [1] _ (.yx (OQ.out.keep hb6)) h1 NQ.out norm1 (by omega) (by simp)).mono ?_
   rintro e W2 ⟨m3, v3, l3, rfl, hb3, o3, n3, q3, k3⟩
   obtain ⟨a3, c3, hvf, _, _⟩ := o3.form
   subst hvf
   refine ⟨m3, a3, c3, l3, rfl, ⟨?_, hb6.trans (hb3.mono hb6.size), o3.mono hb6.size, n3, ?_⟩, by simp at k3; omega⟩
   ·exact ((HST.out sq sr).on ((Below.refl _ _).alloc (Nat.le_refl _) _)).on hb3
   ·rw [q3, h, ← HZ1.out]
    rfl)
  have HC := hide (fun (sr : Bool) (W : World) (hb : Below w6.heap.size w6 W) => kQ sr m2 ar av2 cr cv2 r l2 W (.yx (OR.out.keep hb)) (.yx (O2Z.out.keep hb)) NR.out N2.out (by omega) (by omega))
  clear FL hrc f1 f2 hr1 hlt
  subst hm2
  rcases hqc with ⟨hq0, hqi⟩ | ⟨hq0, hqi⟩ <;> cases m1
  all_goals
   have HQ0 := hide hq0
   clear hq0 hr hm
   go_wp2_with fail
   refine (HA.out _ _ (by first | rfl | (rw [HQ0.out]; rfl))).mono ?_
   rintro e w7 ⟨m3, a3, c3, l3, rfl, hst, k3⟩
   have ST := hide hst.out.1; have HB7 := hide hst.out.2.1; have O3 := hide hst.out.2.2.1; have N3 := hide hst.out.2.2.2.1; have Q3 := hide hst.out.2.2.2.2
   obtain ⟨⟨e1, e2⟩, ⟨e3, e4⟩, ⟨e5, e6⟩, ⟨e7, e8⟩, ⟨e9, e10⟩, e11, e12, e13⟩ := ST.out.cells
   clear hst HA zA zB z0 z1
   have ne1 : (w6.heap.size = w6.heap.size + 1) = False := eq_false (by omega)
   have ne2 : (w6.heap.size = nb + 1) = False := eq_false (by omega)
   go_wp2_with fail
   have ST8 := hide (ST.out.setq m3 (.slice a3 l3.length c3)).1
   have HB8 := hide (HB7.out.trans (ST.out.setq m3 (.slice a3 l3.length c3)).2)
   have O8 := hide (O3.out.setNum ST.out.q m3 (.slice a3 l3.length c3))
   obtain ⟨w8, hw8⟩ : ∃ w8, (w7.setCell ⟨w6.heap.size, 0, none⟩ (.bool m3)).setCell ⟨w6.heap.size, 1, none⟩ (.slice a3 l3.length c3) = w8 := ⟨_, rfl⟩
   rw [hw8] at ST8 HB8 O8 ⊢
   clear hw8 e1 e2 e3 e4 e5 e6 e7 e8 e9 e10 e11 e12 e13 ST HB7 O3 ne1 ne2
   refine (HC.out _ w8 HB8.out).mono ?_
   rintro e w9 ⟨m4, v4, l4, rfl, hb9, o4, n4, q4, k4⟩
   obtain ⟨a4, c4, hvf, _, _⟩ := o4.form
   subst hvf
   have ST9 := hide (ST8.out.on hb9)
   have HB9 := bt HB8 hb9; have O9 := hide (O8.out.keep hb9)
   have O4 := hide (o4.mono HB8.out.size); have N4 := hide n4
   have Q4 := hide (q4.trans HZ2.out)
   have hk4 : l4.length ≤ 100 := by omega
   obtain ⟨⟨e1, e2⟩, ⟨e3, e4⟩, ⟨e5, e6⟩, ⟨e7, e8⟩, ⟨e9, e10⟩, e11, e12, e13⟩ := ST9.out.cells
   have ne3 : (w6.heap.size + 1 = w6.heap.size) = False := eq_false (by omega)
   clear hb9 o4 n4 q4 k4 ST8 HB8 O8 HC
   go_wp2_with fail
   clear e1 e2 e3 e4 e5 e6 e7 e8 e9 e10 e11 e12 e13 ne3
   have STA := hide (ST9.out.setr m4 (.slice a4 l4.length c4)).1
   have HBA := hide (HB9.out.trans (ST9.out.setr m4 (.slice a4 l4.length c4)).2)
   have O3A := hide (O9.out.setNum ST9.out.r m4 (.slice a4 l4.length c4))
   have O4A := hide (O4.out.setNum ST9.out.r m4 (.slice a4 l4.length c4))
   obtain ⟨wA, hwA⟩ : ∃ wA, (w9.setCell ⟨w6.heap.size + 1, 0, none⟩ (.bool m4)).setCell ⟨w6.heap.size + 1, 1, none⟩ (.slice a4 l4.length c4) = wA := ⟨_, rfl⟩
   rw [hwA] at STA HBA O3A O4A ⊢
   clear hwA ST9 HB9 O9 O4
   have hres := jk m3 (.slice a3 l3.length c3) l3 wA.heap.size wA (.yx O3A.out) (Nat.le_refl _) N3.out (by omega)
   rw [Q3.out, FQ.out.1, FQ.out.2, pairV, ← HQS.out] at hres
   refine hres.mono ?_
   clear hres
   rintro e wB ⟨rfl, hbB⟩
   have STB := hide (STA.out.on hbB)
   have HBB := hide (HBA.out.trans (hbB.mono HBA.out.size)); have O4B := hide (O4A.out.keep hbB)
   obtain ⟨⟨e1, e2⟩, ⟨e3, e4⟩, ⟨e5, e6⟩, ⟨e7, e8⟩, ⟨e9, e10⟩, e11, e12, e13⟩ := STB.out.cells
   clear hbB STA HBA O3A O4A
   go_wp2_with fail
   have hwr := je m4 (.slice a4 l4.length c4) l4 wB.heap.size wB (.yx O4B.out) (Nat.le_refl _) N4.out (by omega)
   rw [Q4.out, ← HRS.out] at hwr
   refine hwr.mono ?_
   clear hwr e1 e2 e3 e4 e5 e6 e7 e8 e9 e10 e11 e12 e13
   rintro e wC ⟨rfl, hbC⟩
   have HBC := hide (HBZ.out.trans ((HBB.out.trans (hbC.mono HBB.out.size)).mono HBZ.out.size))
   clear hbC
   go_wp2_with fail
   refine bodyPost_ret (yt rfl _ _ _) rfl ?_
   exact ⟨rfl, HBC.out⟩
 ·have hz : valS (!(m1 == m2)) (lv 1000000 q) = (valI s.data.toList).fdiv (valI t.data.toList) ∧ valS m1 (lv 1000000 r) = (valI s.data.toList).fmod (valI t.data.toList) := by
   by_cases hm : m1 = m2
   ·obtain ⟨f1, f2⟩ := FL.out.1 (.inl hm)
    exact ⟨f1, by rw [← hm] at f2; exact f2⟩
   ·have hr : r = [] := by
     rcases hrc with h | h
     ·exact h.1
     ·exact absurd ⟨hm, h.1⟩ had
    obtain ⟨f1, f2⟩ := FL.out.1 (.inr (by rw [hr]; rfl))
    refine ⟨f1, ?_⟩
    rw [← f2, hr]
    cases m1 <;> cases m2 <;> rfl
  have HZ := hide hz; have HAD := hide had
  have HR1 := hide (fun (m : Bool) (W : World) (hb : Below w6.heap.size w6 W) (hm : valS m (lv 1000000 q) = (valI s.data.toList).fdiv (valI t.data.toList)) => show Calls Tryz.prog 187 #[numV m (.slice aq q.length cq)] W (Ret W (.tuple #[.string QS, .int .i64 0])) by
   have h := jk m (.slice aq q.length cq) q W.heap.size W (.yx (OQ.out.keep hb)) (Nat.le_refl _) NQ.out (by omega)
   rw [hm, FQ.out.1, FQ.out.2, pairV, ← HQS.out] at h
   exact h)
  have HR2 := hide (fun (m : Bool) (W : World) (hb : Below w6.heap.size w6 W) (hm : valS m (lv 1000000 r) = (valI s.data.toList).fmod (valI t.data.toList)) => show Calls Tryz.prog 206 #[numV m (.slice ar r.length cr)] W (Ret W (.string RS)) by
   have h := je m (.slice ar r.length cr) r W.heap.size W (.yx (OR.out.keep hb)) (Nat.le_refl _) NR.out (by omega)
   rw [hm, ← HRS.out] at h
   exact h)
  have HF0 := hide (fun (a b : Bool) => heap2 w6 (bigO a (.slice aq q.length cq)) (bigO b (.slice ar r.length cr)))
  clear hz had FL
  rcases hqc with ⟨hq0, hqi⟩ | ⟨hq0, hqi⟩ <;> rcases hrc with ⟨hr0, hri⟩ | ⟨hr0, hri⟩ <;> cases m1 <;> cases m2
  all_goals first | (exfalso; exact HAD.out ⟨by decide, hr0⟩) | skip
  all_goals
   have HQ0 := hide hq0; have HR0 := hide hr0
   clear hq0 hr0
   go_wp2_with fail
  all_goals
   refine (HR1.out _ _ (HF0.out _ _).2.2.2 (by first | exact HZ.out.1 | (have := HZ.out.1; rw [HQ0.out] at this ⊢; simpa [lv, valS] using this))).mono ?_
   rintro e w7 ⟨rfl, hb7⟩
   have C7 := hide (yc hb7 (HF0.out _ _).2.1 (yd (HF0.out _ _).2.1))
   have HB7 := hide ((HF0.out _ _).2.2.2.trans (hb7.mono (HF0.out _ _).2.2.2.size))
   have cz0 := ya C7.out 0
   have cz1 := ya C7.out 1
   clear hb7 zA zB z0 z1
   go_wp2_with fail
   refine (HR2.out _ _ HB7.out (by first | exact HZ.out.2 | (have := HZ.out.2; rw [HR0.out] at this ⊢; simpa [lv, valS] using this))).mono ?_
   rintro e w8 ⟨rfl, hb8⟩
   have HB8 := hide (HBZ.out.trans ((HB7.out.trans (hb8.mono HB7.out.size)).mono HBZ.out.size))
   clear hb8 cz0 cz1
   go_wp2_with fail
   refine bodyPost_ret (yt rfl _ _ _) rfl ?_
   exact ⟨rfl, HB8.out⟩
end Go.Proofs.YtklgpilgalfckaaGreatDoor
