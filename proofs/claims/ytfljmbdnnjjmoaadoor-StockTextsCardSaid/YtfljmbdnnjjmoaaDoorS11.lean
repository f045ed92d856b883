/-
  awake: the walk.
-/
import Derived.Test.YtfljmbdnnjjmoaaDoorS10
namespace Go.Proofs.YtfljmbdnnjjmoaaDoor
open Go.RowKit Go.KP Go.Shelf

theorem ex_chk : chk 60 120 1000 2 7 exGs = 0 := by decide
theorem ex_parts : parts 1000 exGs = [(0, 400), (450, 1000)] := by decide
theorem ex_fits : fits 5 (parts 1000 exGs) [300, 150, 250] = ([0, 450, 605], []) := by decide
def exBr (gv : Value) : Br := ⟨60, 120, 1000, 2, 7, gv, exGs⟩
theorem ex_chks (gv : Value) : chks [exBr gv] = 0 := by
  simp only [chks, firstErr, Br.chk, exBr, ex_chk]
  simp
theorem ex_text (gv : Value) : brText [exBr gv] = [54, 48, 32, 49, 50, 48, 32, 49, 48, 48, 48, 32, 50, 32, 55, 32, 52, 48, 48, 45, 52, 53, 48, 10] := by
  have h1 : Lib.itoa 60 = [54, 48] := by simp [Lib.itoa, Lib.decDigits]
  have h2 : Lib.itoa 120 = [49, 50, 48] := by simp [Lib.itoa, Lib.decDigits]
  have h3 : Lib.itoa 1000 = [49, 48, 48, 48] := by simp [Lib.itoa, Lib.decDigits]
  have h4 : Lib.itoa 2 = [50] := by simp [Lib.itoa, Lib.decDigits]
  have h5 : Lib.itoa 7 = [55] := by simp [Lib.itoa, Lib.decDigits]
  have h6 : Lib.itoa 400 = [52, 48, 48] := by simp [Lib.itoa, Lib.decDigits]
  have h7 : Lib.itoa 450 = [52, 53, 48] := by simp [Lib.itoa, Lib.decDigits]
  have hw : (brWords (exBr gv)).map (·.data.toList) = [[54, 48], [49, 50, 48], [49, 48, 48, 48], [50], [55], [52, 48, 48, 45, 52, 53, 48]] := by
    simp [brWords, exBr, exGs, itoaB, h1, h2, h3, h4, h5, h6, h7, ByteArray.data_append]
  simp only [brText, List.flatMap_cons, List.flatMap_nil, List.append_nil, brLine, hw]
  decide

theorem P10.mono {B B2 : Nat} {w : World} (h : P10 B w) (hB : B ≤ B2) : P10 B2 w := fun w' hb => h w' (hb.mono hB)

set_option maxRecDepth 100000 in
set_option maxHeartbeats 4000000 in
theorem awake_any (B : Nat) (w : World) (hT : P10 B w) (hB : B ≤ w.heap.size) : Calls Tryd.prog 12 #[] w (Ret w (.bool true)) := by
  have HT := hide hT
  clear hT
  go_enter Tryd.func12, Tryd.ntmps12
  go_wp2_with fail
  refine (example_any w).mono ?_
  rintro e w1 ⟨r, rfl, hb1, gv1, rfl, ho1⟩
  have hs1 := hb1.size
  have HB1 := hide hb1; have HO1 := hide ho1
  clear hb1 ho1
  go_wp2_with fail
  have hf := freeFn_any 60 120 1000 2 7 gv1 exGs w1.heap.size w1 (SlAt.of_owns HO1.out) (Nat.le_refl _)
  rw [ex_chk, ex_parts] at hf
  simp only [if_true] at hf
  refine hf.mono ?_
  rintro e w2 ⟨r, rfl, hb2, v2, rfl, ho2⟩
  have hs2 := hb2.size
  have HB2 := hide (HB1.out.trans (hb2.mono hs1)); have HO2 := hide ho2
  clear hb2 ho2 hf
  go_wp2_with fail
  refine (example_any w2).mono ?_
  rintro e w3 ⟨r, rfl, hb3, gv3, rfl, ho3⟩
  have hs3 := hb3.size
  have HB3 := hide hb3; have HO3 := hide ho3
  clear hb3 ho3
  go_wp2_with fail
  obtain ⟨k1, k2, k3⟩ := heap1 w3 (.cells #[.int .i64 300, .int .i64 150, .int .i64 250] 3)
  have hsl := SlAt.of_owns (World.ownsRow.alloc HO3.out (.cells #[.int .i64 300, .int .i64 150, .int .i64 250] 3))
  obtain ⟨w4, hw4⟩ : ∃ w4, w3.alloc (.cells #[.int .i64 300, .int .i64 150, .int .i64 250] 3) = w4 := ⟨_, rfl⟩
  rw [hw4] at k1 k2 k3 hsl ⊢
  have hf := fits_ok 60 120 1000 2 7 5 gv3 exGs (some ⟨w3.heap.size, 0, none⟩) 3 3 [300, 150, 250] w4.heap.size w4 hsl (Nat.le_refl _) rfl (fun k hk => ⟨w3.heap.size, 0, rfl, by omega, by
    rw [Nat.zero_add, cell_blk k1]
    rcases k with _ | _ | _ | k
    · rfl
    · rfl
    · rfl
    · omega⟩) ex_chk (by decide) (by decide) (by decide) (by decide)
  rw [ex_fits] at hf
  have HF := hide hf
  have HK3 := hide (HB2.out.trans ((HB3.out.trans (k3.mono hs3)).mono (by omega)))
  have HKO := hide (HB3.out.trans (k3.mono hs3))
  clear hf hw4 k1 k3 hsl
  refine HF.out.mono ?_
  rintro e w5 ⟨r, rfl, hb5, v5, rfl, ho5⟩
  simp only [List.isEmpty_nil, if_true, List.map_cons, List.map_nil, List.length_cons, List.length_nil] at ho5
  have hs5 := hb5.size
  have HB5 := hide (HK3.out.trans (hb5.mono (by omega))); have HO5 := hide ho5
  have HL5 := hide (HKO.out.trans (hb5.mono (by omega)))
  clear hb5 ho5 HF
  simp only [List.isEmpty_nil]
  go_wp2_with fail
  refine (example_any w5).mono ?_
  rintro e w6 ⟨r, rfl, hb6, gv6, rfl, ho6⟩
  obtain ⟨ga, gc, rfl⟩ := owns_form ho6
  have hs6 := hb6.size
  have HB6 := hide (HB5.out.trans (hb6.mono (by omega))); have HO6 := hide ho6
  have HL6 := hide hb6
  clear hb6 ho6
  go_wp2_with fail
  obtain ⟨m1, m2, m3⟩ := heap1 w6 (.cells #[.int .i64 60, .int .i64 120, .int .i64 1000, .int .i64 2, .int .i64 7, .slice ga 1 gc] 24)
  have hgp := SlAt.of_owns (World.ownsRow.alloc HO6.out (.cells #[.int .i64 60, .int .i64 120, .int .i64 1000, .int .i64 2, .int .i64 7, .slice ga 1 gc] 24))
  have hbr := SlAt.of_owns (World.ownsRow_lit (base := w6.heap.size) (e := 24) (size := 6) w6 #[.int .i64 60, .int .i64 120, .int .i64 1000, .int .i64 2, .int .i64 7, .slice ga 1 gc] 1 (Nat.le_refl _) (by simp [maxLen]) (by simp))
  obtain ⟨w7, hw7⟩ : ∃ w7, w6.alloc (.cells #[.int .i64 60, .int .i64 120, .int .i64 1000, .int .i64 2, .int .i64 7, .slice ga 1 gc] 24) = w7 := ⟨_, rfl⟩
  rw [hw7] at m1 m2 m3 hgp hbr ⊢
  have HB7 := HB6.out.trans (m3.mono (by omega))
  have hp := print_any (.slice (some ⟨w6.heap.size, 0, none⟩) 1 1) [exBr (.slice ga 1 gc)] w7.heap.size w7 ⟨hbr, fun i hi => by
    obtain rfl : i = 0 := by simp at hi; exact hi
    exact hgp⟩ (Nat.le_refl _) (P10.mono (HT.out.on (HB7.mono hB)) (by omega)) (ex_chks _)
  rw [ex_text] at hp
  have HP := hide hp; have HB7 := hide HB7; have HM3 := hide m3
  clear hp hw7 m1 m3 hgp hbr
  refine HP.out.mono ?_
  rintro e w8 ⟨rfl, hb8⟩
  have hs8 := hb8.size
  have HB8 := hide (HB7.out.trans (hb8.mono (by omega)))
  have HL8 := hide (HL6.out.trans ((HM3.out.mono (by omega)).trans (hb8.mono (by omega))))
  have HS2 := hide (SlAt.of_owns HO2.out)
  have HS5 := hide (SlAt.of_owns HO5.out)
  clear hb8 HP HO1 HO3 HO6 HB1 HB3 HB5 HB6 HB7 HK3 HKO HM3
  go_wp2_with fail
  obtain ⟨n1, n2, n3⟩ := heap1 w8 (.cells #[.int .i64 0, .int .i64 400, .int .i64 450, .int .i64 1000] 31)
  have hbr := SlAt.of_owns (World.ownsRow_lit (base := w8.heap.size) (e := 31) (size := 2) w8 #[.int .i64 0, .int .i64 400, .int .i64 450, .int .i64 1000] 2 (Nat.le_refl _) (by simp [maxLen]) (by simp))
  obtain ⟨w9, hw9⟩ : ∃ w9, w8.alloc (.cells #[.int .i64 0, .int .i64 400, .int .i64 450, .int .i64 1000] 31) = w9 := ⟨_, rfl⟩
  rw [hw9] at n1 n2 n3 hbr ⊢
  have HL9 := HL8.out.trans (n3.mono (by omega))
  have h29 := HL5.out.trans (HL9.mono (by omega))
  have hsg := sameGaps_any v2 (.slice (some ⟨w8.heap.size, 0, none⟩) 2 2) [(0, 400), (450, 1000)] [(0, 400), (450, 1000)] w9.heap.size w9 ((HS2.out.below h29 (Nat.le_refl _)).mono (by omega)) hbr (Nat.le_refl _) (by decide)
  have HSG := hide hsg; have HL9 := hide HL9; have HB9 := hide (HB8.out.trans (n3.mono (by omega)))
  clear hsg h29 hbr n1 n3 hw9
  refine HSG.out.mono ?_
  rintro e w10 ⟨rfl, q, rfl⟩
  clear HSG
  rcases HO5.out.2 with ⟨_, h0⟩ | ⟨g, cap, cur, rfl, hg7, hcells, hcap, hmax, hsz7, htake⟩
  · simp at h0
  have hc5 : ∀ j u, ([.int .i64 0, .int .i64 450, .int .i64 605] : List Value)[j]? = some u → w9.cell? ⟨g, 0 + j, none⟩ = some u := by
    intro j u hu
    have h1 := HO5.out.cells (g := g) rfl j u hu
    rw [Addr.add_lit] at h1
    exact (HL9.out.cell (p := ⟨g, 0 + j, none⟩) (lt_blk hcells)).trans h1
  have HC5 := hide hc5
  clear hc5 hcells hg7 hmax hsz7 htake
  simp only [decide_true]
  go_wp2_with fail
  obtain ⟨t1, t2, t3⟩ := heap1 (w9.drewN q) (.cells #[.int .i64 0, .int .i64 450, .int .i64 605] 3)
  rw [show (w9.drewN q).heap.size = w8.heap.size + 1 from n2] at t1 t2 t3
  obtain ⟨w11, hw11⟩ : ∃ w11, (w9.drewN q).alloc (.cells #[.int .i64 0, .int .i64 450, .int .i64 605] 3) = w11 := ⟨_, rfl⟩
  rw [hw11] at t1 t2 t3 ⊢
  have hgl : g < w8.heap.size + 1 := by have := (HO5.out.lt g rfl).2; omega
  have he := Tryd.slices_Equal_int g 0 3 cap (w8.heap.size + 1) 0 3 3 [0, 450, 605] [0, 450, 605] w11 (by decide) (by decide) (by decide) (by decide)
    (fun j hj => (t3.cell (p := ⟨g, 0 + j, none⟩) hgl).trans (by
      rcases j with _ | _ | _ | j
      · exact HC5.out 0 _ rfl
      · exact HC5.out 1 _ rfl
      · exact HC5.out 2 _ rfl
      · simp at hj; omega))
    (fun j hj => by
      rw [Nat.zero_add, cell_blk t1]
      rcases j with _ | _ | _ | j
      · rfl
      · rfl
      · rfl
      · simp at hj; omega)
  have HE := hide he
  have HB11 := hide (below_drewN HB9.out q |>.trans (t3.mono (by omega)))
  clear he t1 t3 hw11
  refine HE.out.mono ?_
  rintro e w12 ⟨rfl, q2, rfl⟩
  rw [show ((([0, 450, 605] : List Int).take 3) == (([0, 450, 605] : List Int).take 3)) = true by decide]
  clear HE
  go_wp2
  go_ret
  exact ⟨rfl, below_drewN HB11.out q2⟩
end Go.Proofs.YtfljmbdnnjjmoaaDoor
