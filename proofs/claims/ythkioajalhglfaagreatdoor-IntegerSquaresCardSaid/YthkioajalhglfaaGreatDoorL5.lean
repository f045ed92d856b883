/-
  Integers: the law Powers.
-/
import Derived.Test.YthkioajalhglfaaGreatDoorPx
namespace Go.Proofs.YthkioajalhglfaaGreatDoor
open Go.RowKit Go.KP Go.KI Go.Shelf
attribute [local go_sem] Oper.semAt_some

theorem heap_one (w : World) (a : ByteArray) (t : TypeId) (i : Nat) (s : ByteArray) (h : [a][i]? = some s) : (w.alloc (.cells #[.string a] t)).cell? ⟨w.heap.size, i, none⟩ = some (.string s) := by
  obtain ⟨g0, _, _⟩ := heap1 w (.cells #[.string a] t)
  rw [cell_blk g0 i]
  match i with
  | 0 => simpa using h
  | n + 1 => simp at h
theorem err_cases (z : Int) : (fits z ∧ resE z = 0 ∧ resS z = Lib.itoa z) ∨ (¬ fits z ∧ resE z = 4 ∧ resS z = []) := by
  by_cases h : fits z
  · exact .inl ⟨h, if_pos h, if_pos h⟩
  · exact .inr ⟨h, if_neg h, if_neg h⟩
set_option maxRecDepth 100000 in
set_option maxHeartbeats 4000000 in
theorem powers_any (a : ByteArray) (i j : Nat) (hi : i ≤ 255) (hj : j ≤ 255) (B : Nat) (w : World) (hB : B ≤ w.heap.size) (hT : P10 B w) :
    Calls Tryz.prog 5 #[.string a, .int .u8 i, .int .u8 j] w (Ret w (.bool true)) := by
  have HT := hide hT
  have HAW := hide (fun w2 (hb : Below w.heap.size w w2) => awake_any B w2 (Nat.le_trans hB hb.size) (hT.on hb hB))
  clear hT
  have HF := hide (fun t => fine_any w.heap.size [a] (w.alloc (.cells #[.string a] t)) (by simp) (heap_one w a t) (by simp))
  obtain ⟨F, hF⟩ : ∃ F, F = decide (∀ s ∈ [a], fineS s) := ⟨_, rfl⟩
  rw [← hF] at HF
  cases F
  · have G0 := hide (fun o => (heap1 w o).2.2)
    clear hF
    go_enter Tryz.func5, Tryz.ntmps5
    go_wp2_with fail
    refine (HF.out _).mono ?_
    rintro e w1 ⟨rfl, hb1⟩
    have HB1 := hide ((G0.out _).trans (hb1.mono (G0.out _).size))
    clear hb1 HF G0
    go_wp2_with fail
    refine (HAW.out _ HB1.out).mono ?_
    rintro e w2 ⟨rfl, hb2⟩
    have HB2 := hide (HB1.out.trans (hb2.mono HB1.out.size))
    clear hb2 HAW HB1
    go_wp2_with fail
    go_ret
    exact ⟨rfl, HB2.out⟩
  · have hf := of_decide_eq_true hF.symm
    have fa := hf a (by simp)
    clear hF hf
    have ea := (chk_ok fa.2).1
    have fx := (chk_ok fa.2).2
    obtain ⟨x, hx⟩ : ∃ x, x = valI a.data.toList := ⟨_, rfl⟩
    rw [← hx] at ea fx
    clear fa hx
    have K1 := hide (show ∀ B w, B ≤ w.heap.size → P10 B w → Calls Tryz.prog 23 #[.string a, .int .i64 1] w (Ret w (.tuple #[.string a, .int .i64 0])) from fun B w hB hT => by
      have h := Power_good a x 1 B w ea fx (by omega) hB hT
      rw [Int.pow_succ, Int.pow_zero, Int.one_mul, pairV, show resS x = Lib.itoa x from if_pos fx, show resE x = 0 from if_pos fx, strB_eq ea] at h
      exact h)
    have K0 := hide (show ∀ B w, B ≤ w.heap.size → P10 B w → Calls Tryz.prog 23 #[.string a, .int .i64 0] w (Ret w (.tuple #[.string ⟨#[49]⟩, .int .i64 0])) from fun B w hB hT => by
      have h := Power_good a x 0 B w ea fx (by omega) hB hT
      rw [Int.pow_zero, pairV, show resS 1 = Lib.itoa 1 from if_pos fits_one, show resE 1 = 0 from if_pos fits_one, itoa_one] at h
      exact h)
    have KI := hide (fun B w => Power_good a x i B w ea fx (by omega))
    have KJ := hide (fun B w => Power_good a x j B w ea fx (by omega))
    have KS := hide (fun B w => Power_good a x (i + j) B w ea fx (by omega))
    rw [Int.natCast_add] at KS
    have G0 := hide (fun o => (heap1 w o).2.2)
    have hij1 := pow_fits (x := x) (i := i) (k := i + j) 
    have hij2 := pow_fits (x := x) (i := j) (k := i + j)
    have KM := hide (fun (s t : ByteArray) h1 h2 f1 f2 B w => Mul_good (s := s) (t := t) (x := x ^ i) (y := x ^ j) h1 h2 f1 f2 B w)
    rw [← Int.pow_add] at KM
    have HX := hide ea; have FX := hide fx
    clear ea fx
    obtain ⟨X, hX⟩ : ∃ X, X = x ^ i := ⟨_, rfl⟩
    obtain ⟨Y, hY⟩ : ∃ Y, Y = x ^ j := ⟨_, rfl⟩
    obtain ⟨Z, hZ⟩ : ∃ Z, Z = x ^ (i + j) := ⟨_, rfl⟩
    rw [← hX] at KI KM hij1
    rw [← hY] at KJ KM hij2
    rw [← hZ] at KS KM hij1 hij2
    clear hX hY hZ
    rcases err_cases X with ⟨fX, eX, sX⟩ | ⟨fX, eX, sX⟩
    · rcases err_cases Y with ⟨fY, eY, sY⟩ | ⟨fY, eY, sY⟩
      rotate_left
      · have fZ : ¬ fits Z := fun h => fY (hij2 h (by omega))
        have eZ : resE Z = 4 := if_neg fZ
        have sZ : resS Z = [] := if_neg fZ
        rw [pairV, sX, eX] at KI
        rw [pairV, sY, eY] at KJ
        rw [pairV, sZ, eZ] at KS
        obtain ⟨p, hp⟩ : ∃ p, p = strB (Lib.itoa X) := ⟨_, rfl⟩
        obtain ⟨q, hq⟩ : ∃ q, q = strB [] := ⟨_, rfl⟩
        rw [← hp] at KI
        rw [← hq] at KJ
        clear fZ eZ sZ sX eX sY eY fX fY hij1 hij2 KM hp hq HX FX
        go_enter Tryz.func5, Tryz.ntmps5
        go_wp2_with fail
        refine (HF.out _).mono ?_
        rintro e w1 ⟨rfl, hb1⟩
        have HB1 := hide ((G0.out _).trans (hb1.mono (G0.out _).size))
        clear hb1 HF G0
        go_wp2_with fail
        refine (K1.out B _ (Nat.le_trans hB HB1.out.size) (HT.out.on HB1.out hB)).mono ?_
        rintro e w2 ⟨rfl, hb2⟩
        have HB2 := hide (HB1.out.trans (hb2.mono HB1.out.size))
        clear hb2 K1 HB1
        go_wp2_with fail
        refine (K0.out B _ (Nat.le_trans hB HB2.out.size) (HT.out.on HB2.out hB)).mono ?_
        rintro e w3 ⟨rfl, hb3⟩
        have HB3 := hide (HB2.out.trans (hb3.mono HB2.out.size))
        clear hb3 K0 HB2
        go_wp2_with fail
        refine (KI.out B _ (Nat.le_trans hB HB3.out.size) (HT.out.on HB3.out hB)).mono ?_
        rintro e w4 ⟨rfl, hb4⟩
        have HB4 := hide (HB3.out.trans (hb4.mono HB3.out.size))
        clear hb4 KI HB3
        go_wp2_with fail
        refine (KJ.out B _ (Nat.le_trans hB HB4.out.size) (HT.out.on HB4.out hB)).mono ?_
        rintro e w5 ⟨rfl, hb5⟩
        have HB5 := hide (HB4.out.trans (hb5.mono HB4.out.size))
        clear hb5 KJ HB4
        go_wp2_with fail
        refine (KS.out B _ (Nat.le_trans hB HB5.out.size) (HT.out.on HB5.out hB)).mono ?_
        rintro e w6 ⟨rfl, hb6⟩
        have HB6 := hide (HB5.out.trans (hb6.mono HB5.out.size))
        clear hb6 KS HB5
        go_wp2_with fail
        refine (HAW.out _ HB6.out).mono ?_
        rintro e w7 ⟨rfl, hb7⟩
        have HB7 := hide (HB6.out.trans (hb7.mono HB6.out.size))
        clear hb7 HAW HB6
        go_wp2_with fail
        go_ret
        exact ⟨rfl, HB7.out⟩
      obtain ⟨p, hp⟩ : ∃ p, p = strB (Lib.itoa X) := ⟨_, rfl⟩
      obtain ⟨q, hq⟩ : ∃ q, q = strB (Lib.itoa Y) := ⟨_, rfl⟩
      obtain ⟨u, hu⟩ : ∃ u, u = strB (resS Z) := ⟨_, rfl⟩
      obtain ⟨E, hE⟩ : ∃ E, E = resE Z := ⟨_, rfl⟩
      rw [pairV, sX, eX, ← hp] at KI
      rw [pairV, sY, eY, ← hq] at KJ
      rw [pairV, ← hu, ← hE] at KS KM
      have KN := hide (KM.out p q (by rw [hp]; exact strB_list _) (by rw [hq]; exact strB_list _) fX fY)
      have tu : (u.toList == u.toList) = true := beq_self_eq_true _
      have tE : (E == E) = true := beq_self_eq_true _
      clear hp hq hu hE sX eX sY eY fX fY hij1 hij2 KM HX FX
      go_enter Tryz.func5, Tryz.ntmps5
      go_wp2_with fail
      refine (HF.out _).mono ?_
      rintro e w1 ⟨rfl, hb1⟩
      have HB1 := hide ((G0.out _).trans (hb1.mono (G0.out _).size))
      clear hb1 HF G0
      go_wp2_with fail
      refine (K1.out B _ (Nat.le_trans hB HB1.out.size) (HT.out.on HB1.out hB)).mono ?_
      rintro e w2 ⟨rfl, hb2⟩
      have HB2 := hide (HB1.out.trans (hb2.mono HB1.out.size))
      clear hb2 K1 HB1
      go_wp2_with fail
      refine (K0.out B _ (Nat.le_trans hB HB2.out.size) (HT.out.on HB2.out hB)).mono ?_
      rintro e w3 ⟨rfl, hb3⟩
      have HB3 := hide (HB2.out.trans (hb3.mono HB2.out.size))
      clear hb3 K0 HB2
      go_wp2_with fail
      refine (KI.out B _ (Nat.le_trans hB HB3.out.size) (HT.out.on HB3.out hB)).mono ?_
      rintro e w4 ⟨rfl, hb4⟩
      have HB4 := hide (HB3.out.trans (hb4.mono HB3.out.size))
      clear hb4 KI HB3
      go_wp2_with fail
      refine (KJ.out B _ (Nat.le_trans hB HB4.out.size) (HT.out.on HB4.out hB)).mono ?_
      rintro e w5 ⟨rfl, hb5⟩
      have HB5 := hide (HB4.out.trans (hb5.mono HB4.out.size))
      clear hb5 KJ HB4
      go_wp2_with fail
      refine (KS.out B _ (Nat.le_trans hB HB5.out.size) (HT.out.on HB5.out hB)).mono ?_
      rintro e w6 ⟨rfl, hb6⟩
      have HB6 := hide (HB5.out.trans (hb6.mono HB5.out.size))
      clear hb6 KS HB5
      go_wp2_with fail
      refine (KN.out B _ (Nat.le_trans hB HB6.out.size) (HT.out.on HB6.out hB)).mono ?_
      rintro e w7 ⟨rfl, hb7⟩
      have HB7 := hide (HB6.out.trans (hb7.mono HB6.out.size))
      clear hb7 KN HB6
      go_wp2_with fail
      refine (HAW.out _ HB7.out).mono ?_
      rintro e w8 ⟨rfl, hb8⟩
      have HB8 := hide (HB7.out.trans (hb8.mono HB7.out.size))
      clear hb8 HAW HB7
      go_wp2_with fail
      go_ret
      exact ⟨rfl, HB8.out⟩
    · rcases err_cases Y with ⟨fY, eY, sY⟩ | ⟨fY, eY, sY⟩
      · have fZ : ¬ fits Z := fun h => fX (hij1 h (by omega))
        have eZ : resE Z = 4 := if_neg fZ
        have sZ : resS Z = [] := if_neg fZ
        rw [pairV, sX, eX] at KI
        rw [pairV, sY, eY] at KJ
        rw [pairV, sZ, eZ] at KS
        obtain ⟨p, hp⟩ : ∃ p, p = strB [] := ⟨_, rfl⟩
        obtain ⟨q, hq⟩ : ∃ q, q = strB (Lib.itoa Y) := ⟨_, rfl⟩
        rw [← hp] at KI
        rw [← hq] at KJ
        clear fZ eZ sZ sX eX sY eY fX fY hij1 hij2 KM hp hq HX FX
        go_enter Tryz.func5, Tryz.ntmps5
        go_wp2_with fail
        refine (HF.out _).mono ?_
        rintro e w1 ⟨rfl, hb1⟩
        have HB1 := hide ((G0.out _).trans (hb1.mono (G0.out _).size))
        clear hb1 HF G0
        go_wp2_with fail
        refine (K1.out B _ (Nat.le_trans hB HB1.out.size) (HT.out.on HB1.out hB)).mono ?_
        rintro e w2 ⟨rfl, hb2⟩
        have HB2 := hide (HB1.out.trans (hb2.mono HB1.out.size))
        clear hb2 K1 HB1
        go_wp2_with fail
        refine (K0.out B _ (Nat.le_trans hB HB2.out.size) (HT.out.on HB2.out hB)).mono ?_
        rintro e w3 ⟨rfl, hb3⟩
        have HB3 := hide (HB2.out.trans (hb3.mono HB2.out.size))
        clear hb3 K0 HB2
        go_wp2_with fail
        refine (KI.out B _ (Nat.le_trans hB HB3.out.size) (HT.out.on HB3.out hB)).mono ?_
        rintro e w4 ⟨rfl, hb4⟩
        have HB4 := hide (HB3.out.trans (hb4.mono HB3.out.size))
        clear hb4 KI HB3
        go_wp2_with fail
        refine (KJ.out B _ (Nat.le_trans hB HB4.out.size) (HT.out.on HB4.out hB)).mono ?_
        rintro e w5 ⟨rfl, hb5⟩
        have HB5 := hide (HB4.out.trans (hb5.mono HB4.out.size))
        clear hb5 KJ HB4
        go_wp2_with fail
        refine (KS.out B _ (Nat.le_trans hB HB5.out.size) (HT.out.on HB5.out hB)).mono ?_
        rintro e w6 ⟨rfl, hb6⟩
        have HB6 := hide (HB5.out.trans (hb6.mono HB5.out.size))
        clear hb6 KS HB5
        go_wp2_with fail
        refine (HAW.out _ HB6.out).mono ?_
        rintro e w7 ⟨rfl, hb7⟩
        have HB7 := hide (HB6.out.trans (hb7.mono HB6.out.size))
        clear hb7 HAW HB6
        go_wp2_with fail
        go_ret
        exact ⟨rfl, HB7.out⟩
      · have fZ : ¬ fits Z := fun h => fX (hij1 h (by omega))
        have eZ : resE Z = 4 := if_neg fZ
        have sZ : resS Z = [] := if_neg fZ
        rw [pairV, sX, eX] at KI
        rw [pairV, sY, eY] at KJ
        rw [pairV, sZ, eZ] at KS
        obtain ⟨p, hp⟩ : ∃ p, p = strB [] := ⟨_, rfl⟩
        obtain ⟨q, hq⟩ : ∃ q, q = strB [] := ⟨_, rfl⟩
        rw [← hp] at KI
        rw [← hq] at KJ
        clear fZ eZ sZ sX eX sY eY fX fY hij1 hij2 KM hp hq HX FX
        go_enter Tryz.func5, Tryz.ntmps5
        go_wp2_with fail
        refine (HF.out _).mono ?_
        rintro e w1 ⟨rfl, hb1⟩
        have HB1 := hide ((G0.out _).trans (hb1.mono (G0.out _).size))
        clear hb1 HF G0
        go_wp2_with fail
        refine (K1.out B _ (Nat.le_trans hB HB1.out.size) (HT.out.on HB1.out hB)).mono ?_
        rintro e w2 ⟨rfl, hb2⟩
        have HB2 := hide (HB1.out.trans (hb2.mono HB1.out.size))
        clear hb2 K1 HB1
        go_wp2_with fail
        refine (K0.out B _ (Nat.le_trans hB HB2.out.size) (HT.out.on HB2.out hB)).mono ?_
        rintro e w3 ⟨rfl, hb3⟩
        have HB3 := hide (HB2.out.trans (hb3.mono HB2.out.size))
        clear hb3 K0 HB2
        go_wp2_with fail
        refine (KI.out B _ (Nat.le_trans hB HB3.out.size) (HT.out.on HB3.out hB)).mono ?_
        rintro e w4 ⟨rfl, hb4⟩
        have HB4 := hide (HB3.out.trans (hb4.mono HB3.out.size))
        clear hb4 KI HB3
        go_wp2_with fail
        refine (KJ.out B _ (Nat.le_trans hB HB4.out.size) (HT.out.on HB4.out hB)).mono ?_
        rintro e w5 ⟨rfl, hb5⟩
        have HB5 := hide (HB4.out.trans (hb5.mono HB4.out.size))
        clear hb5 KJ HB4
        go_wp2_with fail
        refine (KS.out B _ (Nat.le_trans hB HB5.out.size) (HT.out.on HB5.out hB)).mono ?_
        rintro e w6 ⟨rfl, hb6⟩
        have HB6 := hide (HB5.out.trans (hb6.mono HB5.out.size))
        clear hb6 KS HB5
        go_wp2_with fail
        refine (HAW.out _ HB6.out).mono ?_
        rintro e w7 ⟨rfl, hb7⟩
        have HB7 := hide (HB6.out.trans (hb7.mono HB6.out.size))
        clear hb7 HAW HB6
        go_wp2_with fail
        go_ret
        exact ⟨rfl, HB7.out⟩
end Go.Proofs.YthkioajalhglfaaGreatDoor
