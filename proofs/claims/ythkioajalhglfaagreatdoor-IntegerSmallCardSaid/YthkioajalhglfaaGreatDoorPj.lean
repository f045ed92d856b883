/-
  Integers: result walked.
-/
import Derived.Test.YthkioajalhglfaaGreatDoorPi
namespace Go.Proofs.YthkioajalhglfaaGreatDoor
open Go.RowKit Go.KP Go.KI Go.Shelf
attribute [local go_sem] Oper.semAt_some

theorem P10.on {B n : Nat} {w w2 : World} (h : P10 B w) (hb : Below n w w2) (hB : B ≤ n) : P10 B w2 := fun w' h2 => h w' ((hb.mono hB).trans h2)
/-- Limbs of a number that fits. -/
theorem fits_limbs {m : Bool} {l : List Nat} (h : Norm 1000000000 l) (hf : fits (valS m (lv 1000000000 l))) : l.length ≤ 40 := by
  rcases Nat.lt_or_ge 40 l.length with hl | hl
  · exfalso
    have hne : l ≠ [] := fun e => by rw [e] at hl; simp at hl
    have h1 := h.ge hne
    have h2 : lv 1000000000 l < lim := by
      have : (valS m (lv 1000000000 l)).natAbs = lv 1000000000 l := by cases m <;> simp [valS]
      rw [← this]
      exact hf
    have h3 : lim ≤ 1000000000 ^ (l.length - 1) := by
      have e1 : (1000000000 : Nat) ^ (l.length - 1) = 10 ^ (9 * (l.length - 1)) := by rw [Nat.pow_mul]
      rw [e1]
      exact Nat.pow_le_pow_right (by omega) (by rw [most_eq]; omega)
    omega
  · exact hl
theorem digs_size (z : Int) : (strB (digs (Lib.itoa z))).size = (Lib.decDigits z.natAbs).length := by rw [strB_size, digs_itoa]
theorem resS_yes {z : Int} (h : ¬ 300 < (Lib.decDigits z.natAbs).length) : resS z = Lib.itoa z ∧ resE z = 0 := by
  have : fits z := fits_len.2 (by omega)
  exact ⟨if_pos this, if_pos this⟩
theorem resS_no {z : Int} (h : 300 < (Lib.decDigits z.natAbs).length) : resS z = [] ∧ resE z = 4 := by
  have : ¬ fits z := fun hf => by have := fits_len.1 hf; omega
  exact ⟨if_neg this, if_neg this⟩
/-- A pair of a text and an error. -/
abbrev pairV (s : List UInt8) (e : Int) : Value := .tuple #[.string (strB s), .int .i64 e]
set_option maxRecDepth 100000 in
set_option maxHeartbeats 2000000 in
theorem result_any (m : Bool) (v : Value) (l : List Nat) (B : Nat) (w : World) (h : LimbAt B w v l) (hB : B ≤ w.heap.size) (hn : Norm 1000000000 l) (hl : l.length ≤ 100000) (hT : P10 B w) :
    Calls Tryz.prog 39 #[numV m v] w (Ret w (pairV (resS (valS m (lv 1000000000 l))) (resE (valS m (lv 1000000000 l))))) := by
  obtain ⟨a0, c0, hv⟩ := h.form
  subst hv
  have HW := hide (fun w2 (hb : Below w.heap.size w w2) => write_any m _ l B w2 (h.below hb hB) (by have := hb.size; omega) hn hl (hT.on hb hB))
  clear h hn hT
  obtain ⟨n, hnn⟩ : ∃ n, n = l.length := ⟨_, rfl⟩
  rw [← hnn] at hl HW ⊢
  clear hnn
  obtain ⟨z, hz⟩ : ∃ z, z = valS m (lv 1000000000 l) := ⟨_, rfl⟩
  rw [← hz] at HW ⊢
  clear hz
  obtain ⟨b0, bs0, bb0⟩ := heap1 w (.cells #[.bool m, .slice a0 n c0] 48)
  have B0 := hide b0; have BB := hide bb0
  have c0' := cell_blk b0 0
  have c1' := cell_blk b0 1
  clear b0 bs0 bb0
  have hd := digs_size z
  obtain ⟨t, ht⟩ : ∃ t, t = strB (Lib.itoa z) := ⟨_, rfl⟩
  obtain ⟨u, hu⟩ : ∃ u, u = strB (digs (Lib.itoa z)) := ⟨_, rfl⟩
  have HU := hide (fun w => trimPrefix_any t w)
  have HT2 := hide ht
  rw [show digs t.data.toList = digs (Lib.itoa z) by rw [ht, strB_list], ← hu] at HU
  rw [← ht] at HW
  rw [← hu] at hd
  by_cases h3 : 300 < (Lib.decDigits z.natAbs).length
  · obtain ⟨e1, e2⟩ := resS_no h3
    rw [e1, e2]
    have hc : (300 : Int) < (u.size : Int) := by omega
    have HT3 := hide ht
    clear h3 hd ht hu e1 e2
    go_enter Tryz.func39, Tryz.ntmps39
    go_wp2_with fail
    refine (HW.out _ BB.out).mono ?_
    rintro e w1 ⟨rfl, hb1⟩
    have HB1 := hide (BB.out.trans (hb1.mono (by have := BB.out.size; omega)))
    clear hb1 HW c0' c1' BB B0
    go_wp2_with fail
    refine (HU.out _).mono ?_
    rintro e w2 ⟨rfl, rfl⟩
    clear HU
    go_wp2_with fail
    refine bodyPost_ret (results_tmp2 rfl _ _ _) rfl ?_
    exact ⟨rfl, HB1.out⟩
  · obtain ⟨e1, e2⟩ := resS_yes h3
    rw [e1, e2]
    have hc : ((300 : Int) < (u.size : Int)) = False := eq_false (by omega)
    have HT3 := hide ht
    clear h3 hd ht hu e1 e2
    go_enter Tryz.func39, Tryz.ntmps39
    go_wp2_with fail
    refine (HW.out _ BB.out).mono ?_
    rintro e w1 ⟨rfl, hb1⟩
    have HB1 := hide (BB.out.trans (hb1.mono (by have := BB.out.size; omega)))
    clear hb1 HW c0' c1' BB B0
    go_wp2_with fail
    refine (HU.out _).mono ?_
    rintro e w2 ⟨rfl, rfl⟩
    clear HU
    go_wp2_with fail
    refine bodyPost_ret (results_tmp2 rfl _ _ _) rfl ?_
    exact ⟨by rw [HT2.out]; rfl, HB1.out⟩
end Go.Proofs.YthkioajalhglfaaGreatDoor
