/-
  Integers: Power walked.
-/
import Derived.Test.YthkioajalhglfaaGreatDoorL7
namespace Go.Proofs.YthkioajalhglfaaGreatDoor
open Go.RowKit Go.KP Go.KI Go.Shelf
attribute [local go_sem] Oper.semAt_some

theorem fits_one : fits 1 := fits_small (n := 1) (by rw [most_eq]; omega) (by decide)
theorem fits_zero : fits 0 := fits_small (n := 1) (by rw [most_eq]; omega) (by decide)
theorem pow_fits {x : Int} {i k : Nat} (h : fits (x ^ k)) (hi : i ≤ k) : fits (x ^ i) := by
  rcases Nat.eq_zero_or_pos x.natAbs with h0 | h0
  · have hx : x = 0 := by omega
    rcases Nat.eq_zero_or_pos i with hi0 | hi0
    · rw [hi0, Int.pow_zero]
      exact fits_one
    · rw [hx, Int.zero_pow (by omega)]
      exact fits_zero
  · refine fits_of_le h ?_
    rw [Int.natAbs_pow, Int.natAbs_pow]
    exact Nat.pow_le_pow_right h0 hi
/-- Mul at two good texts, whether the product fits or not. -/
theorem Mul_good {s t : ByteArray} {x y : Int} (h1 : s.data.toList = Lib.itoa x) (h2 : t.data.toList = Lib.itoa y) (f1 : fits x) (f2 : fits y) (B : Nat) (w : World) (hB : B ≤ w.heap.size) (hT : P10 B w) :
    Calls Tryz.prog 15 #[.string s, .string t] w (Ret w (pairV (resS (x * y)) (resE (x * y)))) := by
  have c1 : chkI s.data.toList = 0 := by rw [h1]; exact chk_fits f1
  have c2 : chkI t.data.toList = 0 := by rw [h2]; exact chk_fits f2
  have b : bothI s.data.toList t.data.toList = 0 := by unfold bothI; rw [if_pos c1, c2]
  have l1 := (chk_digs c1).2
  have l2 := (chk_digs c2).2
  rw [bytes_len] at l1 l2
  obtain ⟨_, _, e1, e2⟩ := op2_good (f := (· * ·)) b
  have := Mul_any s t B w (by omega) (by omega) hB hT
  rw [e1, e2, h1, h2, val_itoa, val_itoa] at this
  exact this
set_option maxRecDepth 100000 in
set_option maxHeartbeats 2000000 in
theorem Power_good (s : ByteArray) (x : Int) (k : Nat) (B : Nat) (w : World) (h1 : s.data.toList = Lib.itoa x) (f1 : fits x) (hk : k ≤ 4096) (hB : B ≤ w.heap.size) (hT : P10 B w) :
    Calls Tryz.prog 23 #[.string s, .int .i64 k] w (Ret w (pairV (resS (x ^ k)) (resE (x ^ k)))) := by
  have HT := hide hT
  have c1 : chkI s.data.toList = 0 := by rw [h1]; exact chk_fits f1
  have l1 := (chk_digs c1).2
  rw [bytes_len] at l1
  have HC := hide (check_any s (by omega) w)
  rw [c1] at HC
  have HM := hide (fun (i : Nat) (r : ByteArray) (hr : r.data.toList = Lib.itoa (x ^ i)) (fi : fits (x ^ i)) B w => Mul_good hr h1 fi f1 B w)
  have g1 : ((k : Int) < 0) = False := eq_false (by omega)
  have g2 : ((4096 : Int) < (k : Int)) = False := eq_false (by omega)
  clear hT c1 l1 h1 f1
  go_enter Tryz.func23, Tryz.ntmps23
  go_wp2_with fail
  refine HC.out.mono ?_
  rintro e w1 ⟨rfl, hb1⟩
  have HB1 := hide hb1
  clear hb1 HC
  go_wp2_with fail
  clear g1 g2
  go_loopw [7, 22] (fun r i wr => ∃ (n : Nat) (t : ByteArray), n ≤ k ∧ i = .int .i64 n ∧ r = .string t ∧ Hid (t.data.toList = Lib.itoa (x ^ n) ∧ fits (x ^ n) ∧ Below w.heap.size w wr)) (fun _ i _ => k - (intOf i).toNat)
  case atStart => exact ⟨0, ⟨#[49]⟩, Nat.zero_le _, rfl, rfl, by rw [Int.pow_zero, itoa_one], by rw [Int.pow_zero]; exact fits_one, HB1.out⟩
  case round =>
    obtain ⟨n, t, hn, rfl, rfl, hin⟩ := hrel
    have IN := hide hin.out
    clear hin
    by_cases hlt : n < k
    · have hl : (n : Int) < (k : Int) := by omega
      have HM1 := hide (HM.out n t IN.out.1 IN.out.2.1 B wr (Nat.le_trans hB IN.out.2.2.size) (HT.out.on IN.out.2.2 hB))
      rw [← Int.pow_succ] at HM1
      by_cases hf : fits (x ^ (n + 1))
      · have e3 : resS (x ^ (n + 1)) = Lib.itoa (x ^ (n + 1)) := if_pos hf
        have e4 : resE (x ^ (n + 1)) = 0 := if_pos hf
        obtain ⟨u, hu⟩ : ∃ u, u = strB (Lib.itoa (x ^ (n + 1))) := ⟨_, rfl⟩
        rw [pairV, e3, e4, ← hu] at HM1
        have HF := hide hf; have HU := hide (show u.data.toList = Lib.itoa (x ^ (n + 1)) by rw [hu]; exact strB_list _)
        clear hf e3 e4 hu
        go_wp2_with fail
        refine HM1.out.mono ?_
        rintro e w2 ⟨rfl, hb2⟩
        have HB2 := hide (IN.out.2.2.trans (hb2.mono IN.out.2.2.size))
        clear hb2 HM1
        go_wp2_with fail
        go_roundw
        case rel => exact ⟨n + 1, u, by omega, by simp, rfl, HU.out, HF.out, HB2.out⟩
        case measure => simp [intOf]; omega
      · have hfk : ¬ fits (x ^ k) := fun h => hf (pow_fits h (by omega))
        have e3 : resS (x ^ (n + 1)) = [] := if_neg hf
        have e4 : resE (x ^ (n + 1)) = 4 := if_neg hf
        have HE := hide (show resS (x ^ k) = [] ∧ resE (x ^ k) = 4 from ⟨if_neg hfk, if_neg hfk⟩)
        rw [pairV, e3, e4] at HM1
        clear hf hfk e3 e4
        go_wp2_with fail
        refine HM1.out.mono ?_
        rintro e w2 ⟨rfl, hb2⟩
        have HB2 := hide (IN.out.2.2.trans (hb2.mono IN.out.2.2.size))
        clear hb2 HM1
        go_wp2_with fail
        refine bodyPost_ret (results_tmp2 rfl _ _ _) rfl ?_
        exact ⟨by rw [HE.out.1, HE.out.2]; rfl, HB2.out⟩
    · obtain rfl : n = k := by omega
      have hl : ((n : Int) < (n : Int)) = False := eq_false (by omega)
      have HE := hide (show resS (x ^ n) = Lib.itoa (x ^ n) ∧ resE (x ^ n) = 0 from ⟨if_pos IN.out.2.1, if_pos IN.out.2.1⟩)
      clear hlt
      go_wp2_with fail
      refine bodyPost_ret (results_tmp2 rfl _ _ _) rfl ?_
      exact ⟨by rw [HE.out.1, HE.out.2, ← IN.out.1]; rfl, IN.out.2.2⟩
end Go.Proofs.YthkioajalhglfaaGreatDoor
